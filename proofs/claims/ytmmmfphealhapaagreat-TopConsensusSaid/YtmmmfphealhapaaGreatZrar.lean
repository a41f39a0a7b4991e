/- fiducialref01: plus, minus, scaled, shifted, size fiducialref01: short, parts -/
import Derived.Test.YtmmmfphealhapaaGreatZraq
import Derived.Test.YtmmmfphealhapaaGreatZrak
import Derived.Test.YtmmmfphealhapaaGreatZrao
import Derived.Test.YtmmmfphealhapaaGreatZram
set_option linter.unusedSimpArgs false
set_option linter.unusedVariables false
set_option maxRecDepth 100000
set_option maxHeartbeats 4000000
namespace Go.Proofs.YtmmmfphealhapaaGreat
open Go Go.Fx
theorem rY (l : List Int) (x : Int) : val (l ++ [x]) = val l + 1000000000 ^ l.length * x := by rw [val_append]; simp [val]
theorem nH (l : List Int) (i : Nat) : val (l.take (i + 1)) = val (l.take i) + 1000000000 ^ i * gt l (i : Int) := by rw [bP, tH]
section
variable {X : List Nat} {w0 : World} {M0 : List Ent} {I0 : List bA}
theorem lY {q : Option Addr} {l : List Int} {n c : Nat} (h63 : l.length ≤ 1000000000000) (hc : l.length ≤ c) (hok : Ok q ∨ (l.length = 0 ∧ c = 0)) (hd : Dig l) (hv : val l = n) (hl : aX q (recs eG l) ∈ I0) :
  CD Tryz.prog 228 [.bool false, .slice q l.length c] X w0 M0 I0 (fun v M I => M0 = M ∧ ∃ q' c', v = .agg #[.bool (B (False ∧ n ≠ 0)), .slice q' (gr n).length c'] ∧ oO q' n c' ∧ I = aX q' (recs eG (gr n)) :: I0) := by
 have := aAP (X := X) (w0 := w0) (M0 := M0) (I0 := I0) (p := False) h63 hc hok hd hv hl
 rwa [dF (show ¬ False from id)] at this
theorem yA {s : Int} (h : 0 ≤ s) : s.tmod 1000000000 = s % 1000000000 := Int.tmod_eq_emod_of_nonneg h
theorem yG {s : Int} (h : 0 ≤ s) : s.tdiv 1000000000 = s / 1000000000 := Int.tdiv_eq_ediv_of_nonneg h
theorem aKQ {p q : Option Addr} {m n cp cq : Nat} (hm : (gr m).length ≤ 100000000000) (hn : (gr n).length ≤ 100000000000) (hp : aX p (recs eG (gr m)) ∈ I0) (hq : aX q (recs eG (gr n)) ∈ I0) :
  CD Tryz.prog 260 [.slice p (gr m).length cp, .slice q (gr n).length cq] X w0 M0 I0 (GrP (m + n) M0 I0) := by
 have da := bW m
 have db := bW n
 have va := dC m
 have vb := dC n
 generalize ha : gr m = a at *
 generalize hb : gr n = b at *
 obtain ⟨N, hN⟩ : ∃ N : Nat, N = max a.length b.length := ⟨_, rfl⟩
 refine bI Tryz.func260 rfl Tryz.ntmps260 rfl ?_
 repeat' (first | refine bE ?_ | refine aV rfl (fun h => ?_) (fun h => ?_) | refine aW rfl rfl (fun h => ?_) (fun h => ?_) | fail)
 (refine dM (cs := recs eG []) ([]) rfl rfl (by intro v hv; repeat (first | exact absurd hv (List.not_mem_nil) | (rcases List.mem_cons.1 hv with rfl | hv; · rfl))) (by omega) rfl rfl rfl ?_; intro b1; refine ⟨okF, ?_⟩)
 repeat' (first | refine bE ?_ | refine aV rfl (fun h => ?_) (fun h => ?_) | refine aW rfl rfl (fun h => ?_) (fun h => ?_) | fail)
 refine pO (b := b1) (mm := 0) 1 lN rfl (by omega) ?_
 refine bG [0, 1] rfl (fun k G M I => ∃ (i : Nat) (o : List Int) (cr : Int) (q1 : Option Addr) (c1 : Nat), i ≤ N ∧ k = N - i ∧ o.length = i ∧ Dig o ∧ (0 ≤ cr ∧ cr ≤ 1) ∧ val o + 1000000000 ^ i * cr = val (a.take i) + val (b.take i) ∧ G = [(5, .slice q1 o.length c1), (6, .int .u64 cr), (7, .int .i64 i)] ∧ M = .row q1 o.length c1 (recs eG o) 121 1 :: M0 ∧ I0 = I) (N) _ _ _ aS aG aF (⟨0, [], 0, _, _, by omega, rfl, rfl, Dig.nil, by omega, by simp [val], rfl, rfl, rfl⟩) ?_
 rintro k G M I ⟨i, o, cr, q1, c1, hi, rfl, ho, hd, hcr, hv, rfl, rfl, rfl⟩
 by_cases hiN : i < N
 ·have d1 := da.gt i
  have d2 := db.gt i
  have e1 := yA (s := gt a i + gt b i + cr) (by omega)
  have e2 := yG (s := gt a i + gt b i + cr) (by omega)
  obtain ⟨s, hs⟩ : ∃ s, s = (gt a i + gt b i + cr) % 1000000000 := ⟨_, rfl⟩
  obtain ⟨t, ht⟩ : ∃ t, t = (gt a i + gt b i + cr) / 1000000000 := ⟨_, rfl⟩
  have hst : 0 ≤ s ∧ s < 1000000000 ∧ 0 ≤ t ∧ t ≤ 1 ∧ s + 1000000000 * t = gt a i + gt b i + cr := by omega
  rw [← hs] at e1
  rw [← ht] at e2
  have hG := fun M0 I0 => nI (X := X) (w0 := w0) (M0 := M0) (I0 := I0) (q := p) (l := a) (n := a.length) (c := cp) (i := i) rfl (by omega)
  have hG2 := fun M0 I0 => nI (X := X) (w0 := w0) (M0 := M0) (I0 := I0) (q := q) (l := b) (n := b.length) (c := cq) (i := i) rfl (by omega)
  repeat' (first | refine bE ?_ | refine aV rfl (fun h => ?_) (fun h => ?_) | refine aW rfl rfl (fun h => ?_) (fun h => ?_) | fail)
  all_goals
   (refine aA rfl (hG _ _ aB da) rfl rfl ?_; rintro _ _ _ ⟨rfl, rfl, rfl⟩; refine ⟨okF, ?_⟩)
   repeat' (first | refine bE ?_ | refine aV rfl (fun h => ?_) (fun h => ?_) | refine aW rfl rfl (fun h => ?_) (fun h => ?_) | fail)
   (refine aA rfl (hG2 _ _ aB db) rfl rfl ?_; rintro _ _ _ ⟨rfl, rfl, rfl⟩; refine ⟨okF, ?_⟩)
   repeat' (first | refine bE ?_ | refine aV rfl (fun h => ?_) (fun h => ?_) | refine aW rfl rfl (fun h => ?_) (fun h => ?_) | fail)
   rw [e1]
   repeat' (first | refine bE ?_ | refine aV rfl (fun h => ?_) (fun h => ?_) | refine aW rfl rfl (fun h => ?_) (fun h => ?_) | fail)
   (refine dM (cs := recs eG [s]) ([.int .u32 s]) rfl rfl (by intro v hv; repeat (first | exact absurd hv (List.not_mem_nil) | (rcases List.mem_cons.1 hv with rfl | hv; · rfl))) (by omega) rfl rfl rfl ?_; intro b2; refine ⟨okF, ?_⟩)
   (refine iK (ys := [s]) 1 rfl rfl rfl ?_ (by decide) rfl (by omega) (by omega) rfl rfl ?_; (· first | exact Src.blk aB | exact Src.row aB | exact Src.imm aB (by first | assumption | exact .inl (Ok.mk _ _))); intro a2 c2; refine ⟨okF, ?_⟩)
   repeat' (first | refine bE ?_ | refine aV rfl (fun h => ?_) (fun h => ?_) | refine aW rfl rfl (fun h => ?_) (fun h => ?_) | fail)
   rw [e2]
   refine aQ (N - (i + 1)) _ _ _ (by first | omega | (simp only [List.length_append, List.length_cons, List.length_nil]; omega)) aS aG aF (⟨i + 1, o ++ [s], t, a2, c2, by omega, rfl, by simp; omega, hd.snoc (by omega), by omega, ?_, rfl, rfl, rfl⟩)
   rw [rY, nH, nH, ho, Int.pow_succ, Int.mul_assoc]
   have h3 := congrArg (fun x => 1000000000 ^ i * x) hst.2.2.2.2
   simp only [Int.mul_add] at h3 hv ⊢
   omega
 ·obtain rfl : i = N := by omega
  rw [List.take_of_length_le (show a.length ≤ i by omega), List.take_of_length_le (show b.length ≤ i by omega), va, vb] at hv
  have hv2 : val (o ++ [cr]) = ((m + n : Nat) : Int) := by rw [rY, ho, hv]; omega
  have hd2 : Dig (o ++ [cr]) := hd.snoc (by omega)
  repeat' (first | refine bE ?_ | refine aV rfl (fun h => ?_) (fun h => ?_) | refine aW rfl rfl (fun h => ?_) (fun h => ?_) | fail)
  (refine dM (cs := recs eG [cr]) ([.int .u32 cr]) rfl rfl (by intro v hv; repeat (first | exact absurd hv (List.not_mem_nil) | (rcases List.mem_cons.1 hv with rfl | hv; · rfl))) (by omega) rfl rfl rfl ?_; intro b2; refine ⟨okF, ?_⟩)
  (refine iK (ys := [cr]) 1 rfl rfl rfl ?_ (by decide) rfl (by omega) (by omega) rfl rfl ?_; (· first | exact Src.blk aB | exact Src.row aB | exact Src.imm aB (by first | assumption | exact .inl (Ok.mk _ _))); intro a2 c2; refine ⟨okF, ?_⟩)
  refine lU (fun w hw => And.intro (hw.rowLe (List.Mem.tail _ (List.Mem.head _))) ((hw.rowS (List.Mem.tail _ (List.Mem.head _))).2.imp id And.right)) (fun ho3 => ?_)
  refine fO tL ?_
  (refine aA rfl (lY (by simp; omega) ho3.1 ho3.2 hd2 hv2 aB) rfl rfl ?_; rintro _ _ _ ⟨rfl, q', c', rfl, hc', rfl⟩; refine ⟨okF, ?_⟩)
  repeat' (first | refine bE ?_ | refine aV rfl (fun h => ?_) (fun h => ?_) | refine aW rfl rfl (fun h => ?_) (fun h => ?_) | fail)
  refine aN (by first | exact .inl rfl | exact .inr rfl) rfl rfl _ _ aG aF (⟨rfl, q', c', rfl, hc', rfl⟩)
theorem sZ {p q : Option Addr} {m n cp cq : Nat} (hm : (gr m).length ≤ 100000000000) (hle : n ≤ m) (hp : aX p (recs eG (gr m)) ∈ I0) (hq : aX q (recs eG (gr n)) ∈ I0) :
  CD Tryz.prog 262 [.slice p (gr m).length cp, .slice q (gr n).length cq] X w0 M0 I0 (GrP (m - n) M0 I0) := by
 have da := bW m
 have db := bW n
 have va := dC m
 have vb := dC n
 have hl : (gr n).length ≤ (gr m).length := gG hle
 generalize ha : gr m = a at *
 generalize hb : gr n = b at *
 obtain ⟨N, hN⟩ : ∃ N : Nat, N = a.length := ⟨_, rfl⟩
 refine bI Tryz.func262 rfl Tryz.ntmps262 rfl ?_
 repeat' (first | refine bE ?_ | refine aV rfl (fun h => ?_) (fun h => ?_) | refine aW rfl rfl (fun h => ?_) (fun h => ?_) | fail)
 (refine dM (cs := recs eG []) ([]) rfl rfl (by intro v hv; repeat (first | exact absurd hv (List.not_mem_nil) | (rcases List.mem_cons.1 hv with rfl | hv; · rfl))) (by omega) rfl rfl rfl ?_; intro b1; refine ⟨okF, ?_⟩)
 repeat' (first | refine bE ?_ | refine aV rfl (fun h => ?_) (fun h => ?_) | refine aW rfl rfl (fun h => ?_) (fun h => ?_) | fail)
 refine pO (b := b1) (mm := 0) 1 lN rfl (by omega) ?_
 refine bG [0, 1] rfl (fun k G M I => ∃ (i : Nat) (o : List Int) (cr : Int) (q1 : Option Addr) (c1 : Nat), i ≤ N ∧ k = N - i ∧ o.length = i ∧ Dig o ∧ (0 ≤ cr ∧ cr ≤ 1) ∧ val o - 1000000000 ^ i * cr = val (a.take i) - val (b.take i) ∧ G = [(5, .slice q1 o.length c1), (6, .int .u64 cr), (7, .int .i64 i)] ∧ M = .row q1 o.length c1 (recs eG o) 121 1 :: M0 ∧ I0 = I) (N) _ _ _ aS aG aF (⟨0, [], 0, _, _, by omega, rfl, rfl, Dig.nil, by omega, by simp [val], rfl, rfl, rfl⟩) ?_
 rintro k G M I ⟨i, o, cr, q1, c1, hi, rfl, ho, hd, hcr, hv, rfl, rfl, rfl⟩
 by_cases hiN : i < N
 ·have d1 := da.gt i
  have d2 := db.gt i
  have e1 := yA (s := 1000000000 + gt a i - gt b i - cr) (by omega)
  have e2 := yG (s := 1000000000 + gt a i - gt b i - cr) (by omega)
  obtain ⟨s, hs⟩ : ∃ s, s = (1000000000 + gt a i - gt b i - cr) % 1000000000 := ⟨_, rfl⟩
  obtain ⟨t, ht⟩ : ∃ t, t = (1000000000 + gt a i - gt b i - cr) / 1000000000 := ⟨_, rfl⟩
  have hst : 0 ≤ s ∧ s < 1000000000 ∧ 0 ≤ t ∧ t ≤ 1 ∧ s - 1000000000 * (1 - t) = gt a i - gt b i - cr := by omega
  rw [← hs] at e1
  rw [← ht] at e2
  have hG := fun M0 I0 => nI (X := X) (w0 := w0) (M0 := M0) (I0 := I0) (q := p) (l := a) (n := a.length) (c := cp) (i := i) rfl (by omega)
  have hG2 := fun M0 I0 => nI (X := X) (w0 := w0) (M0 := M0) (I0 := I0) (q := q) (l := b) (n := b.length) (c := cq) (i := i) rfl (by omega)
  repeat' (first | refine bE ?_ | refine aV rfl (fun h => ?_) (fun h => ?_) | refine aW rfl rfl (fun h => ?_) (fun h => ?_) | fail)
  (refine aA rfl (hG _ _ aB da) rfl rfl ?_; rintro _ _ _ ⟨rfl, rfl, rfl⟩; refine ⟨okF, ?_⟩)
  repeat' (first | refine bE ?_ | refine aV rfl (fun h => ?_) (fun h => ?_) | refine aW rfl rfl (fun h => ?_) (fun h => ?_) | fail)
  (refine aA rfl (hG2 _ _ aB db) rfl rfl ?_; rintro _ _ _ ⟨rfl, rfl, rfl⟩; refine ⟨okF, ?_⟩)
  repeat' (first | refine bE ?_ | refine aV rfl (fun h => ?_) (fun h => ?_) | refine aW rfl rfl (fun h => ?_) (fun h => ?_) | fail)
  rw [e1]
  repeat' (first | refine bE ?_ | refine aV rfl (fun h => ?_) (fun h => ?_) | refine aW rfl rfl (fun h => ?_) (fun h => ?_) | fail)
  (refine dM (cs := recs eG [s]) ([.int .u32 s]) rfl rfl (by intro v hv; repeat (first | exact absurd hv (List.not_mem_nil) | (rcases List.mem_cons.1 hv with rfl | hv; · rfl))) (by omega) rfl rfl rfl ?_; intro b2; refine ⟨okF, ?_⟩)
  (refine iK (ys := [s]) 1 rfl rfl rfl ?_ (by decide) rfl (by omega) (by omega) rfl rfl ?_; (· first | exact Src.blk aB | exact Src.row aB | exact Src.imm aB (by first | assumption | exact .inl (Ok.mk _ _))); intro a2 c2; refine ⟨okF, ?_⟩)
  repeat' (first | refine bE ?_ | refine aV rfl (fun h => ?_) (fun h => ?_) | refine aW rfl rfl (fun h => ?_) (fun h => ?_) | fail)
  rw [e2]
  repeat' (first | refine bE ?_ | refine aV rfl (fun h => ?_) (fun h => ?_) | refine aW rfl rfl (fun h => ?_) (fun h => ?_) | fail)
  refine aQ (N - (i + 1)) _ _ _ (by first | omega | (simp only [List.length_append, List.length_cons, List.length_nil]; omega)) aS aG aF (⟨i + 1, o ++ [s], 1 - t, a2, c2, by omega, rfl, by simp; omega, hd.snoc (by omega), by omega, ?_, rfl, rfl, rfl⟩)
  rw [rY, nH, nH, ho, Int.pow_succ, Int.mul_assoc]
  have h3 := congrArg (fun x => 1000000000 ^ i * x) hst.2.2.2.2
  simp only [Int.mul_sub] at h3 hv ⊢
  omega
 ·obtain rfl : i = N := by omega
  rw [List.take_of_length_le (show a.length ≤ i by omega), List.take_of_length_le (show b.length ≤ i by omega), va, vb] at hv
  have hcr0 : cr = 0 := by
   have h1 := jW hd
   rw [ho] at h1
   by_cases c : cr = 0
   ·exact c
   ·have : cr = 1 := by omega
    subst this
    omega
  subst hcr0
  have hv2 : val o = ((m - n : Nat) : Int) := by omega
  refine uS (fun w hw => And.intro (hw.rowLe (List.Mem.head _)) ((hw.rowS (List.Mem.head _)).2.imp id And.right)) (fun ho3 => ?_)
  repeat' (first | refine bE ?_ | refine aV rfl (fun h => ?_) (fun h => ?_) | refine aW rfl rfl (fun h => ?_) (fun h => ?_) | fail)
  refine fO tL ?_
  (refine aA rfl (lY (by omega) ho3.1 ho3.2 hd hv2 aB) rfl rfl ?_; rintro _ _ _ ⟨rfl, q', c', rfl, hc', rfl⟩; refine ⟨okF, ?_⟩)
  repeat' (first | refine bE ?_ | refine aV rfl (fun h => ?_) (fun h => ?_) | refine aW rfl rfl (fun h => ?_) (fun h => ?_) | fail)
  refine aN (by first | exact .inl rfl | exact .inr rfl) rfl rfl _ _ aG aF (⟨rfl, q', c', rfl, hc', rfl⟩)
theorem uG {p : Option Addr} {m d cp : Nat} (hm : (gr m).length ≤ 100000000000) (hdd : d < 1000000000) (hp : aX p (recs eG (gr m)) ∈ I0) :
  CD Tryz.prog 276 [.slice p (gr m).length cp, .int .u64 (d : Int)] X w0 M0 I0 (GrP (m * d) M0 I0) := by
 have da := bW m
 have va := dC m
 generalize ha : gr m = a at *
 obtain ⟨N, hN⟩ : ∃ N : Nat, N = a.length := ⟨_, rfl⟩
 refine bI Tryz.func276 rfl Tryz.ntmps276 rfl ?_
 repeat' (first | refine bE ?_ | refine aV rfl (fun h => ?_) (fun h => ?_) | refine aW rfl rfl (fun h => ?_) (fun h => ?_) | fail)
 (refine dM (cs := recs eG []) ([]) rfl rfl (by intro v hv; repeat (first | exact absurd hv (List.not_mem_nil) | (rcases List.mem_cons.1 hv with rfl | hv; · rfl))) (by omega) rfl rfl rfl ?_; intro b1; refine ⟨okF, ?_⟩)
 repeat' (first | refine bE ?_ | refine aV rfl (fun h => ?_) (fun h => ?_) | refine aW rfl rfl (fun h => ?_) (fun h => ?_) | fail)
 refine pO (b := b1) (mm := 0) 1 lN rfl (by omega) ?_
 refine bG [0, 1] rfl (fun k G M I => ∃ (i : Nat) (o : List Int) (cr : Int) (q1 : Option Addr) (c1 : Nat), i ≤ N ∧ k = N - i ∧ o.length = i ∧ Dig o ∧ (0 ≤ cr ∧ cr < 1000000000) ∧ val o + 1000000000 ^ i * cr = val (a.take i) * d ∧ G = [(5, .slice q1 o.length c1), (6, .int .u64 cr), (7, .int .i64 i)] ∧ M = .row q1 o.length c1 (recs eG o) 121 1 :: M0 ∧ I0 = I) (N) _ _ _ aS aG aF (⟨0, [], 0, _, _, by omega, rfl, rfl, Dig.nil, by omega, by simp [val], rfl, rfl, rfl⟩) ?_
 rintro k G M I ⟨i, o, cr, q1, c1, hi, rfl, ho, hd, hcr, hv, rfl, rfl, rfl⟩
 by_cases hiN : i < N
 ·have d1 := da.gt i
  have d4 := qR d1 (q := (d : Int)) ⟨by omega, by omega⟩ (o := 0) (by omega) hcr
  obtain ⟨d5, d6, d7⟩ := d4
  rw [Int.zero_add] at d6 d7
  have d8 : 0 ≤ gt a i * (d : Int) ∧ gt a i * (d : Int) ≤ 18446744073709551615 := by omega
  have e1 := yA d6.1
  have e2 := yG d6.1
  obtain ⟨s, hs⟩ : ∃ s, s = (gt a i * (d : Int) + cr) % 1000000000 := ⟨_, rfl⟩
  obtain ⟨t, ht⟩ : ∃ t, t = (gt a i * (d : Int) + cr) / 1000000000 := ⟨_, rfl⟩
  have hst : 0 ≤ s ∧ s < 1000000000 ∧ s + 1000000000 * t = gt a i * (d : Int) + cr := by omega
  rw [← hs] at e1
  rw [← ht] at e2 d7
  repeat' (first | refine bE ?_ | refine aV rfl (fun h => ?_) (fun h => ?_) | refine aW rfl rfl (fun h => ?_) (fun h => ?_) | fail)
  rw [e1]
  repeat' (first | refine bE ?_ | refine aV rfl (fun h => ?_) (fun h => ?_) | refine aW rfl rfl (fun h => ?_) (fun h => ?_) | fail)
  (refine dM (cs := recs eG [s]) ([.int .u32 s]) rfl rfl (by intro v hv; repeat (first | exact absurd hv (List.not_mem_nil) | (rcases List.mem_cons.1 hv with rfl | hv; · rfl))) (by omega) rfl rfl rfl ?_; intro b2; refine ⟨okF, ?_⟩)
  (refine iK (ys := [s]) 1 rfl rfl rfl ?_ (by decide) rfl (by omega) (by omega) rfl rfl ?_; (· first | exact Src.blk aB | exact Src.row aB | exact Src.imm aB (by first | assumption | exact .inl (Ok.mk _ _))); intro a2 c2; refine ⟨okF, ?_⟩)
  repeat' (first | refine bE ?_ | refine aV rfl (fun h => ?_) (fun h => ?_) | refine aW rfl rfl (fun h => ?_) (fun h => ?_) | fail)
  rw [e2]
  refine aQ (N - (i + 1)) _ _ _ (by first | omega | (simp only [List.length_append, List.length_cons, List.length_nil]; omega)) aS aG aF (⟨i + 1, o ++ [s], t, a2, c2, by omega, rfl, by simp; omega, hd.snoc (by omega), d7, ?_, rfl, rfl, rfl⟩)
  rw [rY, nH, ho, Int.pow_succ, Int.mul_assoc, Int.add_mul, Int.mul_assoc]
  have h3 := congrArg (fun x => 1000000000 ^ i * x) hst.2.2
  simp only [Int.mul_add] at h3 hv ⊢
  omega
 ·obtain rfl : i = N := by omega
  rw [List.take_of_length_le (show a.length ≤ i by omega), va] at hv
  have hv2 : val (o ++ [cr]) = ((m * d : Nat) : Int) := by rw [rY, ho, hv]; simp
  have hd2 : Dig (o ++ [cr]) := hd.snoc (by omega)
  repeat' (first | refine bE ?_ | refine aV rfl (fun h => ?_) (fun h => ?_) | refine aW rfl rfl (fun h => ?_) (fun h => ?_) | fail)
  (refine dM (cs := recs eG [cr]) ([.int .u32 cr]) rfl rfl (by intro v hv; repeat (first | exact absurd hv (List.not_mem_nil) | (rcases List.mem_cons.1 hv with rfl | hv; · rfl))) (by omega) rfl rfl rfl ?_; intro b2; refine ⟨okF, ?_⟩)
  (refine iK (ys := [cr]) 1 rfl rfl rfl ?_ (by decide) rfl (by omega) (by omega) rfl rfl ?_; (· first | exact Src.blk aB | exact Src.row aB | exact Src.imm aB (by first | assumption | exact .inl (Ok.mk _ _))); intro a2 c2; refine ⟨okF, ?_⟩)
  refine lU (fun w hw => And.intro (hw.rowLe (List.Mem.tail _ (List.Mem.head _))) ((hw.rowS (List.Mem.tail _ (List.Mem.head _))).2.imp id And.right)) (fun ho3 => ?_)
  refine fO tL ?_
  (refine aA rfl (lY (by simp; omega) ho3.1 ho3.2 hd2 hv2 aB) rfl rfl ?_; rintro _ _ _ ⟨rfl, q', c', rfl, hc', rfl⟩; refine ⟨okF, ?_⟩)
  repeat' (first | refine bE ?_ | refine aV rfl (fun h => ?_) (fun h => ?_) | refine aW rfl rfl (fun h => ?_) (fun h => ?_) | fail)
  refine aN (by first | exact .inl rfl | exact .inr rfl) rfl rfl _ _ aG aF (⟨rfl, q', c', rfl, hc', rfl⟩)
theorem aDO {p : Option Addr} {m d cp : Nat} (hm : (gr m).length ≤ 100000000000) (hdd : d < 1000000000) (hc : oO p m cp) (hp : aX p (recs eG (gr m)) ∈ I0) :
  CD Tryz.prog 277 [.slice p (gr m).length cp, .int .u32 (d : Int)] X w0 M0 I0 (GrP (m * 1000000000 + d) M0 I0) := by
 have da := bW m
 have va := dC m
 obtain ⟨hc1, hc2⟩ := hc
 generalize ha : gr m = a at *
 have hd2 : Dig ([(d : Int)] ++ a) := Dig.app.2 ⟨by rw [Dig.cons]; exact ⟨by omega, Dig.nil⟩, da⟩
 have hv2 : val ([(d : Int)] ++ a) = ((m * 1000000000 + d : Nat) : Int) := by simp only [val_append, val, List.length_cons, List.length_nil, va]; omega
 refine bI Tryz.func277 rfl Tryz.ntmps277 rfl ?_
 repeat' (first | refine bE ?_ | refine aV rfl (fun h => ?_) (fun h => ?_) | refine aW rfl rfl (fun h => ?_) (fun h => ?_) | fail)
 (refine dM (cs := recs eG [(d : Int)]) ([.int .u32 (d : Int)]) rfl rfl (by intro v hv; repeat (first | exact absurd hv (List.not_mem_nil) | (rcases List.mem_cons.1 hv with rfl | hv; · rfl))) (by omega) rfl rfl rfl ?_; intro b1; refine ⟨okF, ?_⟩)
 repeat' (first | refine bE ?_ | refine aV rfl (fun h => ?_) (fun h => ?_) | refine aW rfl rfl (fun h => ?_) (fun h => ?_) | fail)
 refine qC (b := b1) (mm := 1) 1 lN rfl (by omega) ?_
 refine iK (xs := [(d : Int)]) (ys := a) 0 rfl rfl rfl (Src.imm aB hc2) (by decide) rfl (by simp; omega) (by simp; omega) rfl rfl ?_
 intro a2 c2
 refine ⟨okF, ?_⟩
 refine lU (fun w hw => And.intro (hw.rowLe (List.Mem.head _)) ((hw.rowS (List.Mem.head _)).2.imp id And.right)) (fun ho3 => ?_)
 refine fO tL ?_
 (refine aA rfl (lY (by simp; omega) ho3.1 ho3.2 hd2 hv2 aB) rfl rfl ?_; rintro _ _ _ ⟨rfl, q', c', rfl, hc', rfl⟩; refine ⟨okF, ?_⟩)
 repeat' (first | refine bE ?_ | refine aV rfl (fun h => ?_) (fun h => ?_) | refine aW rfl rfl (fun h => ?_) (fun h => ?_) | fail)
 refine aN (by first | exact .inl rfl | exact .inr rfl) rfl rfl _ _ aG aF (⟨rfl, q', c', rfl, hc', rfl⟩)
theorem vJ {p q : Option Addr} {m n cp cq : Nat} (hm : (gr m).length ≤ 100000000000) (hn : (gr n).length ≤ 100000000000) (hp : aX p (recs eG (gr m)) ∈ I0) (hq : aX q (recs eG (gr n)) ∈ I0) :
  CD Tryz.prog 261 [.slice p (gr m).length cp, .slice q (gr n).length cq] X w0 M0 I0 (fun v M I => M0 = M ∧ I0 = I ∧ v = .int .i64 (fQ m n)) := by
 have ca := rT m
 have cb := rT n
 have va := dC m
 have vb := dC n
 generalize ha : gr m = a at *
 generalize hb : gr n = b at *
 refine bI Tryz.func261 rfl Tryz.ntmps261 rfl ?_
 by_cases hl : a.length = b.length
 ·repeat' (first | refine bE ?_ | refine aV rfl (fun h => ?_) (fun h => ?_) | refine aW rfl rfl (fun h => ?_) (fun h => ?_) | fail)
  refine bG [0, 1] rfl (fun k G M I => ∃ (i : Nat) (x : Int), i ≤ a.length ∧ k = i ∧ x = (i : Int) - 1 ∧ a.drop i = b.drop i ∧ G = [(5, .int .i64 x)] ∧ M0 = M ∧ I0 = I) (a.length) _ _ _ aS aG aF (⟨a.length, _, by omega, rfl, rfl, by rw [List.drop_of_length_le (by omega), List.drop_of_length_le (by omega)], rfl, rfl, rfl⟩) ?_
  rintro k G M I ⟨i, x, hi, rfl, hx, hs, rfl, rfl, rfl⟩
  by_cases h0 : k = 0
  ·subst h0
   rw [List.drop_zero, List.drop_zero] at hs
   have e : (m : Int) = n := by rw [← va, ← vb, hs]
   have hc0 : fQ (m : Int) n = 0 := by unfold fQ; rw [if_neg (by omega), if_neg (by omega)]
   rw [hc0]
   repeat' (first | refine bE ?_ | refine aV rfl (fun h => ?_) (fun h => ?_) | refine aW rfl rfl (fun h => ?_) (fun h => ?_) | fail)
   refine aN (by first | exact .inl rfl | exact .inr rfl) rfl rfl _ _ aG aF (⟨rfl, rfl, rfl⟩)
  ·obtain ⟨j, rfl⟩ : ∃ j, k = j + 1 := ⟨k - 1, by omega⟩
   obtain rfl : x = (j : Int) := by omega
   have hlt : gt a (j : Int) < gt b (j : Int) → fQ (m : Int) n = -1 := fun h => by
    rw [tH, tH] at h
    have := aMT ca.1 cb.1 hl (by omega) hs h
    rw [va, vb] at this
    exact if_pos this
   have hgt : gt b (j : Int) < gt a (j : Int) → fQ (m : Int) n = 1 := fun h => by
    rw [tH, tH] at h
    have := aMT cb.1 ca.1 hl.symm (by omega) hs.symm h
    rw [va, vb] at this
    unfold fQ
    rw [if_neg (by omega), if_pos this]
   have heq : gt a (j : Int) = gt b (j : Int) → a.drop j = b.drop j := fun h => by
    rw [tH, tH] at h
    exact aKI hl (by omega) h hs
   repeat' (first | refine bE ?_ | refine aV rfl (fun h => ?_) (fun h => ?_) | refine aW rfl rfl (fun h => ?_) (fun h => ?_) | fail)
   (repeat refine aH ?_); refine gZ [0, 1, 2, 3, 4, 5, 6, 7, 8] [0, 0, 0, 0, 0, 0, 0, 0, 0] mixed (by kernel_rfl) ?_
   repeat' (first | refine bE ?_ | refine aV rfl (fun h => ?_) (fun h => ?_) | refine aW rfl rfl (fun h => ?_) (fun h => ?_) | fail)
   ·rw [hlt (by assumption)]
    refine aN (by first | exact .inl rfl | exact .inr rfl) rfl rfl _ _ aG aF (⟨rfl, rfl, rfl⟩)
   (repeat refine aH ?_); refine gZ [0, 1, 2, 3, 4, 5, 6, 7, 8] [0, 0, 0, 0, 0, 0, 0, 0, 0] mixed (by kernel_rfl) ?_
   repeat' (first | refine bE ?_ | refine aV rfl (fun h => ?_) (fun h => ?_) | refine aW rfl rfl (fun h => ?_) (fun h => ?_) | fail)
   ·rw [hgt (by assumption)]
    refine aN (by first | exact .inl rfl | exact .inr rfl) rfl rfl _ _ aG aF (⟨rfl, rfl, rfl⟩)
   ·repeat' (first | refine bE ?_ | refine aV rfl (fun h => ?_) (fun h => ?_) | refine aW rfl rfl (fun h => ?_) (fun h => ?_) | fail)
    refine aQ (j) _ _ _ (by first | omega | (simp only [List.length_append, List.length_cons, List.length_nil]; omega)) aS aG aF (⟨j, (j : Int) - 1, by omega, rfl, by omega, heq (by omega), rfl, rfl, rfl⟩)
 ·have hlt : a.length < b.length → fQ (m : Int) n = -1 := fun h => by
   have := aBS ca cb h
   rw [va, vb] at this
   exact if_pos this
  have hgt : b.length < a.length → fQ (m : Int) n = 1 := fun h => by
   have := aBS cb ca h
   rw [va, vb] at this
   unfold fQ
   rw [if_neg (by omega), if_pos this]
  repeat' (first | refine bE ?_ | refine aV rfl (fun h => ?_) (fun h => ?_) | refine aW rfl rfl (fun h => ?_) (fun h => ?_) | fail)
  ·rw [hlt (by omega)]
   refine aN (by first | exact .inl rfl | exact .inr rfl) rfl rfl _ _ aG aF (⟨rfl, rfl, rfl⟩)
  ·rw [hgt (by omega)]
   refine aN (by first | exact .inl rfl | exact .inr rfl) rfl rfl _ _ aG aF (⟨rfl, rfl, rfl⟩)
end
end Go.Proofs.YtmmmfphealhapaaGreat
namespace Go.Proofs.YtmmmfphealhapaaGreat
open Go Go.Fx
theorem xW {n i : Nat} : 0 ≤ gt (gr n) (i : Int) ∧ gt (gr n) (i : Int) < 1000000000 := (bW n).gt i
theorem aQI {a : Option Addr} {c l sz : Nat} (h : Ok a) : Ok (zG a c l sz) := by
 obtain ⟨b, o, rfl⟩ := h.cases
 unfold zG
 split
 ·exact Ok.mk _ _
 ·simp only [Option.map_some, add_lit]; exact Ok.mk _ _
theorem aEC {R N t : Nat} (hN : (gr N).length = t + 1) (hR : R < N * 1000000000) :
  ∃ g : Nat, (gt (gr R) (((t + 1 : Nat) : Int)) * 1000000000 + gt (gr R) (t : Int)).tdiv (gt (gr N) (t : Int) + 1) = (g : Int) ∧ g * N ≤ R ∧ g < 1000000000 := by
 have dR := bW R
 have dN := bW N
 have vR := dC R
 have vN := dC N
 have hNl := jW dN
 rw [hN, vN] at hNl
 have hPp := jK t
 have e1 : (1000000000 : Int) ^ (t + 1) = 1000000000 ^ t * 1000000000 := Int.pow_succ _ _
 have hR2 : val (gr R) < 1000000000 ^ (t + 1 + 1) := by
  rw [vR, Int.pow_succ, e1]
  rw [e1] at hNl
  have : ((R : Nat) : Int) < (N : Int) * 1000000000 := by omega
  omega
 have hT := rU dR hR2
 have hT2 := bP (gr R) t
 have hM := rU dN (k := t) (by rw [vN]; exact hNl)
 rw [← tH] at hT hT2 hM
 rw [vR] at hT
 rw [vN] at hM
 have l1 := iD dR t
 have l2 := bO (dR.take t)
 have l3 := iD dN t
 have l4 := bO (dN.take t)
 have g1 := dR.gt ((t + 1 : Nat) : Int)
 have g2 := dR.gt (t : Int)
 have g3 := dN.gt (t : Int)
 rw [hT2, e1] at hT
 generalize val ((gr R).take t) = low at *
 generalize val ((gr N).take t) = bl at *
 generalize gt (gr R) (t : Int) = d0 at *
 generalize gt (gr R) ((t + 1 : Nat) : Int) = d1 at *
 generalize gt (gr N) (t : Int) = b1 at *
 obtain ⟨P, hP⟩ : ∃ P : Nat, (1000000000 : Int) ^ t = (P : Int) := ⟨1000000000 ^ t, by rw [Int.natCast_pow]; rfl⟩
 rw [hP] at hT hM l1 l3 hPp
 clear hNl hR2 hT2 e1
 obtain ⟨top, htop⟩ : ∃ top : Nat, d1 * 1000000000 + d0 = (top : Int) := ⟨(d1 * 1000000000 + d0).toNat, by omega⟩
 obtain ⟨b1n, rfl⟩ : ∃ b : Nat, b1 = (b : Int) := ⟨b1.toNat, by omega⟩
 obtain ⟨lown, rfl⟩ : ∃ b : Nat, low = (b : Int) := ⟨low.toNat, by omega⟩
 obtain ⟨bln, rfl⟩ : ∃ b : Nat, bl = (b : Int) := ⟨bl.toNat, by omega⟩
 have hR3 : R = top * P + lown := by
  have : (R : Int) = (top : Int) * (P : Int) + (lown : Int) := by rw [← htop, hT]; grind
  exact_mod_cast this
 have hN3 : N = b1n * P + bln := by
  have : (N : Int) = (b1n : Int) * (P : Int) + (bln : Int) := by rw [hM]; grind
  exact_mod_cast this
 have hg := aIA hR3 hN3 (by omega) (by omega) rfl
 refine ⟨top / (b1n + 1), ?_, hg, ?_⟩
 ·rw [htop, Int.tdiv_eq_ediv_of_nonneg (by omega), Int.natCast_ediv]; rfl
 ·have h1 : top / (b1n + 1) * N < 1000000000 * N := by omega
  exact Nat.lt_of_mul_lt_mul_right h1
theorem aIW {n f bt : Nat} (hn : 1 ≤ (gr n).length) (hbt : gt (gr n) (((gr n).length : Int) - 1) = (bt : Int)) (h1 : 0 < f) (hf : f * (bt + 1) ≤ 1000000000) : (gr (n * f)).length = (gr n).length := by
 refine Nat.le_antisymm (oD ?_) (gG (Nat.le_mul_of_pos_right _ h1))
 obtain ⟨t, ht⟩ : ∃ t, (gr n).length = t + 1 := ⟨(gr n).length - 1, by omega⟩
 have dN := bW n
 have vN := dC n
 have hNl := jW dN
 rw [ht] at hNl
 have hM := rU dN (k := t) hNl
 have l3 := iD dN t
 rw [← tH] at hM
 rw [ht] at hbt ⊢
 rw [show (((t + 1 : Nat) : Int) - 1) = (t : Int) by omega] at hbt
 rw [hbt, vN] at hM
 have hlt : (n : Int) < 1000000000 ^ t * ((bt : Int) + 1) := by rw [Int.mul_add]; omega
 have h2 : ((n * f : Nat) : Int) < (1000000000 ^ t * ((bt : Int) + 1)) * f := by rw [Int.natCast_mul]; exact Int.mul_lt_mul_of_pos_right hlt (by omega)
 have h3 : (1000000000 : Int) ^ t * ((bt : Int) + 1) * f ≤ 1000000000 ^ (t + 1) := by
  rw [Int.pow_succ, Int.mul_assoc]
  refine Int.mul_le_mul_of_nonneg_left ?_ (Int.le_of_lt (jK t))
  have : ((f * (bt + 1) : Nat) : Int) ≤ 1000000000 := by omega
  rw [Int.natCast_mul, Int.mul_comm] at this
  exact this
 have h4 : ((n * f : Nat) : Int) < ((1000000000 ^ (t + 1) : Nat) : Int) := by rw [Int.natCast_pow]; exact Int.lt_of_lt_of_le h2 h3
 omega
section
variable {X : List Nat} {w0 : World} {M0 : List Ent} {I0 : List bA}
theorem aAX {q : Option Addr} {n c d : Nat} (hn : (gr n).length ≤ 100000000000) (hd : 0 < d ∧ d < 1000000000) (hq : aX q (recs eG (gr n)) ∈ I0) :
  CD Tryz.prog 275 [.slice q (gr n).length c, .int .u64 (d : Int)] X w0 M0 I0 (fun v M I => M0 = M ∧ ∃ p1 c1, oO p1 (n / d) c1 ∧ v = .tuple #[.slice p1 (gr (n / d)).length c1, .int .u64 ((n % d : Nat) : Int)] ∧ I = aX p1 (recs eG (gr (n / d))) :: I0) := by
 have da := bW n
 have va := dC n
 generalize ha : gr n = a at *
 refine bI Tryz.func275 rfl Tryz.ntmps275 rfl ?_
 repeat (refine bE ?_)
 (refine mJ (a.length) rfl rfl (by omega) (by omega) (by omega) (by omega) (mG _ _) rfl rfl ?_; intro bo; refine ⟨okF, ?_⟩)
 repeat (refine bE ?_)
 refine bG [0, 1, 6] rfl (fun k G M I => ∃ (i : Nat) (o : List Int) (r x : Int), i ≤ a.length ∧ k = i ∧ x = (i : Int) - 1 ∧ o.length = a.length ∧ Dig o ∧ (0 ≤ r ∧ r < d) ∧ val (a.drop i) = (d : Int) * val (o.drop i) + r ∧ G = [(7, .int .u64 r), (8, .int .i64 x)] ∧ M = .blk bo (recs eG o) 121 :: M0 ∧ I0 = I) (a.length) _ _ _ aS aG aF (⟨a.length, _, 0, _, by omega, rfl, rfl, by simp, Dig.zeros _, by omega, by rw [List.drop_of_length_le (by omega), List.drop_of_length_le (by simp)]; simp [val], rfl, rfl, rfl⟩) ?_
 rintro k G M I ⟨i, o, r, x, hi, rfl, hx, ho, hdo, hr, hv, rfl, rfl, rfl⟩
 by_cases h0 : k = 0
 ·subst h0
  rw [List.drop_zero, List.drop_zero, va] at hv
  have hq1 : val o = ((n / d : Nat) : Int) := by
   have := (Int.ediv_emod_unique (a := (n : Int)) (b := (d : Int)) (r := r) (q := val o) (by omega)).2 ⟨by omega, hr.1, hr.2⟩
   rw [← this.1]; rfl
  have hr1 : r = ((n % d : Nat) : Int) := by
   have := (Int.ediv_emod_unique (a := (n : Int)) (b := (d : Int)) (r := r) (q := val o) (by omega)).2 ⟨by omega, hr.1, hr.2⟩
   rw [← this.2]; rfl
  subst hr1
  repeat (refine bE ?_)
  refine aO (b := bo) tL ?_
  have hM := lY (X := X) (w0 := w0) (M0 := M0) (I0 := aX (some ⟨bo, 0, none⟩) (recs eG o) :: I0) (q := some ⟨bo, 0, none⟩) (c := a.length) (by omega) (by omega) (.inl (Ok.mk _ _)) hdo hq1 (by simp)
  rw [ho] at hM
  (refine aA rfl (hM) rfl rfl ?_; rintro _ _ _ ⟨rfl, q', c', rfl, hc', rfl⟩; refine ⟨okF, ?_⟩)
  repeat (refine bE ?_)
  refine iL [4, 5] (by first | exact .inl rfl | exact .inr rfl) rfl rfl rfl _ _ aG aF (⟨rfl, q', c', hc', rfl, rfl⟩)
 ·obtain ⟨j, rfl⟩ : ∃ j, k = j + 1 := ⟨k - 1, by omega⟩
  obtain rfl : x = (j : Int) := by omega
  have d1 := da.gt j
  obtain ⟨d2, d3, d4⟩ := aAS (r := r) (g := gt a (j : Int)) (d := (d : Int)) (by omega) (by omega) hr d1
  have hst := aDS (a := a) (q := o) (i := j) (d := d) (r := r) (by omega) (by omega) hv
  rw [← tH] at hst
  have hnn : 0 ≤ r * 1000000000 + gt a (j : Int) := by omega
  have e1 : (r * 1000000000 + gt a (j : Int)).tmod (d : Int) = (r * 1000000000 + gt a (j : Int)) % (d : Int) := Int.tmod_eq_emod_of_nonneg hnn
  have e2 : (r * 1000000000 + gt a (j : Int)).tdiv (d : Int) = (r * 1000000000 + gt a (j : Int)) / (d : Int) := Int.tdiv_eq_ediv_of_nonneg hnn
  obtain ⟨s, hs⟩ : ∃ s, s = (r * 1000000000 + gt a (j : Int)) % (d : Int) := ⟨_, rfl⟩
  obtain ⟨t, ht⟩ : ∃ t, t = (r * 1000000000 + gt a (j : Int)) / (d : Int) := ⟨_, rfl⟩
  rw [← hs] at e1 d4 hst
  rw [← ht] at e2 d3 hst
  obtain ⟨u, hu⟩ : ∃ u, u = r * 1000000000 := ⟨_, rfl⟩
  repeat (refine bE ?_)
  rw [e2]
  repeat (refine bE ?_)
  rw [e1]
  repeat (refine bE ?_)
  refine aQ (j) _ _ _ (by first | omega | (simp only [List.length_append, List.length_cons, List.length_nil]; omega)) aS aG aF (⟨j, _, s, (j : Int) - 1, by omega, rfl, by omega, by rw [fG]; exact ho, by rw [oF]; exact hdo.set _ d3, d4, by rw [oF]; exact hst, rfl, rfl, rfl⟩)
end
end Go.Proofs.YtmmmfphealhapaaGreat
