/- fiducialref01: plus, minus, scaled, shifted, size -/
import Derived.Test.YtllaoaobnnondaaGreatRZiar
import Derived.Test.YtllaoaobnnondaaGreatRZiak
import Derived.Test.YtllaoaobnnondaaGreatRZiao
set_option linter.unusedSimpArgs false
set_option linter.unusedVariables false
namespace Go.Proofs.YtllaoaobnnondaaGreatR
open Go Go.Fx
theorem val_snoc (l : List Int) (x : Int) : val (l ++ [x]) = val l + 1000000000 ^ l.length * x := by rw [val_append]; simp [val]
theorem val_take_gt (l : List Int) (i : Nat) : val (l.take (i + 1)) = val (l.take i) + 1000000000 ^ i * gt l (i : Int) := by rw [val_take_succ, gtD]
section
variable {X : List Nat} {w0 : World} {M0 : List Ent} {I0 : List Imm}
/-- made, for magnitudes -/
theorem rmadeF_ok {q : Option Addr} {l : List Int} {n c : Nat} (h63 : l.length ≤ 1000000000000) (hc : l.length ≤ c) (hok : Ok q ∨ (l.length = 0 ∧ c = 0)) (hd : Dig l) (hv : val l = n) (hl : slI q (recs eG l) ∈ I0) :
    CD Tryz.prog 184 [.bool false, .slice q l.length c] X w0 M0 I0 (fun v M I => M0 = M ∧ ∃ q' c', v = .agg #[.bool (B (False ∧ n ≠ 0)), .slice q' (gr n).length c'] ∧ OkC q' n c' ∧ I = slI q' (recs eG (gr n)) :: I0) := by
  have := rmade_raw (X := X) (w0 := w0) (M0 := M0) (I0 := I0) (p := False) h63 hc hok hd hv hl
  rwa [B_false (show ¬ False from id)] at this
theorem tmod9 {s : Int} (h : 0 ≤ s) : s.tmod 1000000000 = s % 1000000000 := Int.tmod_eq_emod_of_nonneg h
theorem tdiv9 {s : Int} (h : 0 ≤ s) : s.tdiv 1000000000 = s / 1000000000 := Int.tdiv_eq_ediv_of_nonneg h
set_option maxRecDepth 100000 in
theorem rplus_ok {p q : Option Addr} {m n cp cq : Nat} (hm : (gr m).length ≤ 100000000000) (hn : (gr n).length ≤ 100000000000) (hp : slI p (recs eG (gr m)) ∈ I0) (hq : slI q (recs eG (gr n)) ∈ I0) :
    CD Tryz.prog 234 [.slice p (gr m).length cp, .slice q (gr n).length cq] X w0 M0 I0 (GrP (m + n) M0 I0) := by
  have da := gr_dig m
  have db := gr_dig n
  have va := gr_val m
  have vb := gr_val n
  generalize ha : gr m = a at *
  generalize hb : gr n = b at *
  obtain ⟨N, hN⟩ : ∃ N : Nat, N = max a.length b.length := ⟨_, rfl⟩
  refine enterD2 Tryz.func234 rfl Tryz.ntmps234 rfl ?_
  repeat' (first | refine wXf ?_ | (refine TD_isCo ?_; first | refine TD_dec rfl (fun h => ?_) (fun h => ?_) | refine TD_cond rfl (fun h => ?_) (fun h => ?_)) | (refine RD_isGu ?_; first | refine RD_grd rfl rfl (fun h => ?_) (fun h => ?_) | (fail_if_success (refine RD_isW rfl ?_); refine RD_grdB rfl rfl (fun h => ?_) (fun h => ?_))))
  (refine RD_vals (cs := recs eG []) ([]) rfl rfl (by intro v hv; repeat (first | exact absurd hv (List.not_mem_nil) | (rcases List.mem_cons.1 hv with rfl | hv; · rfl))) (by omega) rfl rfl rfl ?_; intro b1; refine ⟨okF, ?_⟩)
  repeat' (first | refine wXf ?_ | (refine TD_isCo ?_; first | refine TD_dec rfl (fun h => ?_) (fun h => ?_) | refine TD_cond rfl (fun h => ?_) (fun h => ?_)) | (refine RD_isGu ?_; first | refine RD_grd rfl rfl (fun h => ?_) (fun h => ?_) | (fail_if_success (refine RD_isW rfl ?_); refine RD_grdB rfl rfl (fun h => ?_) (fun h => ?_))))
  refine TD_toRow (b := b1) (mm := 0) 1 repF rfl (by omega) ?_
  refine TD_loop [0, 1] rfl (fun k G M I => ∃ (i : Nat) (o : List Int) (cr : Int) (q1 : Option Addr) (c1 : Nat), i ≤ N ∧ k = N - i ∧ o.length = i ∧ Dig o ∧ (0 ≤ cr ∧ cr ≤ 1) ∧ val o + 1000000000 ^ i * cr = val (a.take i) + val (b.take i) ∧ G = [(5, .slice q1 o.length c1), (6, .int .u64 cr), (7, .int .i64 i)] ∧ M = .row q1 o.length c1 (recs eG o) 166 1 :: M0 ∧ I0 = I) (N) _ _ _ subG subF incF (⟨0, [], 0, _, _, by omega, rfl, rfl, Dig.nil, by omega, by simp [val], rfl, rfl, rfl⟩) ?_
  rintro k G M I ⟨i, o, cr, q1, c1, hi, rfl, ho, hd, hcr, hv, rfl, rfl, rfl⟩
  by_cases hiN : i < N
  · have d1 := da.gt i
    have d2 := db.gt i
    have e1 := tmod9 (s := gt a i + gt b i + cr) (by omega)
    have e2 := tdiv9 (s := gt a i + gt b i + cr) (by omega)
    obtain ⟨s, hs⟩ : ∃ s, s = (gt a i + gt b i + cr) % 1000000000 := ⟨_, rfl⟩
    obtain ⟨t, ht⟩ : ∃ t, t = (gt a i + gt b i + cr) / 1000000000 := ⟨_, rfl⟩
    have hst : 0 ≤ s ∧ s < 1000000000 ∧ 0 ≤ t ∧ t ≤ 1 ∧ s + 1000000000 * t = gt a i + gt b i + cr := by omega
    rw [← hs] at e1
    rw [← ht] at e2
    have hG := fun M0 I0 => group_ok (X := X) (w0 := w0) (M0 := M0) (I0 := I0) (q := p) (l := a) (n := a.length) (c := cp) (i := i) rfl (by omega)
    have hG2 := fun M0 I0 => group_ok (X := X) (w0 := w0) (M0 := M0) (I0 := I0) (q := q) (l := b) (n := b.length) (c := cq) (i := i) rfl (by omega)
    repeat' (first | refine wXf ?_ | (refine TD_isCo ?_; first | refine TD_dec rfl (fun h => ?_) (fun h => ?_) | refine TD_cond rfl (fun h => ?_) (fun h => ?_)) | (refine RD_isGu ?_; first | refine RD_grd rfl rfl (fun h => ?_) (fun h => ?_) | (fail_if_success (refine RD_isW rfl ?_); refine RD_grdB rfl rfl (fun h => ?_) (fun h => ?_))))
    all_goals
      (refine RD_callS rfl (hG _ _ memF da) rfl rfl ?_; rintro _ _ _ ⟨rfl, rfl, rfl⟩; refine ⟨okF, ?_⟩)
      repeat' (first | refine wXf ?_ | (refine TD_isCo ?_; first | refine TD_dec rfl (fun h => ?_) (fun h => ?_) | refine TD_cond rfl (fun h => ?_) (fun h => ?_)) | (refine RD_isGu ?_; first | refine RD_grd rfl rfl (fun h => ?_) (fun h => ?_) | (fail_if_success (refine RD_isW rfl ?_); refine RD_grdB rfl rfl (fun h => ?_) (fun h => ?_))))
      (refine RD_callS rfl (hG2 _ _ memF db) rfl rfl ?_; rintro _ _ _ ⟨rfl, rfl, rfl⟩; refine ⟨okF, ?_⟩)
      repeat' (first | refine wXf ?_ | (refine TD_isCo ?_; first | refine TD_dec rfl (fun h => ?_) (fun h => ?_) | refine TD_cond rfl (fun h => ?_) (fun h => ?_)) | (refine RD_isGu ?_; first | refine RD_grd rfl rfl (fun h => ?_) (fun h => ?_) | (fail_if_success (refine RD_isW rfl ?_); refine RD_grdB rfl rfl (fun h => ?_) (fun h => ?_))))
      rw [e1]
      repeat' (first | refine wXf ?_ | (refine TD_isCo ?_; first | refine TD_dec rfl (fun h => ?_) (fun h => ?_) | refine TD_cond rfl (fun h => ?_) (fun h => ?_)) | (refine RD_isGu ?_; first | refine RD_grd rfl rfl (fun h => ?_) (fun h => ?_) | (fail_if_success (refine RD_isW rfl ?_); refine RD_grdB rfl rfl (fun h => ?_) (fun h => ?_))))
      (refine RD_vals (cs := recs eG [s]) ([.int .u32 s]) rfl rfl (by intro v hv; repeat (first | exact absurd hv (List.not_mem_nil) | (rcases List.mem_cons.1 hv with rfl | hv; · rfl))) (by omega) rfl rfl rfl ?_; intro b2; refine ⟨okF, ?_⟩)
      (refine RD_appR (ys := [s]) 1 rfl rfl rfl ?_ (by decide) rfl (by omega) (by omega) rfl rfl ?_; (· first | exact Src.blk memF | exact Src.row memF | exact Src.imm memF (by first | assumption | exact .inl (Ok.mk _ _))); intro a2 c2; refine ⟨okF, ?_⟩)
      repeat' (first | refine wXf ?_ | (refine TD_isCo ?_; first | refine TD_dec rfl (fun h => ?_) (fun h => ?_) | refine TD_cond rfl (fun h => ?_) (fun h => ?_)) | (refine RD_isGu ?_; first | refine RD_grd rfl rfl (fun h => ?_) (fun h => ?_) | (fail_if_success (refine RD_isW rfl ?_); refine RD_grdB rfl rfl (fun h => ?_) (fun h => ?_))))
      rw [e2]
      refine ND_again (N - (i + 1)) _ _ _ (by first | omega | (simp only [List.length_append, List.length_cons, List.length_nil]; omega)) subG subF incF (⟨i + 1, o ++ [s], t, a2, c2, by omega, rfl, by simp; omega, hd.snoc (by omega), by omega, ?_, rfl, rfl, rfl⟩)
      rw [val_snoc, val_take_gt, val_take_gt, ho, Int.pow_succ, Int.mul_assoc]
      have h3 := congrArg (fun x => 1000000000 ^ i * x) hst.2.2.2.2
      simp only [Int.mul_add] at h3 hv ⊢
      omega
  · obtain rfl : i = N := by omega
    rw [List.take_of_length_le (show a.length ≤ i by omega), List.take_of_length_le (show b.length ≤ i by omega), va, vb] at hv
    have hv2 : val (o ++ [cr]) = ((m + n : Nat) : Int) := by rw [val_snoc, ho, hv]; omega
    have hd2 : Dig (o ++ [cr]) := hd.snoc (by omega)
    repeat' (first | refine wXf ?_ | (refine TD_isCo ?_; first | refine TD_dec rfl (fun h => ?_) (fun h => ?_) | refine TD_cond rfl (fun h => ?_) (fun h => ?_)) | (refine RD_isGu ?_; first | refine RD_grd rfl rfl (fun h => ?_) (fun h => ?_) | (fail_if_success (refine RD_isW rfl ?_); refine RD_grdB rfl rfl (fun h => ?_) (fun h => ?_))))
    (refine RD_vals (cs := recs eG [cr]) ([.int .u32 cr]) rfl rfl (by intro v hv; repeat (first | exact absurd hv (List.not_mem_nil) | (rcases List.mem_cons.1 hv with rfl | hv; · rfl))) (by omega) rfl rfl rfl ?_; intro b2; refine ⟨okF, ?_⟩)
    (refine RD_appR (ys := [cr]) 1 rfl rfl rfl ?_ (by decide) rfl (by omega) (by omega) rfl rfl ?_; (· first | exact Src.blk memF | exact Src.row memF | exact Src.imm memF (by first | assumption | exact .inl (Ok.mk _ _))); intro a2 c2; refine ⟨okF, ?_⟩)
    refine RD_fact (fun w hw => And.intro (hw.rowLe (List.Mem.tail _ (List.Mem.head _))) ((hw.rowS (List.Mem.tail _ (List.Mem.head _))).2.imp id And.right)) (fun ho3 => ?_)
    refine RD_freezeR remF ?_
    (refine RD_callS rfl (rmadeF_ok (by simp; omega) ho3.1 ho3.2 hd2 hv2 memF) rfl rfl ?_; rintro _ _ _ ⟨rfl, q', c', rfl, hc', rfl⟩; refine ⟨okF, ?_⟩)
    repeat' (first | refine wXf ?_ | (refine TD_isCo ?_; first | refine TD_dec rfl (fun h => ?_) (fun h => ?_) | refine TD_cond rfl (fun h => ?_) (fun h => ?_)) | (refine RD_isGu ?_; first | refine RD_grd rfl rfl (fun h => ?_) (fun h => ?_) | (fail_if_success (refine RD_isW rfl ?_); refine RD_grdB rfl rfl (fun h => ?_) (fun h => ?_))))
    refine ND_ret1 (by first | exact .inl rfl | exact .inr rfl) rfl rfl _ _ subF incF (⟨rfl, q', c', rfl, hc', rfl⟩)
set_option maxRecDepth 100000 in
theorem rminus_ok {p q : Option Addr} {m n cp cq : Nat} (hm : (gr m).length ≤ 100000000000) (hle : n ≤ m) (hp : slI p (recs eG (gr m)) ∈ I0) (hq : slI q (recs eG (gr n)) ∈ I0) :
    CD Tryz.prog 233 [.slice p (gr m).length cp, .slice q (gr n).length cq] X w0 M0 I0 (GrP (m - n) M0 I0) := by
  have da := gr_dig m
  have db := gr_dig n
  have va := gr_val m
  have vb := gr_val n
  have hl : (gr n).length ≤ (gr m).length := gr_len_mono hle
  generalize ha : gr m = a at *
  generalize hb : gr n = b at *
  obtain ⟨N, hN⟩ : ∃ N : Nat, N = a.length := ⟨_, rfl⟩
  refine enterD2 Tryz.func233 rfl Tryz.ntmps233 rfl ?_
  repeat' (first | refine wXf ?_ | (refine TD_isCo ?_; first | refine TD_dec rfl (fun h => ?_) (fun h => ?_) | refine TD_cond rfl (fun h => ?_) (fun h => ?_)) | (refine RD_isGu ?_; first | refine RD_grd rfl rfl (fun h => ?_) (fun h => ?_) | (fail_if_success (refine RD_isW rfl ?_); refine RD_grdB rfl rfl (fun h => ?_) (fun h => ?_))))
  (refine RD_vals (cs := recs eG []) ([]) rfl rfl (by intro v hv; repeat (first | exact absurd hv (List.not_mem_nil) | (rcases List.mem_cons.1 hv with rfl | hv; · rfl))) (by omega) rfl rfl rfl ?_; intro b1; refine ⟨okF, ?_⟩)
  repeat' (first | refine wXf ?_ | (refine TD_isCo ?_; first | refine TD_dec rfl (fun h => ?_) (fun h => ?_) | refine TD_cond rfl (fun h => ?_) (fun h => ?_)) | (refine RD_isGu ?_; first | refine RD_grd rfl rfl (fun h => ?_) (fun h => ?_) | (fail_if_success (refine RD_isW rfl ?_); refine RD_grdB rfl rfl (fun h => ?_) (fun h => ?_))))
  refine TD_toRow (b := b1) (mm := 0) 1 repF rfl (by omega) ?_
  refine TD_loop [0, 1] rfl (fun k G M I => ∃ (i : Nat) (o : List Int) (cr : Int) (q1 : Option Addr) (c1 : Nat), i ≤ N ∧ k = N - i ∧ o.length = i ∧ Dig o ∧ (0 ≤ cr ∧ cr ≤ 1) ∧ val o - 1000000000 ^ i * cr = val (a.take i) - val (b.take i) ∧ G = [(5, .slice q1 o.length c1), (6, .int .u64 cr), (7, .int .i64 i)] ∧ M = .row q1 o.length c1 (recs eG o) 166 1 :: M0 ∧ I0 = I) (N) _ _ _ subG subF incF (⟨0, [], 0, _, _, by omega, rfl, rfl, Dig.nil, by omega, by simp [val], rfl, rfl, rfl⟩) ?_
  rintro k G M I ⟨i, o, cr, q1, c1, hi, rfl, ho, hd, hcr, hv, rfl, rfl, rfl⟩
  by_cases hiN : i < N
  · have d1 := da.gt i
    have d2 := db.gt i
    have e1 := tmod9 (s := 1000000000 + gt a i - gt b i - cr) (by omega)
    have e2 := tdiv9 (s := 1000000000 + gt a i - gt b i - cr) (by omega)
    obtain ⟨s, hs⟩ : ∃ s, s = (1000000000 + gt a i - gt b i - cr) % 1000000000 := ⟨_, rfl⟩
    obtain ⟨t, ht⟩ : ∃ t, t = (1000000000 + gt a i - gt b i - cr) / 1000000000 := ⟨_, rfl⟩
    have hst : 0 ≤ s ∧ s < 1000000000 ∧ 0 ≤ t ∧ t ≤ 1 ∧ s - 1000000000 * (1 - t) = gt a i - gt b i - cr := by omega
    rw [← hs] at e1
    rw [← ht] at e2
    have hG := fun M0 I0 => group_ok (X := X) (w0 := w0) (M0 := M0) (I0 := I0) (q := p) (l := a) (n := a.length) (c := cp) (i := i) rfl (by omega)
    have hG2 := fun M0 I0 => group_ok (X := X) (w0 := w0) (M0 := M0) (I0 := I0) (q := q) (l := b) (n := b.length) (c := cq) (i := i) rfl (by omega)
    repeat' (first | refine wXf ?_ | (refine TD_isCo ?_; first | refine TD_dec rfl (fun h => ?_) (fun h => ?_) | refine TD_cond rfl (fun h => ?_) (fun h => ?_)) | (refine RD_isGu ?_; first | refine RD_grd rfl rfl (fun h => ?_) (fun h => ?_) | (fail_if_success (refine RD_isW rfl ?_); refine RD_grdB rfl rfl (fun h => ?_) (fun h => ?_))))
    (refine RD_callS rfl (hG _ _ memF da) rfl rfl ?_; rintro _ _ _ ⟨rfl, rfl, rfl⟩; refine ⟨okF, ?_⟩)
    repeat' (first | refine wXf ?_ | (refine TD_isCo ?_; first | refine TD_dec rfl (fun h => ?_) (fun h => ?_) | refine TD_cond rfl (fun h => ?_) (fun h => ?_)) | (refine RD_isGu ?_; first | refine RD_grd rfl rfl (fun h => ?_) (fun h => ?_) | (fail_if_success (refine RD_isW rfl ?_); refine RD_grdB rfl rfl (fun h => ?_) (fun h => ?_))))
    (refine RD_callS rfl (hG2 _ _ memF db) rfl rfl ?_; rintro _ _ _ ⟨rfl, rfl, rfl⟩; refine ⟨okF, ?_⟩)
    repeat' (first | refine wXf ?_ | (refine TD_isCo ?_; first | refine TD_dec rfl (fun h => ?_) (fun h => ?_) | refine TD_cond rfl (fun h => ?_) (fun h => ?_)) | (refine RD_isGu ?_; first | refine RD_grd rfl rfl (fun h => ?_) (fun h => ?_) | (fail_if_success (refine RD_isW rfl ?_); refine RD_grdB rfl rfl (fun h => ?_) (fun h => ?_))))
    rw [e1]
    repeat' (first | refine wXf ?_ | (refine TD_isCo ?_; first | refine TD_dec rfl (fun h => ?_) (fun h => ?_) | refine TD_cond rfl (fun h => ?_) (fun h => ?_)) | (refine RD_isGu ?_; first | refine RD_grd rfl rfl (fun h => ?_) (fun h => ?_) | (fail_if_success (refine RD_isW rfl ?_); refine RD_grdB rfl rfl (fun h => ?_) (fun h => ?_))))
    (refine RD_vals (cs := recs eG [s]) ([.int .u32 s]) rfl rfl (by intro v hv; repeat (first | exact absurd hv (List.not_mem_nil) | (rcases List.mem_cons.1 hv with rfl | hv; · rfl))) (by omega) rfl rfl rfl ?_; intro b2; refine ⟨okF, ?_⟩)
    (refine RD_appR (ys := [s]) 1 rfl rfl rfl ?_ (by decide) rfl (by omega) (by omega) rfl rfl ?_; (· first | exact Src.blk memF | exact Src.row memF | exact Src.imm memF (by first | assumption | exact .inl (Ok.mk _ _))); intro a2 c2; refine ⟨okF, ?_⟩)
    repeat' (first | refine wXf ?_ | (refine TD_isCo ?_; first | refine TD_dec rfl (fun h => ?_) (fun h => ?_) | refine TD_cond rfl (fun h => ?_) (fun h => ?_)) | (refine RD_isGu ?_; first | refine RD_grd rfl rfl (fun h => ?_) (fun h => ?_) | (fail_if_success (refine RD_isW rfl ?_); refine RD_grdB rfl rfl (fun h => ?_) (fun h => ?_))))
    rw [e2]
    repeat' (first | refine wXf ?_ | (refine TD_isCo ?_; first | refine TD_dec rfl (fun h => ?_) (fun h => ?_) | refine TD_cond rfl (fun h => ?_) (fun h => ?_)) | (refine RD_isGu ?_; first | refine RD_grd rfl rfl (fun h => ?_) (fun h => ?_) | (fail_if_success (refine RD_isW rfl ?_); refine RD_grdB rfl rfl (fun h => ?_) (fun h => ?_))))
    refine ND_again (N - (i + 1)) _ _ _ (by first | omega | (simp only [List.length_append, List.length_cons, List.length_nil]; omega)) subG subF incF (⟨i + 1, o ++ [s], 1 - t, a2, c2, by omega, rfl, by simp; omega, hd.snoc (by omega), by omega, ?_, rfl, rfl, rfl⟩)
    rw [val_snoc, val_take_gt, val_take_gt, ho, Int.pow_succ, Int.mul_assoc]
    have h3 := congrArg (fun x => 1000000000 ^ i * x) hst.2.2.2.2
    simp only [Int.mul_sub] at h3 hv ⊢
    omega
  · obtain rfl : i = N := by omega
    rw [List.take_of_length_le (show a.length ≤ i by omega), List.take_of_length_le (show b.length ≤ i by omega), va, vb] at hv
    have hcr0 : cr = 0 := by
      have h1 := val_lt hd
      rw [ho] at h1
      by_cases c : cr = 0
      · exact c
      · have : cr = 1 := by omega
        subst this
        omega
    subst hcr0
    have hv2 : val o = ((m - n : Nat) : Int) := by omega
    refine TD_fact (fun w hw => And.intro (hw.rowLe (List.Mem.head _)) ((hw.rowS (List.Mem.head _)).2.imp id And.right)) (fun ho3 => ?_)
    repeat' (first | refine wXf ?_ | (refine TD_isCo ?_; first | refine TD_dec rfl (fun h => ?_) (fun h => ?_) | refine TD_cond rfl (fun h => ?_) (fun h => ?_)) | (refine RD_isGu ?_; first | refine RD_grd rfl rfl (fun h => ?_) (fun h => ?_) | (fail_if_success (refine RD_isW rfl ?_); refine RD_grdB rfl rfl (fun h => ?_) (fun h => ?_))))
    refine RD_freezeR remF ?_
    (refine RD_callS rfl (rmadeF_ok (by omega) ho3.1 ho3.2 hd hv2 memF) rfl rfl ?_; rintro _ _ _ ⟨rfl, q', c', rfl, hc', rfl⟩; refine ⟨okF, ?_⟩)
    repeat' (first | refine wXf ?_ | (refine TD_isCo ?_; first | refine TD_dec rfl (fun h => ?_) (fun h => ?_) | refine TD_cond rfl (fun h => ?_) (fun h => ?_)) | (refine RD_isGu ?_; first | refine RD_grd rfl rfl (fun h => ?_) (fun h => ?_) | (fail_if_success (refine RD_isW rfl ?_); refine RD_grdB rfl rfl (fun h => ?_) (fun h => ?_))))
    refine ND_ret1 (by first | exact .inl rfl | exact .inr rfl) rfl rfl _ _ subF incF (⟨rfl, q', c', rfl, hc', rfl⟩)
set_option maxRecDepth 100000 in
theorem rscaled_ok {p : Option Addr} {m d cp : Nat} (hm : (gr m).length ≤ 100000000000) (hdd : d < 1000000000) (hp : slI p (recs eG (gr m)) ∈ I0) :
    CD Tryz.prog 230 [.slice p (gr m).length cp, .int .u64 (d : Int)] X w0 M0 I0 (GrP (m * d) M0 I0) := by
  have da := gr_dig m
  have va := gr_val m
  generalize ha : gr m = a at *
  obtain ⟨N, hN⟩ : ∃ N : Nat, N = a.length := ⟨_, rfl⟩
  refine enterD2 Tryz.func230 rfl Tryz.ntmps230 rfl ?_
  repeat' (first | refine wXf ?_ | (refine TD_isCo ?_; first | refine TD_dec rfl (fun h => ?_) (fun h => ?_) | refine TD_cond rfl (fun h => ?_) (fun h => ?_)) | (refine RD_isGu ?_; first | refine RD_grd rfl rfl (fun h => ?_) (fun h => ?_) | (fail_if_success (refine RD_isW rfl ?_); refine RD_grdB rfl rfl (fun h => ?_) (fun h => ?_))))
  (refine RD_vals (cs := recs eG []) ([]) rfl rfl (by intro v hv; repeat (first | exact absurd hv (List.not_mem_nil) | (rcases List.mem_cons.1 hv with rfl | hv; · rfl))) (by omega) rfl rfl rfl ?_; intro b1; refine ⟨okF, ?_⟩)
  repeat' (first | refine wXf ?_ | (refine TD_isCo ?_; first | refine TD_dec rfl (fun h => ?_) (fun h => ?_) | refine TD_cond rfl (fun h => ?_) (fun h => ?_)) | (refine RD_isGu ?_; first | refine RD_grd rfl rfl (fun h => ?_) (fun h => ?_) | (fail_if_success (refine RD_isW rfl ?_); refine RD_grdB rfl rfl (fun h => ?_) (fun h => ?_))))
  refine TD_toRow (b := b1) (mm := 0) 1 repF rfl (by omega) ?_
  refine TD_loop [0, 1] rfl (fun k G M I => ∃ (i : Nat) (o : List Int) (cr : Int) (q1 : Option Addr) (c1 : Nat), i ≤ N ∧ k = N - i ∧ o.length = i ∧ Dig o ∧ (0 ≤ cr ∧ cr < 1000000000) ∧ val o + 1000000000 ^ i * cr = val (a.take i) * d ∧ G = [(5, .slice q1 o.length c1), (6, .int .u64 cr), (7, .int .i64 i)] ∧ M = .row q1 o.length c1 (recs eG o) 166 1 :: M0 ∧ I0 = I) (N) _ _ _ subG subF incF (⟨0, [], 0, _, _, by omega, rfl, rfl, Dig.nil, by omega, by simp [val], rfl, rfl, rfl⟩) ?_
  rintro k G M I ⟨i, o, cr, q1, c1, hi, rfl, ho, hd, hcr, hv, rfl, rfl, rfl⟩
  by_cases hiN : i < N
  · have d1 := da.gt i
    have d4 := mul_small d1 (q := (d : Int)) ⟨by omega, by omega⟩ (o := 0) (by omega) hcr
    obtain ⟨d5, d6, d7⟩ := d4
    rw [Int.zero_add] at d6 d7
    have d8 : 0 ≤ gt a i * (d : Int) ∧ gt a i * (d : Int) ≤ 18446744073709551615 := by omega
    have e1 := tmod9 d6.1
    have e2 := tdiv9 d6.1
    obtain ⟨s, hs⟩ : ∃ s, s = (gt a i * (d : Int) + cr) % 1000000000 := ⟨_, rfl⟩
    obtain ⟨t, ht⟩ : ∃ t, t = (gt a i * (d : Int) + cr) / 1000000000 := ⟨_, rfl⟩
    have hst : 0 ≤ s ∧ s < 1000000000 ∧ s + 1000000000 * t = gt a i * (d : Int) + cr := by omega
    rw [← hs] at e1
    rw [← ht] at e2 d7
    repeat' (first | refine wXf ?_ | (refine TD_isCo ?_; first | refine TD_dec rfl (fun h => ?_) (fun h => ?_) | refine TD_cond rfl (fun h => ?_) (fun h => ?_)) | (refine RD_isGu ?_; first | refine RD_grd rfl rfl (fun h => ?_) (fun h => ?_) | (fail_if_success (refine RD_isW rfl ?_); refine RD_grdB rfl rfl (fun h => ?_) (fun h => ?_))))
    rw [e1]
    repeat' (first | refine wXf ?_ | (refine TD_isCo ?_; first | refine TD_dec rfl (fun h => ?_) (fun h => ?_) | refine TD_cond rfl (fun h => ?_) (fun h => ?_)) | (refine RD_isGu ?_; first | refine RD_grd rfl rfl (fun h => ?_) (fun h => ?_) | (fail_if_success (refine RD_isW rfl ?_); refine RD_grdB rfl rfl (fun h => ?_) (fun h => ?_))))
    (refine RD_vals (cs := recs eG [s]) ([.int .u32 s]) rfl rfl (by intro v hv; repeat (first | exact absurd hv (List.not_mem_nil) | (rcases List.mem_cons.1 hv with rfl | hv; · rfl))) (by omega) rfl rfl rfl ?_; intro b2; refine ⟨okF, ?_⟩)
    (refine RD_appR (ys := [s]) 1 rfl rfl rfl ?_ (by decide) rfl (by omega) (by omega) rfl rfl ?_; (· first | exact Src.blk memF | exact Src.row memF | exact Src.imm memF (by first | assumption | exact .inl (Ok.mk _ _))); intro a2 c2; refine ⟨okF, ?_⟩)
    repeat' (first | refine wXf ?_ | (refine TD_isCo ?_; first | refine TD_dec rfl (fun h => ?_) (fun h => ?_) | refine TD_cond rfl (fun h => ?_) (fun h => ?_)) | (refine RD_isGu ?_; first | refine RD_grd rfl rfl (fun h => ?_) (fun h => ?_) | (fail_if_success (refine RD_isW rfl ?_); refine RD_grdB rfl rfl (fun h => ?_) (fun h => ?_))))
    rw [e2]
    refine ND_again (N - (i + 1)) _ _ _ (by first | omega | (simp only [List.length_append, List.length_cons, List.length_nil]; omega)) subG subF incF (⟨i + 1, o ++ [s], t, a2, c2, by omega, rfl, by simp; omega, hd.snoc (by omega), d7, ?_, rfl, rfl, rfl⟩)
    rw [val_snoc, val_take_gt, ho, Int.pow_succ, Int.mul_assoc, Int.add_mul, Int.mul_assoc]
    have h3 := congrArg (fun x => 1000000000 ^ i * x) hst.2.2
    simp only [Int.mul_add] at h3 hv ⊢
    omega
  · obtain rfl : i = N := by omega
    rw [List.take_of_length_le (show a.length ≤ i by omega), va] at hv
    have hv2 : val (o ++ [cr]) = ((m * d : Nat) : Int) := by rw [val_snoc, ho, hv]; simp
    have hd2 : Dig (o ++ [cr]) := hd.snoc (by omega)
    repeat' (first | refine wXf ?_ | (refine TD_isCo ?_; first | refine TD_dec rfl (fun h => ?_) (fun h => ?_) | refine TD_cond rfl (fun h => ?_) (fun h => ?_)) | (refine RD_isGu ?_; first | refine RD_grd rfl rfl (fun h => ?_) (fun h => ?_) | (fail_if_success (refine RD_isW rfl ?_); refine RD_grdB rfl rfl (fun h => ?_) (fun h => ?_))))
    (refine RD_vals (cs := recs eG [cr]) ([.int .u32 cr]) rfl rfl (by intro v hv; repeat (first | exact absurd hv (List.not_mem_nil) | (rcases List.mem_cons.1 hv with rfl | hv; · rfl))) (by omega) rfl rfl rfl ?_; intro b2; refine ⟨okF, ?_⟩)
    (refine RD_appR (ys := [cr]) 1 rfl rfl rfl ?_ (by decide) rfl (by omega) (by omega) rfl rfl ?_; (· first | exact Src.blk memF | exact Src.row memF | exact Src.imm memF (by first | assumption | exact .inl (Ok.mk _ _))); intro a2 c2; refine ⟨okF, ?_⟩)
    refine RD_fact (fun w hw => And.intro (hw.rowLe (List.Mem.tail _ (List.Mem.head _))) ((hw.rowS (List.Mem.tail _ (List.Mem.head _))).2.imp id And.right)) (fun ho3 => ?_)
    refine RD_freezeR remF ?_
    (refine RD_callS rfl (rmadeF_ok (by simp; omega) ho3.1 ho3.2 hd2 hv2 memF) rfl rfl ?_; rintro _ _ _ ⟨rfl, q', c', rfl, hc', rfl⟩; refine ⟨okF, ?_⟩)
    repeat' (first | refine wXf ?_ | (refine TD_isCo ?_; first | refine TD_dec rfl (fun h => ?_) (fun h => ?_) | refine TD_cond rfl (fun h => ?_) (fun h => ?_)) | (refine RD_isGu ?_; first | refine RD_grd rfl rfl (fun h => ?_) (fun h => ?_) | (fail_if_success (refine RD_isW rfl ?_); refine RD_grdB rfl rfl (fun h => ?_) (fun h => ?_))))
    refine ND_ret1 (by first | exact .inl rfl | exact .inr rfl) rfl rfl _ _ subF incF (⟨rfl, q', c', rfl, hc', rfl⟩)
set_option maxRecDepth 100000 in
theorem rshifted_ok {p : Option Addr} {m d cp : Nat} (hm : (gr m).length ≤ 100000000000) (hdd : d < 1000000000) (hc : OkC p m cp) (hp : slI p (recs eG (gr m)) ∈ I0) :
    CD Tryz.prog 231 [.slice p (gr m).length cp, .int .u32 (d : Int)] X w0 M0 I0 (GrP (m * 1000000000 + d) M0 I0) := by
  have da := gr_dig m
  have va := gr_val m
  obtain ⟨hc1, hc2⟩ := hc
  generalize ha : gr m = a at *
  have hd2 : Dig ([(d : Int)] ++ a) := Dig.app.2 ⟨by rw [Dig.cons]; exact ⟨by omega, Dig.nil⟩, da⟩
  have hv2 : val ([(d : Int)] ++ a) = ((m * 1000000000 + d : Nat) : Int) := by simp only [val_append, val, List.length_cons, List.length_nil, va]; omega
  refine enterD2 Tryz.func231 rfl Tryz.ntmps231 rfl ?_
  repeat' (first | refine wXf ?_ | (refine TD_isCo ?_; first | refine TD_dec rfl (fun h => ?_) (fun h => ?_) | refine TD_cond rfl (fun h => ?_) (fun h => ?_)) | (refine RD_isGu ?_; first | refine RD_grd rfl rfl (fun h => ?_) (fun h => ?_) | (fail_if_success (refine RD_isW rfl ?_); refine RD_grdB rfl rfl (fun h => ?_) (fun h => ?_))))
  (refine RD_vals (cs := recs eG [(d : Int)]) ([.int .u32 (d : Int)]) rfl rfl (by intro v hv; repeat (first | exact absurd hv (List.not_mem_nil) | (rcases List.mem_cons.1 hv with rfl | hv; · rfl))) (by omega) rfl rfl rfl ?_; intro b1; refine ⟨okF, ?_⟩)
  repeat' (first | refine wXf ?_ | (refine TD_isCo ?_; first | refine TD_dec rfl (fun h => ?_) (fun h => ?_) | refine TD_cond rfl (fun h => ?_) (fun h => ?_)) | (refine RD_isGu ?_; first | refine RD_grd rfl rfl (fun h => ?_) (fun h => ?_) | (fail_if_success (refine RD_isW rfl ?_); refine RD_grdB rfl rfl (fun h => ?_) (fun h => ?_))))
  refine RD_toRow (b := b1) (mm := 1) 1 repF rfl (by omega) ?_
  refine RD_appR (xs := [(d : Int)]) (ys := a) 0 rfl rfl rfl (Src.imm memF hc2) (by decide) rfl (by simp; omega) (by simp; omega) rfl rfl ?_
  intro a2 c2
  refine ⟨okF, ?_⟩
  refine RD_fact (fun w hw => And.intro (hw.rowLe (List.Mem.head _)) ((hw.rowS (List.Mem.head _)).2.imp id And.right)) (fun ho3 => ?_)
  refine RD_freezeR remF ?_
  (refine RD_callS rfl (rmadeF_ok (by simp; omega) ho3.1 ho3.2 hd2 hv2 memF) rfl rfl ?_; rintro _ _ _ ⟨rfl, q', c', rfl, hc', rfl⟩; refine ⟨okF, ?_⟩)
  repeat' (first | refine wXf ?_ | (refine TD_isCo ?_; first | refine TD_dec rfl (fun h => ?_) (fun h => ?_) | refine TD_cond rfl (fun h => ?_) (fun h => ?_)) | (refine RD_isGu ?_; first | refine RD_grd rfl rfl (fun h => ?_) (fun h => ?_) | (fail_if_success (refine RD_isW rfl ?_); refine RD_grdB rfl rfl (fun h => ?_) (fun h => ?_))))
  refine ND_ret1 (by first | exact .inl rfl | exact .inr rfl) rfl rfl _ _ subF incF (⟨rfl, q', c', rfl, hc', rfl⟩)
set_option maxRecDepth 100000 in
theorem rsize_ok {p q : Option Addr} {m n cp cq : Nat} (hm : (gr m).length ≤ 100000000000) (hn : (gr n).length ≤ 100000000000) (hp : slI p (recs eG (gr m)) ∈ I0) (hq : slI q (recs eG (gr n)) ∈ I0) :
    CD Tryz.prog 229 [.slice p (gr m).length cp, .slice q (gr n).length cq] X w0 M0 I0 (fun v M I => M0 = M ∧ I0 = I ∧ v = .int .i64 (cmpV m n)) := by
  have ca := gr_can m
  have cb := gr_can n
  have va := gr_val m
  have vb := gr_val n
  generalize ha : gr m = a at *
  generalize hb : gr n = b at *
  refine enterD2 Tryz.func229 rfl Tryz.ntmps229 rfl ?_
  by_cases hl : a.length = b.length
  · repeat' (first | refine wXf ?_ | (refine TD_isCo ?_; first | refine TD_dec rfl (fun h => ?_) (fun h => ?_) | refine TD_cond rfl (fun h => ?_) (fun h => ?_)) | (refine RD_isGu ?_; first | refine RD_grd rfl rfl (fun h => ?_) (fun h => ?_) | (fail_if_success (refine RD_isW rfl ?_); refine RD_grdB rfl rfl (fun h => ?_) (fun h => ?_))))
    refine TD_loop [0, 1] rfl (fun k G M I => ∃ (i : Nat) (x : Int), i ≤ a.length ∧ k = i ∧ x = (i : Int) - 1 ∧ a.drop i = b.drop i ∧ G = [(5, .int .i64 x)] ∧ M0 = M ∧ I0 = I) (a.length) _ _ _ subG subF incF (⟨a.length, _, by omega, rfl, rfl, by rw [List.drop_of_length_le (by omega), List.drop_of_length_le (by omega)], rfl, rfl, rfl⟩) ?_
    rintro k G M I ⟨i, x, hi, rfl, hx, hs, rfl, rfl, rfl⟩
    by_cases h0 : k = 0
    · subst h0
      rw [List.drop_zero, List.drop_zero] at hs
      have e : (m : Int) = n := by rw [← va, ← vb, hs]
      have hc0 : cmpV (m : Int) n = 0 := by unfold cmpV; rw [if_neg (by omega), if_neg (by omega)]
      rw [hc0]
      repeat' (first | refine wXf ?_ | (refine TD_isCo ?_; first | refine TD_dec rfl (fun h => ?_) (fun h => ?_) | refine TD_cond rfl (fun h => ?_) (fun h => ?_)) | (refine RD_isGu ?_; first | refine RD_grd rfl rfl (fun h => ?_) (fun h => ?_) | (fail_if_success (refine RD_isW rfl ?_); refine RD_grdB rfl rfl (fun h => ?_) (fun h => ?_))))
      refine ND_ret1 (by first | exact .inl rfl | exact .inr rfl) rfl rfl _ _ subF incF (⟨rfl, rfl, rfl⟩)
    · obtain ⟨j, rfl⟩ : ∃ j, k = j + 1 := ⟨k - 1, by omega⟩
      obtain rfl : x = (j : Int) := by omega
      have hlt : gt a (j : Int) < gt b (j : Int) → cmpV (m : Int) n = -1 := fun h => by
        rw [gtD, gtD] at h
        have := cmp_at ca.1 cb.1 hl (by omega) hs h
        rw [va, vb] at this
        exact if_pos this
      have hgt : gt b (j : Int) < gt a (j : Int) → cmpV (m : Int) n = 1 := fun h => by
        rw [gtD, gtD] at h
        have := cmp_at cb.1 ca.1 hl.symm (by omega) hs.symm h
        rw [va, vb] at this
        unfold cmpV
        rw [if_neg (by omega), if_pos this]
      have heq : gt a (j : Int) = gt b (j : Int) → a.drop j = b.drop j := fun h => by
        rw [gtD, gtD] at h
        exact drop_ext hl (by omega) h hs
      repeat' (first | refine wXf ?_ | (refine TD_isCo ?_; first | refine TD_dec rfl (fun h => ?_) (fun h => ?_) | refine TD_cond rfl (fun h => ?_) (fun h => ?_)) | (refine RD_isGu ?_; first | refine RD_grd rfl rfl (fun h => ?_) (fun h => ?_) | (fail_if_success (refine RD_isW rfl ?_); refine RD_grdB rfl rfl (fun h => ?_) (fun h => ?_))))
      (repeat refine TD_seq ?_); refine TD_drawn [0, 1, 2, 3, 4, 5, 6, 7, 8] [0, 0, 0, 0, 0, 0, 0, 0, 0] mixed (by kernel_rfl) ?_
      repeat' (first | refine wXf ?_ | (refine TD_isCo ?_; first | refine TD_dec rfl (fun h => ?_) (fun h => ?_) | refine TD_cond rfl (fun h => ?_) (fun h => ?_)) | (refine RD_isGu ?_; first | refine RD_grd rfl rfl (fun h => ?_) (fun h => ?_) | (fail_if_success (refine RD_isW rfl ?_); refine RD_grdB rfl rfl (fun h => ?_) (fun h => ?_))))
      · rw [hlt (by assumption)]
        refine ND_ret1 (by first | exact .inl rfl | exact .inr rfl) rfl rfl _ _ subF incF (⟨rfl, rfl, rfl⟩)
      (repeat refine TD_seq ?_); refine TD_drawn [0, 1, 2, 3, 4, 5, 6, 7, 8] [0, 0, 0, 0, 0, 0, 0, 0, 0] mixed (by kernel_rfl) ?_
      repeat' (first | refine wXf ?_ | (refine TD_isCo ?_; first | refine TD_dec rfl (fun h => ?_) (fun h => ?_) | refine TD_cond rfl (fun h => ?_) (fun h => ?_)) | (refine RD_isGu ?_; first | refine RD_grd rfl rfl (fun h => ?_) (fun h => ?_) | (fail_if_success (refine RD_isW rfl ?_); refine RD_grdB rfl rfl (fun h => ?_) (fun h => ?_))))
      · rw [hgt (by assumption)]
        refine ND_ret1 (by first | exact .inl rfl | exact .inr rfl) rfl rfl _ _ subF incF (⟨rfl, rfl, rfl⟩)
      · repeat' (first | refine wXf ?_ | (refine TD_isCo ?_; first | refine TD_dec rfl (fun h => ?_) (fun h => ?_) | refine TD_cond rfl (fun h => ?_) (fun h => ?_)) | (refine RD_isGu ?_; first | refine RD_grd rfl rfl (fun h => ?_) (fun h => ?_) | (fail_if_success (refine RD_isW rfl ?_); refine RD_grdB rfl rfl (fun h => ?_) (fun h => ?_))))
        refine ND_again (j) _ _ _ (by first | omega | (simp only [List.length_append, List.length_cons, List.length_nil]; omega)) subG subF incF (⟨j, (j : Int) - 1, by omega, rfl, by omega, heq (by omega), rfl, rfl, rfl⟩)
  · have hlt : a.length < b.length → cmpV (m : Int) n = -1 := fun h => by
      have := cmp_len ca cb h
      rw [va, vb] at this
      exact if_pos this
    have hgt : b.length < a.length → cmpV (m : Int) n = 1 := fun h => by
      have := cmp_len cb ca h
      rw [va, vb] at this
      unfold cmpV
      rw [if_neg (by omega), if_pos this]
    repeat' (first | refine wXf ?_ | (refine TD_isCo ?_; first | refine TD_dec rfl (fun h => ?_) (fun h => ?_) | refine TD_cond rfl (fun h => ?_) (fun h => ?_)) | (refine RD_isGu ?_; first | refine RD_grd rfl rfl (fun h => ?_) (fun h => ?_) | (fail_if_success (refine RD_isW rfl ?_); refine RD_grdB rfl rfl (fun h => ?_) (fun h => ?_))))
    · rw [hlt (by omega)]
      refine ND_ret1 (by first | exact .inl rfl | exact .inr rfl) rfl rfl _ _ subF incF (⟨rfl, rfl, rfl⟩)
    · rw [hgt (by omega)]
      refine ND_ret1 (by first | exact .inl rfl | exact .inr rfl) rfl rfl _ _ subF incF (⟨rfl, rfl, rfl⟩)
end
end Go.Proofs.YtllaoaobnnondaaGreatR
