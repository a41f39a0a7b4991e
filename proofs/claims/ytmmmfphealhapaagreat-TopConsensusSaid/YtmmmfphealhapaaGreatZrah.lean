/- integer: magnitudes: at, trim, plus, minus, compare, times, short integer: magnitudes: minus, times, split integer: magnitudes: times integer: times, whose result is owned The symbolic heap, continued: results that lie in cells. -/
import Derived.Test.YtmmmfphealhapaaGreatZraf
import Derived.Test.YtmmmfphealhapaaGreatZrag
set_option linter.unusedSimpArgs false
set_option linter.unusedVariables false
set_option maxRecDepth 100000
set_option maxHeartbeats 4000000
namespace Go.Proofs.YtmmmfphealhapaaGreat
open Go Go.Fx
abbrev eG : Int → List Value := eI .u32
theorem tH (l : List Int) (i : Nat) : gt l (i : Int) = l.getD i 0 := aQL l i
theorem aHU {l : List Int} {i : Int} (h : (l.length : Int) ≤ i) : gt l i = 0 := by
 unfold gt
 simp [List.getD, show l.length ≤ i.toNat by omega]
theorem oF (l : List Int) (i : Nat) (x : Int) : st l (i : Int) x = l.set i x := rfl
theorem Dig.gt {l : List Int} (h : Dig l) (i : Int) : 0 ≤ gt l i ∧ gt l i < 1000000000 := h.getD i.toNat
section
variable {X : List Nat} {w0 : World} {M0 : List Ent} {I0 : List bA}
theorem aHB {q : Option Addr} {l : List Int} {n c : Nat} {i : Int} (hn : n = l.length) (hi : 0 ≤ i) (hl : aX q (recs eG l) ∈ I0) :
  CD Tryz.prog 203 [.slice q n c, .int .i64 i] X w0 M0 I0 (fun v M I => M0 = M ∧ I0 = I ∧ v = .int .u32 (gt l i)) := by
 subst hn
 refine eY Tryz.func203 rfl Tryz.ntmps203 rfl ?_
 repeat' (first | refine kS ?_ | refine aV rfl (fun h => ?_) (fun h => ?_) | refine aW rfl rfl (fun h => ?_) (fun h => ?_) | fail)
 ·refine aN (by first | exact .inl rfl | exact .inr rfl) rfl rfl _ _ cZ cK (⟨rfl, rfl, rfl⟩)
 ·refine aN (by first | exact .inl rfl | exact .inr rfl) rfl rfl _ _ cZ cK (⟨rfl, rfl, by rw [aHU (by omega)]⟩)
theorem pE {q : Option Addr} {l : List Int} {n c : Nat} (hn : n = l.length) (h63 : n ≤ 1000000000000) (hc : l.length ≤ c) (hl : aX q (recs eG l) ∈ I0) :
  CD Tryz.prog 200 [.slice q n c] X w0 M0 I0 (fun v M I => M0 = M ∧ I = aX q (recs eG (fM l)) :: I0 ∧ v = .slice q (fM l).length c) := by
 subst hn
 refine eY Tryz.func200 rfl Tryz.ntmps200 rfl ?_
 refine uS (φ := 0 < l.length → Ok q) (fun w hw h => (hw.sl hl).ok (by rw [iP]; omega)) (fun hq => ?_)
 repeat (refine kS ?_)
 refine bG [] rfl (fun k G M I => ∃ m : Nat, m ≤ l.length ∧ k = m ∧ fM (l.take m) = fM l ∧ G = [(0, .slice q m c)] ∧ M0 = M ∧ I0 = I) (l.length) _ _ _ aS cZ cK (⟨l.length, by omega, rfl, by rw [List.take_length], rfl, rfl, rfl⟩) ?_
 rintro k G M I ⟨m, hm, rfl, ht, rfl, rfl, rfl⟩
 repeat' (first | refine kS ?_ | refine aV rfl (fun h => ?_) (fun h => ?_) | refine aW rfl rfl (fun h => ?_) (fun h => ?_) | fail)
 ·obtain ⟨b, o, rfl⟩ := (hq (by omega)).cases
  refine aD rfl (fun _ => rJ (k - 1) rfl rfl (by omega) (by omega)) rfl rfl ?_
  repeat (refine kS ?_)
  have h1 := h
  refine aQ (k - 1) _ _ _ (by first | omega | (simp only [List.length_append, List.length_cons, List.length_nil]; omega)) aS cZ cK (⟨k - 1, by omega, rfl, ?_, rfl, rfl, rfl⟩)
  rw [← ht]
  obtain ⟨j, rfl⟩ : ∃ j, k = j + 1 := ⟨k - 1, by omega⟩
  have hj : j < l.length := by omega
  have e0 : gt l (j : Int) = 0 := by
   have e : ((j + 1 : Nat) : Int) - 1 = j := by omega
   rw [e] at h1
   exact h1
  rw [mZ hj] at e0
  rw [List.take_succ_eq_append_getElem hj, e0, uC]
  rfl
 ·have h1 := h
  have htop : Top (l.take k) := by
   obtain ⟨j, rfl⟩ : ∃ j, k = j + 1 := ⟨k - 1, by omega⟩
   have hj : j < l.length := by omega
   rw [List.take_succ_eq_append_getElem hj, Top.snoc, ← mZ hj]
   have e : ((j + 1 : Nat) : Int) - 1 = j := by omega
   rw [e] at h1
   exact h1
  have e1 : fM l = l.take k := by rw [← ht, yQ htop]
  refine xS (fun w hw => hw.takeI (cs := recs eG (fM l)) (tl := recs eG (l.drop k)) (by rw [e1, ← oQ, List.take_append_drop]; exact hl)) ?_
  refine aN (by first | exact .inl rfl | exact .inr rfl) rfl rfl _ _ cZ cK (⟨rfl, rfl, by rw [e1]; simp; omega⟩)
 ·have h0 : k = 0 := by omega
  subst h0
  have e1 : fM l = [] := by rw [← ht]; rfl
  rw [e1]
  refine aBT q ?_
  refine aN (by first | exact .inl rfl | exact .inr rfl) rfl rfl _ _ cZ cK (⟨rfl, rfl, rfl⟩)
def GrP (n : Nat) (M0 : List Ent) (I0 : List bA) (v : Value) (M : List Ent) (I : List bA) : Prop := M0 = M ∧ ∃ q c, v = .slice q (gr n).length c ∧ ((gr n).length ≤ c ∧ (Ok q ∨ ((gr n).length = 0 ∧ c = 0))) ∧ I = aX q (recs eG (gr n)) :: I0
theorem aGQ {p q : Option Addr} {m n cp cq : Nat} (hm : (gr m).length ≤ 100000000000) (hn : (gr n).length ≤ 100000000000) (hp : aX p (recs eG (gr m)) ∈ I0) (hq : aX q (recs eG (gr n)) ∈ I0) :
  CD Tryz.prog 129 [.slice p (gr m).length cp, .slice q (gr n).length cq] X w0 M0 I0 (GrP (m + n) M0 I0) := by
 have da := bW m
 have db := bW n
 have va := dC m
 have vb := dC n
 generalize ha : gr m = a at *
 generalize hb : gr n = b at *
 obtain ⟨N, hN⟩ : ∃ N : Nat, N = max a.length b.length + 1 := ⟨_, rfl⟩
 refine eY Tryz.func129 rfl Tryz.ntmps129 rfl ?_
 repeat (refine kS ?_)
 (refine mJ (N) rfl rfl (by omega) (by omega) (by omega) (by omega) (mG _ _) rfl rfl ?_; intro bo; refine ⟨mQ, ?_⟩)
 repeat (refine kS ?_)
 refine bG [0, 1, 5, 17] rfl (fun k G M I => ∃ (i : Nat) (o : List Int) (cr : Int), i ≤ N ∧ k = N - i ∧ o.length = N ∧ Dig (o.take i) ∧ (0 ≤ cr ∧ cr ≤ 1) ∧ val (o.take i) + 1000000000 ^ i * cr = val (a.take i) + val (b.take i) ∧ G = [(6, .int .u32 cr), (18, .int .i64 i)] ∧ M = .blk bo (recs eG o) 121 :: M0 ∧ I0 = I) (N) _ _ _ aS cZ cK (⟨0, _, 0, by omega, by omega, by simp, by simp [Dig], by omega, by simp [val], rfl, rfl, rfl⟩) ?_
 rintro k G M I ⟨i, o, cr, hi, rfl, ho, hd, hcr, hv, rfl, rfl, rfl⟩
 repeat' (first | refine kS ?_ | refine aV rfl (fun h => ?_) (fun h => ?_) | refine aW rfl rfl (fun h => ?_) (fun h => ?_) | fail)
 ·(refine aT rfl (aHB (i := i) rfl (by omega) hp) rfl rfl ?_; rintro _ _ _ ⟨rfl, rfl, rfl⟩; refine ⟨mQ, ?_⟩)
  have d1 := da.gt i
  have d2 := db.gt i
  repeat (refine kS ?_)
  (refine aT rfl (aHB (i := i) rfl (by omega) hq) rfl rfl ?_; rintro _ _ _ ⟨rfl, rfl, rfl⟩; refine ⟨mQ, ?_⟩)
  repeat' (first | refine kS ?_ | refine aV rfl (fun h => ?_) (fun h => ?_) | refine aW rfl rfl (fun h => ?_) (fun h => ?_) | fail)
  ·refine aQ (N - (i + 1)) _ _ _ (by first | omega | (simp only [List.length_append, List.length_cons, List.length_nil]; omega)) aS cZ cK (⟨i + 1, _, 1, by omega, rfl, by rw [fG]; exact ho, ?_, by omega, ?_, rfl, rfl, rfl⟩)
   ·rw [oF, iT _ _ _ (by omega)]; exact hd.snoc (by omega)
   ·exact aDK hv (by omega) (s := gt a i + gt b i + cr) rfl (by omega)
  ·refine aQ (N - (i + 1)) _ _ _ (by first | omega | (simp only [List.length_append, List.length_cons, List.length_nil]; omega)) aS cZ cK (⟨i + 1, _, 0, by omega, rfl, by rw [fG]; exact ho, ?_, by omega, ?_, rfl, rfl, rfl⟩)
   ·rw [oF, iT _ _ _ (by omega)]; exact hd.snoc (by omega)
   ·exact aDK hv (by omega) (s := gt a i + gt b i + cr) rfl (by omega)
 ·have hiN : i = N := by omega
  subst hiN
  rw [List.take_of_length_le (show o.length ≤ i by omega)] at hv hd
  rw [List.take_of_length_le (show a.length ≤ i by omega), List.take_of_length_le (show b.length ≤ i by omega), va, vb] at hv
  have hcr0 : cr = 0 := by
   have h1 := jW da
   have h2 := jW db
   have h3 := mE (show a.length ≤ i - 1 by omega)
   have h4 := mE (show b.length ≤ i - 1 by omega)
   have h5 : (1000000000 : Int) ^ i = 1000000000 ^ (i - 1) * 1000000000 := by
    rw [← Int.pow_succ]; congr 1; omega
   have h6 := jK (i - 1)
   have h7 := bO hd
   by_cases c : cr = 0
   ·exact c
   ·have : cr = 1 := by omega
    subst this
    omega
  subst hcr0
  have hg : fM o = gr (m + n) := mP hd (by omega)
  refine aO uK ?_
  (refine aT rfl (pE (l := o) (c := i) ho.symm (by omega) (by omega) aP) rfl rfl ?_; rintro _ _ _ ⟨rfl, rfl, rfl⟩; refine ⟨mQ, ?_⟩)
  repeat (refine kS ?_)
  rw [hg]
  refine aN (by first | exact .inl rfl | exact .inr rfl) rfl rfl _ _ cZ cK (⟨rfl, _, _, rfl, ⟨by rw [← hg]; have := sQ o; obtain ⟨k, h1, h2, _⟩ := this; rw [h2]; simp; omega, .inl (Ok.mk _ _)⟩, rfl⟩)
end
end Go.Proofs.YtmmmfphealhapaaGreat
namespace Go.Proofs.YtmmmfphealhapaaGreat
open Go Go.Fx
section
variable {X : List Nat} {w0 : World} {M0 : List Ent} {I0 : List bA}
theorem vD {o : List Int} : (fM o).length ≤ o.length := by
 obtain ⟨k, h1, h2, _⟩ := sQ o
 rw [h2]; simp; omega
theorem yF {p q : Option Addr} {m n cp cq : Nat} (hm : (gr m).length ≤ 100000000000) (hle : n ≤ m) (hp : aX p (recs eG (gr m)) ∈ I0) (hq : aX q (recs eG (gr n)) ∈ I0) :
  CD Tryz.prog 130 [.slice p (gr m).length cp, .slice q (gr n).length cq] X w0 M0 I0 (GrP (m - n) M0 I0) := by
 have da := bW m
 have db := bW n
 have va := dC m
 have vb := dC n
 have hln := gG hle
 generalize ha : gr m = a at *
 generalize hb : gr n = b at *
 refine eY Tryz.func130 rfl Tryz.ntmps130 rfl ?_
 repeat (refine kS ?_)
 (refine mJ (a.length) rfl rfl (by omega) (by omega) (by omega) (by omega) (mG _ _) rfl rfl ?_; intro bo; refine ⟨mQ, ?_⟩)
 repeat (refine kS ?_)
 refine bG [0, 1, 5, 13] rfl (fun k G M I => ∃ (i : Nat) (o : List Int) (cr : Int), i ≤ a.length ∧ k = a.length - i ∧ o.length = a.length ∧ Dig (o.take i) ∧ (0 ≤ cr ∧ cr ≤ 1) ∧ val (o.take i) - 1000000000 ^ i * cr = val (a.take i) - val (b.take i) ∧ G = [(6, .int .u32 cr), (14, .int .i64 i)] ∧ M = .blk bo (recs eG o) 121 :: M0 ∧ I0 = I) (a.length) _ _ _ aS cZ cK (⟨0, _, 0, by omega, by omega, by simp, by simp [Dig], by omega, by simp [val], rfl, rfl, rfl⟩) ?_
 rintro k G M I ⟨i, o, cr, hi, rfl, ho, hd, hcr, hv, rfl, rfl, rfl⟩
 repeat' (first | refine kS ?_ | refine aV rfl (fun h => ?_) (fun h => ?_) | refine aW rfl rfl (fun h => ?_) (fun h => ?_) | fail)
 ·(refine aT rfl (aHB (i := i) rfl (by omega) hq) rfl rfl ?_; rintro _ _ _ ⟨rfl, rfl, rfl⟩; refine ⟨mQ, ?_⟩)
  have d1 := da.gt i
  have d2 := db.gt i
  repeat' (first | refine kS ?_ | refine aV rfl (fun h => ?_) (fun h => ?_) | refine aW rfl rfl (fun h => ?_) (fun h => ?_) | fail)
  ·refine aQ (a.length - (i + 1)) _ _ _ (by first | omega | (simp only [List.length_append, List.length_cons, List.length_nil]; omega)) aS cZ cK (⟨i + 1, _, 1, by omega, rfl, by rw [fG]; exact ho, ?_, by omega, ?_, rfl, rfl, rfl⟩)
   ·rw [oF, iT _ _ _ (by omega)]; exact hd.snoc (by omega)
   ·exact aCL hv (by omega) (show gt a i + 1000000000 - (gt b i + cr) - 1000000000 * 1 = gt a i - gt b i - cr by omega)
  ·refine aQ (a.length - (i + 1)) _ _ _ (by first | omega | (simp only [List.length_append, List.length_cons, List.length_nil]; omega)) aS cZ cK (⟨i + 1, _, 0, by omega, rfl, by rw [fG]; exact ho, ?_, by omega, ?_, rfl, rfl, rfl⟩)
   ·rw [oF, iT _ _ _ (by omega)]; exact hd.snoc (by omega)
   ·exact aCL hv (by omega) (show gt a i - (gt b i + cr) - 1000000000 * 0 = gt a i - gt b i - cr by omega)
 ·have hiN : i = a.length := by omega
  subst hiN
  rw [List.take_of_length_le (show o.length ≤ a.length by omega)] at hv hd
  rw [List.take_length, List.take_of_length_le hln, va, vb] at hv
  have hcr0 : cr = 0 := by
   have h1 := jW hd
   have h7 := bO hd
   rw [ho] at h1
   by_cases c : cr = 0
   ·exact c
   ·have : cr = 1 := by omega
    subst this
    omega
  subst hcr0
  have hg : fM o = gr (m - n) := mP hd (by omega)
  refine aO uK ?_
  (refine aT rfl (pE (l := o) (c := a.length) ho.symm (by omega) (by omega) aP) rfl rfl ?_; rintro _ _ _ ⟨rfl, rfl, rfl⟩; refine ⟨mQ, ?_⟩)
  repeat (refine kS ?_)
  have hle2 := vD (o := o)
  rw [hg] at hle2 ⊢
  refine aN (by first | exact .inl rfl | exact .inr rfl) rfl rfl _ _ cZ cK (⟨rfl, _, _, rfl, ⟨by omega, .inl (Ok.mk _ _)⟩, rfl⟩)
theorem pQ {n : Nat} (hn : n ≤ 18446744073709551615) : CD Tryz.prog 124 [.int .u64 n] X w0 M0 I0 (GrP n M0 I0) := by
 refine eY Tryz.func124 rfl Tryz.ntmps124 rfl ?_
 repeat (refine kS ?_)
 refine vL 121 1 ?_
 refine bG [] rfl (fun k G M I => ∃ (m : Nat) (a : Option Addr) (c' : Nat) (xs : List Int), m ≤ n ∧ k = m ∧ (0 < m → xs.length ≤ 2 - (gr m).length + 1) ∧ xs ++ gr m = gr n ∧ xs.length ≤ 3 ∧ G = [(0, .int .u64 m), (3, .slice a xs.length c')] ∧ M = .row a xs.length c' (recs eG xs) 121 1 :: M0 ∧ I0 = I) (n) _ _ _ aS cZ cK (⟨n, none, 0, [], by omega, rfl, by simp, by simp, by simp, rfl, rfl, rfl⟩) ?_
 rintro k G M I ⟨m, a, c', xs, hm, rfl, _, hxs, hx3, rfl, rfl, rfl⟩
 have h3 : (gr n).length ≤ 3 := oD (by omega)
 have h4 : xs.length + (gr k).length ≤ 3 := by rw [← hxs] at h3; simpa using h3
 repeat' (first | refine kS ?_ | refine aV rfl (fun h => ?_) (fun h => ?_) | refine aW rfl rfl (fun h => ?_) (fun h => ?_) | fail)
 ·have hk : k ≠ 0 := by omega
  have e1 : ((k : Int)).tmod 1000000000 = ((k % 1000000000 : Nat) : Int) := by rw [Int.tmod_eq_emod_of_nonneg (by omega)]; omega
  have e2 : ((k : Int)).tdiv 1000000000 = ((k / 1000000000 : Nat) : Int) := by rw [Int.tdiv_eq_ediv_of_nonneg (by omega)]; omega
  rw [e1]
  have hgk := rR hk
  have h5 : (gr k).length = (gr (k / 1000000000)).length + 1 := by rw [hgk]; simp
  repeat (refine kS ?_)
  (refine dM (cs := recs eG [((k % 1000000000 : Nat) : Int)]) ([.int .u32 ((k % 1000000000 : Nat) : Int)]) rfl rfl (by intro v hv; repeat (first | exact absurd hv (List.not_mem_nil) | (rcases List.mem_cons.1 hv with rfl | hv; · rfl))) (by omega) rfl rfl rfl ?_; intro b2; refine ⟨mQ, ?_⟩)
  (refine iK (ys := [((k % 1000000000 : Nat) : Int)]) 1 rfl rfl rfl ?_ (by decide) rfl (by omega) (by omega) rfl rfl ?_; (· first | exact Src.blk aP | exact Src.row aP | exact Src.imm aP (by first | assumption | exact .inl (Ok.mk _ _))); intro a2 c2; refine ⟨mQ, ?_⟩)
  repeat (refine kS ?_)
  rw [e2]
  refine aQ (k / 1000000000) _ _ _ (by first | omega | (simp only [List.length_append, List.length_cons, List.length_nil]; omega)) aS cZ cK (⟨k / 1000000000, a2, c2, _, by omega, rfl, by intro _; simp; omega, by rw [List.append_assoc]; rw [hgk] at hxs; exact hxs, by simp; omega, rfl, rfl, rfl⟩)
 ·have h0 : k = 0 := by omega
  subst h0
  rw [fH, List.append_nil] at hxs
  subst hxs
  refine aOK (fun w hw => And.intro (hw.rowLe (List.Mem.head _)) ((hw.rowS (List.Mem.head _)).2.imp id And.right)) (fun hc => ?_)
  refine uJ uK ?_
  refine aN (by first | exact .inl rfl | exact .inr rfl) rfl rfl _ _ cZ cK (⟨rfl, _, _, rfl, hc, rfl⟩)
end
end Go.Proofs.YtmmmfphealhapaaGreat
namespace Go.Proofs.YtmmmfphealhapaaGreat
open Go Go.Fx
theorem iA (l : List Int) (i j : Nat) (x : Int) : st l ((i : Int) + (j : Int)) x = l.set (i + j) x := by
 unfold st
 congr 1
theorem wL (l : List Int) (i j : Nat) : gt l ((i : Int) + (j : Int)) = l.getD (i + j) 0 := tH l (i + j)
theorem lG {l : List Int} {i j : Nat} (x : Int) (h : i ≠ j) : (l.set i x).getD j 0 = l.getD j 0 := by
 simp [List.getD, List.getElem?_set_ne h]
section
variable {X : List Nat} {w0 : World} {M0 : List Ent} {I0 : List bA}
theorem aMR {p q : Option Addr} {m n cp cq : Nat} (hm : (gr m).length ≤ 100000000000) (hn : (gr n).length ≤ 100000000000) (hp : aX p (recs eG (gr m)) ∈ I0) (hq : aX q (recs eG (gr n)) ∈ I0) :
  CD Tryz.prog 125 [.slice p (gr m).length cp, .slice q (gr n).length cq] X w0 M0 I0 (GrP (m * n) M0 I0) := by
 have da := bW m
 have db := bW n
 have va := dC m
 have vb := dC n
 generalize ha : gr m = a at *
 generalize hb : gr n = b at *
 refine eY Tryz.func125 rfl Tryz.ntmps125 rfl ?_
 repeat (refine kS ?_)
 (refine mJ (a.length + b.length) rfl rfl (by omega) (by omega) (by omega) (by omega) (mG _ _) rfl rfl ?_; intro bo; refine ⟨mQ, ?_⟩)
 repeat (refine kS ?_)
 refine bG [1, 5, 18, 19] rfl (fun k G M I => ∃ (i : Nat) (o : List Int), i ≤ a.length ∧ k = a.length - i ∧ o.length = a.length + b.length ∧ Dig o ∧ val o = val (a.take i) * val b ∧ (∀ j : Nat, i + b.length ≤ j → o.getD j 0 = 0) ∧ G = [(20, .int .i64 i)] ∧ M = .blk bo (recs eG o) 121 :: M0 ∧ I0 = I) (a.length) _ _ _ aS cZ cK (⟨0, _, by omega, by omega, by simp, Dig.zeros _, by rw [wQ]; simp [val], fun j _ => by simp [List.getD, List.getElem?_replicate]; split <;> rfl, rfl, rfl, rfl⟩) ?_
 rintro k G M I ⟨i, o, hi, rfl, ho, hd, hv, hz, rfl, rfl, rfl⟩
 repeat' (first | refine kS ?_ | refine aV rfl (fun h => ?_) (fun h => ?_) | refine aW rfl rfl (fun h => ?_) (fun h => ?_) | fail)
 ·have hia : i < a.length := by omega
  have d1 := da.gt i
  refine bG [1, 5, 6, 7, 18, 19, 20, 25, 26] rfl (fun k G M I => ∃ (j : Nat) (u : List Int) (c : Int), j ≤ b.length ∧ k = b.length - j ∧ u.length = a.length + b.length ∧ Dig u ∧ (0 ≤ c ∧ c < 1000000000) ∧ val u + 1000000000 ^ (i + j) * c = val (a.take i) * val b + 1000000000 ^ i * (gt a i * val (b.take j)) ∧ (∀ j : Nat, i + b.length ≤ j → u.getD j 0 = 0) ∧ G = [(8, .int .u64 c), (27, .int .i64 j)] ∧ M = .blk bo (recs eG u) 121 :: M0 ∧ I0 = I) (b.length) _ _ _ aS cZ cK (⟨0, o, 0, by omega, by omega, ho, hd, by omega, by simp [val, hv], hz, rfl, rfl, rfl⟩) ?_
  rintro k G M I ⟨j, u, c, hj, rfl, hu, hdu, hc, hvu, hzu, rfl, rfl, rfl⟩
  have d2 := db.gt j
  have d3 := hdu.gt ((i : Int) + j)
  have d4 := qR d1 d2 d3 hc
  have e1 : (gt u ((i : Int) + j) + gt a i * gt b j + c).tmod 1000000000 = (gt u ((i : Int) + j) + gt a i * gt b j + c) % 1000000000 := Int.tmod_eq_emod_of_nonneg d4.2.1.1
  have e2 : (gt u ((i : Int) + j) + gt a i * gt b j + c).tdiv 1000000000 = (gt u ((i : Int) + j) + gt a i * gt b j + c) / 1000000000 := Int.tdiv_eq_ediv_of_nonneg d4.2.1.1
  repeat' (first | refine kS ?_ | refine aV rfl (fun h => ?_) (fun h => ?_) | refine aW rfl rfl (fun h => ?_) (fun h => ?_) | fail)
  ·have hst := aFC (o := u) (b := b) (j := j) hvu (by omega)
   rw [e1, e2]
   refine aQ (b.length - (j + 1)) _ _ _ (by first | omega | (simp only [List.length_append, List.length_cons, List.length_nil]; omega)) aS cZ cK (⟨j + 1, _, _, by omega, rfl, by rw [fG]; exact hu, ?_, d4.2.2, ?_, ?_, rfl, rfl, rfl⟩)
   ·rw [iA]; exact hdu.set _ (by omega)
   ·rw [iA, wL, tH, tH]
    rw [tH] at hst
    exact hst
   ·intro t ht
    rw [iA, lG _ (by omega)]
    exact hzu t ht
  ·have hjb : j = b.length := by omega
   subst hjb
   have hst := aBU (o := u) (b := b) hvu (by omega) (hzu _ (Nat.le_refl _))
   repeat (refine kS ?_)
   refine aQ (a.length - (i + 1)) _ _ _ (by first | omega | (simp only [List.length_append, List.length_cons, List.length_nil]; omega)) aS cZ cK (⟨i + 1, _, by omega, rfl, by rw [fG]; exact hu, ?_, ?_, ?_, rfl, rfl, rfl⟩)
   ·rw [iA]; exact hdu.set _ hc
   ·rw [iA, hst, bP, tH]
    rw [Int.add_mul, Int.mul_assoc]
   ·intro t ht
    rw [iA, lG _ (by omega)]
    exact hzu t (by omega)
 ·have hiN : i = a.length := by omega
  subst hiN
  rw [List.take_length, va, vb] at hv
  have hg : fM o = gr (m * n) := mP hd (by rw [hv, Int.natCast_mul])
  refine aO uK ?_
  (refine aT rfl (pE (l := o) (c := a.length + b.length) ho.symm (by omega) (by omega) aP) rfl rfl ?_; rintro _ _ _ ⟨rfl, rfl, rfl⟩; refine ⟨mQ, ?_⟩)
  repeat (refine kS ?_)
  have hle2 := vD (o := o)
  rw [hg] at hle2 ⊢
  refine aN (by first | exact .inl rfl | exact .inr rfl) rfl rfl _ _ cZ cK (⟨rfl, _, _, rfl, ⟨by omega, .inl (Ok.mk _ _)⟩, rfl⟩)
end
end Go.Proofs.YtmmmfphealhapaaGreat
namespace Go.Proofs.YtmmmfphealhapaaGreat
open Go Go.Fx
theorem aMK {w : World} {base b : Nat} {e : TypeId} {sz m c : Nat} {cs : List Value} (h : Blk w b cs e) (hb : base ≤ b) (hl : cs.length = c * sz) (hmc : m ≤ c) (hm : c ≤ 9223372036854775807) : w.ownsRow base e sz (.slice (some ⟨b, 0, none⟩) m c) m (cs.take (m * sz)) :=
 ⟨by rw [List.length_take, hl, Nat.min_eq_left (Nat.mul_le_mul_right _ hmc)], .inr ⟨b, c, cs.toArray, rfl, hb, h, hmc, by simpa [maxLen] using hm, by simpa using hl, by simp⟩⟩
theorem _root_.Go.Fx.Mem.toRowT {X : List Nat} {w0 w : World} {M M' : List Ent} {I : List bA} {b m c : Nat} {cs : List Value} {e : TypeId} (sz : Nat) (h : Mem X w0 M I w) (hr : Rep (.blk b cs e) (.row (some ⟨b, 0, none⟩) m c (cs.take (m * sz)) e sz) M M') (hl : cs.length = c * sz) (hmc : m ≤ c) (hm : c ≤ 9223372036854775807) : Mem X w0 M' I w := by
 have hb : Blk w b cs e := h.ent _ hr.mem
 exact h.upd hr (Ext.refl _ _) (fun b hb => .inl hb) (by simp [Ent.blocks]) (aMK hb (Nat.zero_le _) hl hmc hm)
theorem _root_.Go.Fx.Mem.imm0 {X : List Nat} {w0 w : World} {M : List Ent} {I : List bA} (h : Mem X w0 M I w) : Mem [] w [] [] w := ⟨Ext.refl _ _, fun _ h => absurd h (by simp [muts]), by simp [muts], fun _ h => absurd h (by simp), fun _ h => absurd h (by simp)⟩
theorem zB (l : List Int) (k : Nat) : (recs eG l).take k = recs eG (l.take k) := by
 rw [nY, nY, List.map_take]
section
variable {X : List Nat} {w0 : World} {M0 : List Ent} {I0 : List bA}
theorem aAF {p q : Option Addr} {m n cp cq : Nat} (hm : (gr m).length ≤ 100000000000) (hn : (gr n).length ≤ 100000000000) (hp : aX p (recs eG (gr m)) ∈ I0) (hq : aX q (recs eG (gr n)) ∈ I0) :
  CD Tryz.prog 125 [.slice p (gr m).length cp, .slice q (gr n).length cq] X w0 M0 I0 (fun v M I => ∃ b c, v = .slice (some ⟨b, 0, none⟩) (gr (m * n)).length c ∧ (gr (m * n)).length ≤ c ∧ M = .row (some ⟨b, 0, none⟩) (gr (m * n)).length c (recs eG (gr (m * n))) 121 1 :: M0 ∧ I0 = I) := by
 have da := bW m
 have db := bW n
 have va := dC m
 have vb := dC n
 generalize ha : gr m = a at *
 generalize hb : gr n = b at *
 refine eY Tryz.func125 rfl Tryz.ntmps125 rfl ?_
 repeat (refine kS ?_)
 (refine mJ (a.length + b.length) rfl rfl (by omega) (by omega) (by omega) (by omega) (mG _ _) rfl rfl ?_; intro bo; refine ⟨mQ, ?_⟩)
 repeat (refine kS ?_)
 refine bG [1, 5, 18, 19] rfl (fun k G M I => ∃ (i : Nat) (o : List Int), i ≤ a.length ∧ k = a.length - i ∧ o.length = a.length + b.length ∧ Dig o ∧ val o = val (a.take i) * val b ∧ (∀ j : Nat, i + b.length ≤ j → o.getD j 0 = 0) ∧ G = [(20, .int .i64 i)] ∧ M = .blk bo (recs eG o) 121 :: M0 ∧ I0 = I) (a.length) _ _ _ aS cZ cK (⟨0, _, by omega, by omega, by simp, Dig.zeros _, by rw [wQ]; simp [val], fun j _ => by simp [List.getD, List.getElem?_replicate]; split <;> rfl, rfl, rfl, rfl⟩) ?_
 rintro k G M I ⟨i, o, hi, rfl, ho, hd, hv, hz, rfl, rfl, rfl⟩
 repeat' (first | refine kS ?_ | refine aV rfl (fun h => ?_) (fun h => ?_) | refine aW rfl rfl (fun h => ?_) (fun h => ?_) | fail)
 ·have hia : i < a.length := by omega
  have d1 := da.gt i
  refine bG [1, 5, 6, 7, 18, 19, 20, 25, 26] rfl (fun k G M I => ∃ (j : Nat) (u : List Int) (c : Int), j ≤ b.length ∧ k = b.length - j ∧ u.length = a.length + b.length ∧ Dig u ∧ (0 ≤ c ∧ c < 1000000000) ∧ val u + 1000000000 ^ (i + j) * c = val (a.take i) * val b + 1000000000 ^ i * (gt a i * val (b.take j)) ∧ (∀ j : Nat, i + b.length ≤ j → u.getD j 0 = 0) ∧ G = [(8, .int .u64 c), (27, .int .i64 j)] ∧ M = .blk bo (recs eG u) 121 :: M0 ∧ I0 = I) (b.length) _ _ _ aS cZ cK (⟨0, o, 0, by omega, by omega, ho, hd, by omega, by simp [val, hv], hz, rfl, rfl, rfl⟩) ?_
  rintro k G M I ⟨j, u, c, hj, rfl, hu, hdu, hc, hvu, hzu, rfl, rfl, rfl⟩
  have d2 := db.gt j
  have d3 := hdu.gt ((i : Int) + j)
  have d4 := qR d1 d2 d3 hc
  have e1 : (gt u ((i : Int) + j) + gt a i * gt b j + c).tmod 1000000000 = (gt u ((i : Int) + j) + gt a i * gt b j + c) % 1000000000 := Int.tmod_eq_emod_of_nonneg d4.2.1.1
  have e2 : (gt u ((i : Int) + j) + gt a i * gt b j + c).tdiv 1000000000 = (gt u ((i : Int) + j) + gt a i * gt b j + c) / 1000000000 := Int.tdiv_eq_ediv_of_nonneg d4.2.1.1
  repeat' (first | refine kS ?_ | refine aV rfl (fun h => ?_) (fun h => ?_) | refine aW rfl rfl (fun h => ?_) (fun h => ?_) | fail)
  ·have hst := aFC (o := u) (b := b) (j := j) hvu (by omega)
   rw [e1, e2]
   refine aQ (b.length - (j + 1)) _ _ _ (by first | omega | (simp only [List.length_append, List.length_cons, List.length_nil]; omega)) aS cZ cK (⟨j + 1, _, _, by omega, rfl, by rw [fG]; exact hu, ?_, d4.2.2, ?_, ?_, rfl, rfl, rfl⟩)
   ·rw [iA]; exact hdu.set _ (by omega)
   ·rw [iA, wL, tH, tH]
    rw [tH] at hst
    exact hst
   ·intro t ht
    rw [iA, lG _ (by omega)]
    exact hzu t ht
  ·have hjb : j = b.length := by omega
   subst hjb
   have hst := aBU (o := u) (b := b) hvu (by omega) (hzu _ (Nat.le_refl _))
   repeat (refine kS ?_)
   refine aQ (a.length - (i + 1)) _ _ _ (by first | omega | (simp only [List.length_append, List.length_cons, List.length_nil]; omega)) aS cZ cK (⟨i + 1, _, by omega, rfl, by rw [fG]; exact hu, ?_, ?_, ?_, rfl, rfl, rfl⟩)
   ·rw [iA]; exact hdu.set _ hc
   ·rw [iA, hst, bP, tH]
    rw [Int.add_mul, Int.mul_assoc]
   ·intro t ht
    rw [iA, lG _ (by omega)]
    exact hzu t (by omega)
 ·have hiN : i = a.length := by omega
  subst hiN
  rw [List.take_length, va, vb] at hv
  have hg : fM o = gr (m * n) := mP hd (by rw [hv, Int.natCast_mul])
  (refine aT rfl (CD.lend [aX (some ⟨bo, 0, none⟩) (recs eG o)] (fun w hw => Mem.lendB (b := bo) (e := 121) aP hw hw.imm0) (fun W => (pE (X := []) (w0 := W) (M0 := []) (I0 := [aX (some ⟨bo, 0, none⟩) (recs eG o)]) (l := o) (c := a.length + b.length) ho.symm (by omega) (by omega) aP).mono (fun _ _ _ h => h.2.2))) rfl rfl ?_; rintro _ _ _ ⟨rfl, rfl, rfl⟩; refine ⟨mQ, ?_⟩)
  repeat (refine kS ?_)
  have hle2 := vD (o := o)
  obtain ⟨kk, hk1, hk2, _⟩ := sQ o
  have hlk : (gr (m * n)).length = kk := by rw [← hg, hk2, List.length_take]; omega
  rw [hg] at hle2 ⊢
  refine xS (I' := I0) (M' := .row (some ⟨bo, 0, none⟩) (gr (m * n)).length (a.length + b.length) (recs eG (gr (m * n))) 121 1 :: M0) (fun w hw => ?_) ?_
  ·refine hw.toRowT (b := bo) (e := 121) (cs := recs eG o) (c := a.length + b.length) (m := (gr (m * n)).length) 1 ?_ (by rw [nY, List.length_map]; omega) (by omega) (by omega)
   have e : (recs eG o).take ((gr (m * n)).length * 1) = recs eG (gr (m * n)) := by rw [hlk, Nat.mul_one, ← hg, hk2, zB]
   rw [e]
   exact lW
  ·refine aN (by first | exact .inl rfl | exact .inr rfl) rfl rfl _ _ cZ cK (⟨_, _, rfl, by omega, rfl, rfl⟩)
end
end Go.Proofs.YtmmmfphealhapaaGreat
namespace Go.Fx
def aAZ (P : Program) (tmps : Array Value) (w : World) : List ResultVar → List Value → Prop
 | [], [] => True
 | .tmp t :: r, v :: vs => tmps.getD t undef = v ∧ aAZ P tmps w r vs
 | .cell a t :: r, v :: vs => (do loadVar t (← asAddr (tmps.getD a undef)) : Sem Value).run P w = .ok v w ∧ aAZ P tmps w r vs
 | _, _ => False
theorem vQ (P : Program) (tmps : Array Value) (w : World) : ∀ (rs : List ResultVar) (vs : List Value), aAZ P tmps w rs vs → (rs.toArray.mapM fun
  | ResultVar.tmp t => (pure (tmps.getD t undef) : Sem Value)
  | ResultVar.cell a t => do loadVar t (← asAddr (tmps.getD a undef))).run P w = Result.ok vs.toArray w := by
 intro rs vs h
 rw [List.mapM_toArray]
 simp only [Sem.run_map]
 have : ∀ (l : List ResultVar) (vs : List Value), aAZ P tmps w l vs → (List.mapM (m := Sem) (fun
  | ResultVar.tmp t => (pure (tmps.getD t undef) : Sem Value)
  | ResultVar.cell a t => do loadVar t (← asAddr (tmps.getD a undef))) l).run P w = Result.ok vs w := by
  intro l
  induction l with
  | nil => intro vs h; cases vs with
   | nil => rfl
   | cons v vs => exact h.elim
  | cons r l ih =>
   intro vs h
   cases vs with
   | nil => cases r <;> exact h.elim
   | cons v vs =>
    cases r with
    | tmp t =>
     obtain ⟨h1, h2⟩ := h
     simp only [List.mapM_cons, Sem.run_bind, Sem.run_pure, Result.andThen_ok, ih vs h2, h1]
    | cell a t =>
     obtain ⟨h1, h2⟩ := h
     simp only [List.mapM_cons, Sem.run_bind] at h1 ⊢
     rw [h1]
     simp only [Result.andThen_ok, Sem.run_bind, ih vs h2, Sem.run_pure]
 rw [this rs vs h]
 rfl
theorem aBA {P : Program} {a : Tmp} {t : TypeId} {tmps : Array Value} {w : World} {b : Nat} {v : Value} {e : TypeId} [ht : ScalarTy P t] (hb : tmps.getD a undef = .pointer (some ⟨b, 0, none⟩)) (hB : Blk w b [v] e) :
  (do loadVar t (← asAddr (tmps.getD a undef)) : Sem Value).run P w = .ok v w := by
 have hc := hB.cell (o := 0) rfl
 have hb' : tmps[a]?.getD undef = .pointer (some ⟨b, 0, none⟩) := by simpa using hb
 simp [hb', asAddr, loadVar, lC, hc]
theorem aIR {P : Program} {a : Tmp} {t : TypeId} {sz : Nat} {tmps : Array Value} {w : World} {b : Nat} {cs : List Value} {e : TypeId} [ht : AggTy P t sz] (hb : tmps.getD a undef = .pointer (some ⟨b, 0, none⟩)) (hB : Blk w b cs e) (hl : cs.length = sz) :
  (do loadVar t (← asAddr (tmps.getD a undef)) : Sem Value).run P w = .ok (.agg cs.toArray) w := by
 have := run_loadCellsFrom (P := P) cs (hB.row0) sz 0 #[] (by omega) rfl
 have hb' : tmps[a]?.getD undef = .pointer (some ⟨b, 0, none⟩) := by simpa using hb
 simp [hb', asAddr, loadVar, lQ, run_sizeOf ht.size, loadCells, this]
section
variable {P : Program} {n : Nat} {G : Env} {X : List Nat} {w0 : World} {M M' : List Ent} {I I' : List bA}
inductive RsD (P : Program) (G : Env) (M : List Ent) : List ResultVar → List Value → Prop
 | nil : RsD P G M [] []
 | tmp {t : Nat} {v : Value} {r : List ResultVar} {vs : List Value} (h : lk G t = some v) (k : RsD P G M r vs) : RsD P G M (.tmp t :: r) (v :: vs)
 | cell {a : Nat} {t : TypeId} {b : Nat} {v : Value} {e : TypeId} {r : List ResultVar} {vs : List Value} (ht : ScalarTy P t) (h : lk G a = some (.pointer (some ⟨b, 0, none⟩))) (hm : .blk b [v] e ∈ M) (k : RsD P G M r vs) : RsD P G M (.cell a t :: r) (v :: vs)
 | cellN {a : Nat} {t : TypeId} {sz b : Nat} {cs : List Value} {e : TypeId} {r : List ResultVar} {vs : List Value} (ht : AggTy P t sz) (h : lk G a = some (.pointer (some ⟨b, 0, none⟩))) (hm : .blk b cs e ∈ M) (hl : cs.length = sz) (k : RsD P G M r vs) : RsD P G M (.cell a t :: r) (.agg cs.toArray :: vs)
theorem RsD.ok {a : Act} {w : World} (ha : Has n G a) (hw : Mem X w0 M I w) {rs : List ResultVar} {vs : List Value} (h : RsD P G M rs vs) : aAZ P a.tmps w rs vs := by
 induction h with
 | nil => trivial
 | tmp h _ ih => exact ⟨by simp [ha.get _ _ h], ih⟩
 | cell ht h hm _ ih => exact ⟨aBA (by simp [ha.get _ _ h]) (hw.blk hm), ih⟩
 | cellN ht h hm hl _ ih => exact ⟨aIR (by simp [ha.get _ _ h]) (hw.blk hm) hl, ih⟩
theorem dP {fn : Func} {K : Value → List Ent → List bA → Prop} {rs : List ResultVar} {vs : List Value} {ex : Exit} (he : ex = .ret ∨ ex = .normal) (hr : fn.results = rs.toArray) (hv : RsD P G M rs vs) (hl : Nat.beq vs.length 1 = false) (M' : List Ent) (I' : List bA) (hM : SubP M M') (hI : Inc I I') (h : K (.tuple vs.toArray) M' I') :
  ND n (Body P fn (KB K X w0)) ex G X w0 M I := ⟨fun w hw => ⟨fun a ha => by
 unfold Body
 have e1 := vQ P a.tmps w rs vs (hv.ok ha hw)
 have e2 : (results fn a.tmps).run P w = .ok (.tuple vs.toArray) w := by
  have hne : ¬ vs.length = 1 := by intro e; simp [e] at hl
  unfold results
  rw [hr, Sem.run_bind]
  refine (congrArg (fun r => Result.andThen r fun a w' => Sem.run P (pure (if h : a.size = 1 then a[0] else Value.tuple a)) w') e1).trans ?_
  simp [hne]
 rcases he with rfl | rfl <;> exact ⟨ha.defers, _, e2, _, rfl, M', I', h, hw.weak hM hI⟩⟩⟩
theorem aNB {fn : Func} {K : Value → List Ent → List bA → Prop} {ex : Exit} {a : Tmp} {t : TypeId} {b : Nat} {v : Value} {e : TypeId} [ScalarTy P t] (he : ex = .ret ∨ ex = .normal) (hr : fn.results = #[.cell a t]) (hv : lk G a = some (.pointer (some ⟨b, 0, none⟩))) (hm : .blk b [v] e ∈ M) (M' : List Ent) (I' : List bA) (hM : SubP M M') (hI : Inc I I') (h : K v M' I') :
  ND n (Body P fn (KB K X w0)) ex G X w0 M I := ⟨fun w hw => ⟨fun act ha => by
 unfold Body
 have e1 : act.tmps.getD a undef = .pointer (some ⟨b, 0, none⟩) := by simp [ha.get a _ hv]
 have e2 := zL (P := P) (t := t) hr e1 (hw.blk hm)
 rcases he with rfl | rfl <;> exact ⟨ha.defers, _, e2, _, rfl, M', I', h, hw.weak hM hI⟩⟩⟩
end
end Go.Fx
