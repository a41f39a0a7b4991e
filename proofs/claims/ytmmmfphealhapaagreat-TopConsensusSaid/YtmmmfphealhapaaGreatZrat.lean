/- fiducialref01: Sub, Compare, Mul, Of fiducialref01: Of, pair, Gcd, Divide fiducialref01: pair, Gcd -/
import Derived.Test.YtmmmfphealhapaaGreatZras
import Derived.Test.YtmmmfphealhapaaGreatZrao
set_option linter.unusedSimpArgs false
set_option linter.unusedVariables false
set_option maxRecDepth 100000
set_option maxHeartbeats 4000000
namespace Go.Proofs.YtmmmfphealhapaaGreat
open Go Go.Fx
theorem aBO (k m : Nat) : 2 ^ k + 2 ^ m ≤ 2 ^ (k + m + 1) := by
 have h1 : 2 ^ k ≤ 2 ^ (k + m) := Nat.pow_le_pow_right (by decide) (by omega)
 have h2 : 2 ^ m ≤ 2 ^ (k + m) := Nat.pow_le_pow_right (by decide) (by omega)
 rw [Nat.pow_succ]; omega
theorem aHD (y z : Int) : (y - z).sign = fQ y z := by
 unfold fQ
 by_cases h1 : y < z
 ·rw [if_pos h1]; exact Int.sign_eq_neg_one_of_neg (by omega)
 ·rw [if_neg h1]
  by_cases h2 : z < y
  ·rw [if_pos h2]; exact Int.sign_eq_one_of_pos (by omega)
  ·rw [if_neg h2, show y - z = 0 by omega]; rfl
theorem aQK (y z : Int) : sg (¬ (y < 0 ↔ z < 0)) (y.natAbs * z.natAbs) = y * z := by
 unfold sg
 rw [Int.natCast_mul]
 by_cases h1 : y < 0 <;> by_cases h2 : z < 0 <;> simp only [h1, h2, not_true_eq_false, not_false_eq_true, iff_true, iff_false, if_true, if_false]
 ·rw [show (y.natAbs : Int) = -y by omega, show (z.natAbs : Int) = -z by omega, Int.neg_mul_neg]
 ·rw [show (y.natAbs : Int) = -y by omega, show (z.natAbs : Int) = z by omega, Int.neg_mul, Int.neg_neg]
 ·rw [show (y.natAbs : Int) = y by omega, show (z.natAbs : Int) = -z by omega, Int.mul_neg, Int.neg_neg]
 ·rw [show (y.natAbs : Int) = y by omega, show (z.natAbs : Int) = z by omega]
section
variable {X : List Nat} {w0 : World} {M0 : List Ent} {I0 : List bA}
theorem aCJ {u v : Value} {y z : Int} {k m c : Nat} (hk : k ≤ 1000000000000) (hm : m ≤ 1000000000000) (hc0 : c ≤ 1000000000000) (hs : 2 ^ k + 2 ^ m ≤ 2 ^ c) (hu : iC u y k ∈ I0) (hv : iC v z m ∈ I0) : CD Tryz.prog 244 [u, v] X w0 M0 I0 (fun v M I => M0 = M ∧ I = iC v (y - z) c :: I0) := by
 refine cB hu (fun q cq e hc hy => ?_)
 subst e
 refine cB (List.Mem.tail _ hv) (fun q' cq' e hc' hz => ?_)
 subst e
 have hA := fun v M0 I0 => aGA (X := X) (w0 := w0) (M0 := M0) (I0 := I0) (u := iv q cq y) (v := v) (y := y) (z := -z) (k := k) (m := m) (c := c) hk hm hc0 hs
 rw [← Int.sub_eq_add_neg] at hA
 unfold iv at *
 refine bI Tryz.func244 rfl Tryz.ntmps244 rfl ?_
 refine aH ?_
 refine aI ?_
 (refine aK rfl rfl rfl ?_; intro b; refine ⟨okF, ?_⟩)
 (refine aK rfl rfl rfl ?_; intro b2; refine ⟨okF, ?_⟩)
 (refine aC rfl rfl ?_; intro b3; refine ⟨okF, ?_⟩)
 repeat (refine bE ?_)
 (repeat refine aH ?_); refine dG 2 [0, 1, 2, 3, 4] [1, 1, 0, 0, 0] mixed (by kernel_rfl) ?_
 repeat (refine bE ?_)
 (refine aA rfl (aBV hm aB) rfl rfl ?_; rintro _ _ _ ⟨rfl, rfl⟩; refine ⟨okF, ?_⟩)
 (refine aA rfl (hA _ _ _ aB aB) rfl rfl ?_; rintro _ _ _ ⟨rfl, rfl⟩; refine ⟨okF, ?_⟩; refine aU (List.Mem.head _) (fun q6 c6 e__ hc6 hz6 => ?_); subst e__)
 unfold iv
 repeat (refine bE ?_)
 refine bC (cs := [.bool (B (y - z < 0)), .slice q6 (gr (y - z).natAbs).length c6]) (.inl rfl) rfl rfl aB rfl _ _ aG aF ⟨rfl, rfl⟩
theorem aCM {u v : Value} {y z : Int} {k m : Nat} (hk : k ≤ 400000000000) (hm : m ≤ 400000000000) (hu : iC u y k ∈ I0) (hv : iC v z m ∈ I0) : CD Tryz.prog 183 [u, v] X w0 M0 I0 (fun v M I => M0 = M ∧ I0 = I ∧ v = .int .i64 (fQ y z)) := by
 refine cB hu (fun q cq e hc hy => ?_)
 subst e
 refine cB (List.Mem.tail _ hv) (fun q' cq' e hc' hz => ?_)
 subst e
 have hS := fun M0 I0 => aCJ (X := X) (w0 := w0) (M0 := M0) (I0 := I0) (u := iv q cq y) (v := iv q' cq' z) (k := k) (m := m) (c := k + m + 1) (y := y) (z := z) (by omega) (by omega) (by omega) (aBO k m)
 rw [← aHD]
 unfold iv at *
 refine bI Tryz.func183 rfl Tryz.ntmps183 rfl ?_
 refine aH ?_
 refine aI ?_
 (refine aK rfl rfl rfl ?_; intro b; refine ⟨okF, ?_⟩)
 (refine aK rfl rfl rfl ?_; intro b2; refine ⟨okF, ?_⟩)
 repeat (refine bE ?_)
 (refine aA rfl (hS _ _ aB aB) rfl rfl ?_; rintro _ _ _ ⟨rfl, rfl⟩; refine ⟨okF, ?_⟩)
 (refine aA rfl (vC (k := k + m + 1) (by omega) aB) rfl rfl ?_; rintro _ _ _ ⟨rfl, rfl, rfl⟩; refine ⟨okF, ?_⟩)
 repeat (refine bE ?_)
 refine aN (by first | exact .inl rfl | exact .inr rfl) rfl rfl _ _ aG aF (⟨rfl, rfl, rfl⟩)
theorem xL {u v : Value} {y z : Int} {k0 m0 : Nat} (hk : k0 + m0 ≤ 1000000000000) (hu : iC u y k0 ∈ I0) (hv : iC v z m0 ∈ I0) : CD Tryz.prog 211 [u, v] X w0 M0 I0 (fun v M I => M0 = M ∧ I = iC v (y * z) (k0 + m0) :: I0) := by
 refine cB hu (fun q cq e hc hy => ?_)
 subst e
 refine cB (List.Mem.tail _ hv) (fun q' cq' e hc' hz => ?_)
 subst e
 have hl := fK hy (by omega)
 have hl' := fK hz (by omega)
 have hyz : y.natAbs * z.natAbs ≤ 2 ^ (k0 + m0) := xB hy hz
 have hl3 := fK hyz (by omega)
 unfold iv
 have hMd := fun (q : Option Addr) (l : List Int) (h0 : l.length ≤ 1000000000000) (c2 : Nat) (h1 : l.length ≤ c2) (h2 : Ok q) (h3 : Dig l) (h4 : val l = ((y.natAbs * z.natAbs : Nat) : Int)) M0 I0 => qI (X := X) (w0 := w0) (M0 := M0) (I0 := I0) (p := ¬ (y < 0 ↔ z < 0)) (n := y.natAbs * z.natAbs) (q := q) (l := l) (c := c2) (k := k0 + m0) h0 h1 (.inl h2) h3 h4 hyz
 rw [aQK] at hMd
 refine bI Tryz.func211 rfl Tryz.ntmps211 rfl ?_
 refine aH ?_
 refine aI ?_
 (refine aK rfl rfl rfl ?_; intro bx; refine ⟨okF, ?_⟩)
 (refine aK rfl rfl rfl ?_; intro bz; refine ⟨okF, ?_⟩)
 (refine aC rfl rfl ?_; intro b3; refine ⟨okF, ?_⟩)
 repeat (refine bE ?_)
 (repeat refine aH ?_); refine dG 2 [0, 2, 1, 3, 4, 5] [1, 2, 0, 0, 0, 0] mixed (by kernel_rfl) ?_
 repeat (refine bE ?_)
 (refine aA rfl (kH hy (by omega) hc aB) rfl rfl ?_; rintro _ _ _ ⟨rfl, q3, c3, rfl, hc3, rfl⟩; refine ⟨okF, ?_⟩)
 repeat (refine bE ?_)
 (refine aA rfl (kH hz (by omega) hc' aB) rfl rfl ?_; rintro _ _ _ ⟨rfl, q4, c4, rfl, hc4, rfl⟩; refine ⟨okF, ?_⟩)
 have da := bW y.natAbs
 have db := bW z.natAbs
 have va := dC y.natAbs
 have vb := dC z.natAbs
 clear hl3 hyz hc hc' hc3 hc4
 generalize ha : gr y.natAbs = a at *
 generalize hb : gr z.natAbs = b at *
 repeat (refine bE ?_)
 (refine mJ (a.length + b.length) rfl rfl (by omega) (by omega) (by omega) (by omega) (mG _ _) rfl rfl ?_; intro bo; refine ⟨okF, ?_⟩)
 repeat (refine bE ?_)
 refine bG [2, 3, 4, 5] rfl (fun k G M I => ∃ (i : Nat) (o : List Int), i ≤ a.length ∧ k = a.length - i ∧ o.length = a.length + b.length ∧ Dig o ∧ val o = val (a.take i) * val b ∧ (∀ j : Nat, i + b.length ≤ j → o.getD j 0 = 0) ∧ G = [(6, .int .i64 i)] ∧ M = .blk bo (recs eG o) 121 :: .blk b3 [.bool false, .slice none 0 0] 42 :: .blk bz [.bool (B (z < 0)), .slice q4 b.length c4] 42 :: .blk bx [.bool (B (y < 0)), .slice q3 a.length c3] 42 :: M0 ∧ I = aX q4 (recs eG b) :: aX q3 (recs eG a) :: I0) (a.length) _ _ _ aS aG aF (⟨0, _, by omega, by omega, by simp, Dig.zeros _, by rw [wQ]; simp [val], fun j _ => by simp [List.getD, List.getElem?_replicate]; split <;> rfl, rfl, rfl, rfl⟩) ?_
 rintro k G M I ⟨i, o, hi, rfl, ho, hd, hv, hz, rfl, rfl, rfl⟩
 by_cases hia : i < a.length
 ·have d1 := da.gt i
  repeat (refine bE ?_)
  refine bG [2, 3, 4, 5, 6] rfl (fun k G M I => ∃ (j : Nat) (u : List Int) (c : Int), j ≤ b.length ∧ k = b.length - j ∧ u.length = a.length + b.length ∧ Dig u ∧ (0 ≤ c ∧ c < 1000000000) ∧ val u + 1000000000 ^ (i + j) * c = val (a.take i) * val b + 1000000000 ^ i * (gt a i * val (b.take j)) ∧ (∀ j : Nat, i + b.length ≤ j → u.getD j 0 = 0) ∧ G = [(7, .int .u64 c), (8, .int .i64 j)] ∧ M = .blk bo (recs eG u) 121 :: .blk b3 [.bool false, .slice none 0 0] 42 :: .blk bz [.bool (B (z < 0)), .slice q4 b.length c4] 42 :: .blk bx [.bool (B (y < 0)), .slice q3 a.length c3] 42 :: M0 ∧ I = aX q4 (recs eG b) :: aX q3 (recs eG a) :: I0) (b.length) _ _ _ aS aG aF (⟨0, o, 0, by omega, by omega, ho, hd, by omega, by simp [val, hv], hz, rfl, rfl, rfl⟩) ?_
  rintro k G M I ⟨j, u, c, hj, rfl, hu, hdu, hc, hvu, hzu, rfl, rfl, rfl⟩
  by_cases hjb : j < b.length
  ·have d2 := db.gt j
   have d3 := hdu.gt ((i : Int) + j)
   obtain ⟨d4, d5, d6⟩ := qR d1 d2 d3 hc
   have d7 : 0 ≤ gt a (i : Int) * gt b (j : Int) ∧ gt a (i : Int) * gt b (j : Int) ≤ 18446744073709551615 := by omega
   have e1 := yA d5.1
   have e2 := yG d5.1
   have hst := aFC (o := u) (b := b) (j := j) hvu (by omega)
   rw [← tH, ← tH] at hst
   rw [show (((i + j : Nat) : Int)) = (i : Int) + (j : Int) by omega] at hst
   obtain ⟨p, hp⟩ : ∃ p, p = gt a (i : Int) * gt b (j : Int) := ⟨_, rfl⟩
   obtain ⟨s, hs⟩ : ∃ s, s = (gt u ((i : Int) + (j : Int)) + gt a (i : Int) * gt b (j : Int) + c) % 1000000000 := ⟨_, rfl⟩
   obtain ⟨t, ht⟩ : ∃ t, t = (gt u ((i : Int) + (j : Int)) + gt a (i : Int) * gt b (j : Int) + c) / 1000000000 := ⟨_, rfl⟩
   rw [← hs] at e1 hst
   rw [← ht] at e2 hst d6
   have hs2 : 0 ≤ s ∧ s < 1000000000 := by omega
   clear hs ht hp
   repeat (refine bE ?_)
   (repeat refine aH ?_); refine gZ [0, 1, 2, 3, 4, 5, 6, 7, 8, 9, 10, 11, 12, 13, 14, 15, 16, 17, 18, 19, 20, 21, 22, 23] [0, 0, 0, 0, 0, 0, 0, 0, 0, 0, 0, 0, 0, 0, 0, 0, 0, 0, 0, 0, 0, 0, 0, 0] mixed (by kernel_rfl) ?_
   repeat (refine bE ?_)
   rw [e1]
   repeat (refine bE ?_)
   rw [e2]
   refine aQ (b.length - (j + 1)) _ _ _ (by first | omega | (simp only [List.length_append, List.length_cons, List.length_nil]; omega)) aS aG aF (⟨j + 1, _, t, by omega, rfl, by rw [fG]; exact hu, ?_, d6, ?_, ?_, rfl, rfl, rfl⟩)
   ·rw [iA]; exact hdu.set _ hs2
   ·rw [iA]; exact hst
   ·intro t ht
    rw [iA, lG _ (by omega)]
    exact hzu t ht
  ·have hjb : j = b.length := by omega
   subst hjb
   have hst := aBU (o := u) (b := b) hvu (by omega) (hzu _ (Nat.le_refl _))
   repeat (refine bE ?_)
   refine aQ (a.length - (i + 1)) _ _ _ (by first | omega | (simp only [List.length_append, List.length_cons, List.length_nil]; omega)) aS aG aF (⟨i + 1, _, by omega, rfl, by rw [fG]; exact hu, ?_, ?_, ?_, rfl, rfl, rfl⟩)
   ·rw [iA]; exact hdu.set _ hc
   ·rw [iA, hst, bP, tH]
    rw [Int.add_mul, Int.mul_assoc]
   ·intro t ht
    rw [iA, lG _ (by omega)]
    exact hzu t (by omega)
 ·have hiN : i = a.length := by omega
  subst hiN
  rw [List.take_length, va, vb] at hv
  have hM := fun M0 I0 => hMd (some ⟨bo, 0, none⟩) o (by omega) (a.length + b.length) (by omega) (Ok.mk _ _) hd (by rw [hv, Int.natCast_mul]) M0 I0
  rw [ho] at hM
  repeat (refine bE ?_)
  refine aO (b := bo) tL ?_
  (refine aA rfl (hM _ _ aB) rfl rfl ?_; rintro _ _ _ ⟨rfl, rfl⟩; refine ⟨okF, ?_⟩; refine aU (List.Mem.head _) (fun q6 c6 e__ hc6 hz6 => ?_); subst e__)
  unfold iv
  repeat (refine bE ?_)
  refine bC (cs := [.bool (B (y * z < 0)), .slice q6 (gr (y * z).natAbs).length c6]) (.inl rfl) rfl rfl aB rfl _ _ aG aF ⟨rfl, rfl⟩
end
end Go.Proofs.YtmmmfphealhapaaGreat
namespace Go.Proofs.YtmmmfphealhapaaGreat
open Go Go.Fx
section
variable {X : List Nat} {w0 : World} {M0 : List Ent} {I0 : List bA}
theorem aMO {x : Int} (hx : -9223372036854775808 ≤ x ∧ x ≤ 9223372036854775807) : CD Tryz.prog 166 [.int .i64 x] X w0 M0 I0 (fun v M I => M0 = M ∧ I = iC v x 63 :: I0) := by
 have hn : x.natAbs ≤ 2 ^ 63 := by omega
 have hMd := fun (q : Option Addr) (l : List Int) (h0 : l.length ≤ 1000000000000) (c2 : Nat) (h1 : l.length ≤ c2) (h2 : Ok q ∨ (l.length = 0 ∧ c2 = 0)) (h3 : Dig l) (h4 : val l = ((x.natAbs : Nat) : Int)) M0 I0 => qI (X := X) (w0 := w0) (M0 := M0) (I0 := I0) (p := x < 0) (n := x.natAbs) (q := q) (l := l) (c := c2) (k := 63) h0 h1 h2 h3 h4 hn
 rw [nS] at hMd
 have dA := bW x.natAbs
 have vA := dC x.natAbs
 have hlA : (gr x.natAbs).length ≤ 3 := oD (by omega)
 have hgr : ∀ m : Nat, m ≠ 0 → gr m = ((m % 1000000000 : Nat) : Int) :: gr (m / 1000000000) := fun m h => rR h
 refine bV Tryz.func166 rfl Tryz.ntmps166 rfl ?_
 refine aH ?_
 refine aI ?_
 (refine aC rfl rfl ?_; intro b; refine ⟨okF, ?_⟩)
 by_cases hx0 : x < 0
 ·repeat (refine bE ?_)
  refine aD rfl (fun _ => dD rfl (aDC (by omega))) rfl rfl ?_
  repeat (refine bE ?_)
  all_goals
   (refine dM (cs := recs eG []) ([]) rfl rfl (by intro v hv; repeat (first | exact absurd hv (List.not_mem_nil) | (rcases List.mem_cons.1 hv with rfl | hv; · rfl))) (by omega) rfl rfl rfl ?_; intro b1; refine ⟨okF, ?_⟩)
   repeat (refine bE ?_)
   refine pO (b := b1) (mm := 0) 1 lN rfl (by omega) ?_
   refine bG [0, 2] rfl (fun k G M I => ∃ (m : Nat) (ui : Int) (xs : List Int) (a : Option Addr) (c' : Nat), k = m ∧ ui = m ∧ m ≤ x.natAbs ∧ xs ++ gr m = gr x.natAbs ∧ G = [(3, .int .u64 ui), (4, .slice a xs.length c')] ∧ M = .row a xs.length c' (recs eG xs) 121 1 :: .blk b [.bool false, .slice none 0 0] 42 :: M0 ∧ I0 = I) (x.natAbs) _ _ _ aS aG aF (⟨x.natAbs, _, [], _, _, rfl, by omega, by omega, rfl, rfl, rfl, rfl⟩) ?_
   rintro k G M I ⟨m, ui, xs, a, c', rfl, hui, hm, hxs, rfl, rfl, rfl⟩
   have hlx : xs.length + (gr k).length ≤ 3 := by rw [← hxs] at hlA; simpa using hlA
   by_cases hk0 : k = 0
   ·subst hk0
    rw [fH, List.append_nil] at hxs
    subst hxs
    refine uS (fun w hw => And.intro (hw.rowLe (List.Mem.head _)) ((hw.rowS (List.Mem.head _)).2.imp id And.right)) (fun ho3 => ?_)
    have hM := hMd a (gr x.natAbs) (by omega) c' ho3.1 ho3.2 dA vA
    repeat (refine bE ?_)
    refine fO tL ?_
    (refine aA rfl (hM _ _ aB) rfl rfl ?_; rintro _ _ _ ⟨rfl, rfl⟩; refine ⟨okF, ?_⟩; refine aU (List.Mem.head _) (fun q6 c6 e__ hc6 hz6 => ?_); subst e__)
    unfold iv
    repeat (refine bE ?_)
    refine bC (cs := [.bool (B (x < 0)), .slice q6 (gr x.natAbs).length c6]) (.inl rfl) rfl rfl aB rfl _ _ aG aF ⟨rfl, rfl⟩
   ·have hgk := hgr k hk0
    have e1 := yA (s := ui) (by omega)
    have e2 := yG (s := ui) (by omega)
    obtain ⟨s, hs⟩ : ∃ s, s = ui % 1000000000 := ⟨_, rfl⟩
    obtain ⟨t, ht⟩ : ∃ t, t = ui / 1000000000 := ⟨_, rfl⟩
    have hs1 : ((k % 1000000000 : Nat) : Int) = s := by omega
    have ht1 : ((k / 1000000000 : Nat) : Int) = t := by omega
    rw [hs1] at hgk
    rw [← hs] at e1
    rw [← ht] at e2
    have hs2 : 0 ≤ s ∧ s < 1000000000 := by omega
    have hl9 : (gr k).length = (gr (k / 1000000000)).length + 1 := by rw [hgk]; simp
    repeat (refine bE ?_)
    rw [e1]
    repeat (refine bE ?_)
    (refine dM (cs := recs eG [s]) ([.int .u32 s]) rfl rfl (by intro v hv; repeat (first | exact absurd hv (List.not_mem_nil) | (rcases List.mem_cons.1 hv with rfl | hv; · rfl))) (by omega) rfl rfl rfl ?_; intro b2; refine ⟨okF, ?_⟩)
    (refine iK (ys := [s]) 1 rfl rfl rfl ?_ (by decide) rfl (by omega) (by omega) rfl rfl ?_; (· first | exact Src.blk aB | exact Src.row aB | exact Src.imm aB (by first | assumption | exact .inl (Ok.mk _ _))); intro a2 c2; refine ⟨okF, ?_⟩)
    repeat (refine bE ?_)
    rw [e2]
    refine aQ (k / 1000000000) _ _ _ (by first | omega | (simp only [List.length_append, List.length_cons, List.length_nil]; omega)) aS aG aF (⟨k / 1000000000, t, xs ++ [s], a2, c2, rfl, ht1.symm, by omega, by rw [List.append_assoc]; rw [hgk] at hxs; exact hxs, rfl, rfl, rfl⟩)
 ·repeat (refine bE ?_)
  all_goals
   (refine dM (cs := recs eG []) ([]) rfl rfl (by intro v hv; repeat (first | exact absurd hv (List.not_mem_nil) | (rcases List.mem_cons.1 hv with rfl | hv; · rfl))) (by omega) rfl rfl rfl ?_; intro b1; refine ⟨okF, ?_⟩)
   repeat (refine bE ?_)
   refine pO (b := b1) (mm := 0) 1 lN rfl (by omega) ?_
   refine bG [0, 2] rfl (fun k G M I => ∃ (m : Nat) (ui : Int) (xs : List Int) (a : Option Addr) (c' : Nat), k = m ∧ ui = m ∧ m ≤ x.natAbs ∧ xs ++ gr m = gr x.natAbs ∧ G = [(3, .int .u64 ui), (4, .slice a xs.length c')] ∧ M = .row a xs.length c' (recs eG xs) 121 1 :: .blk b [.bool false, .slice none 0 0] 42 :: M0 ∧ I0 = I) (x.natAbs) _ _ _ aS aG aF (⟨x.natAbs, _, [], _, _, rfl, by omega, by omega, rfl, rfl, rfl, rfl⟩) ?_
   rintro k G M I ⟨m, ui, xs, a, c', rfl, hui, hm, hxs, rfl, rfl, rfl⟩
   have hlx : xs.length + (gr k).length ≤ 3 := by rw [← hxs] at hlA; simpa using hlA
   by_cases hk0 : k = 0
   ·subst hk0
    rw [fH, List.append_nil] at hxs
    subst hxs
    refine uS (fun w hw => And.intro (hw.rowLe (List.Mem.head _)) ((hw.rowS (List.Mem.head _)).2.imp id And.right)) (fun ho3 => ?_)
    have hM := hMd a (gr x.natAbs) (by omega) c' ho3.1 ho3.2 dA vA
    repeat (refine bE ?_)
    refine fO tL ?_
    (refine aA rfl (hM _ _ aB) rfl rfl ?_; rintro _ _ _ ⟨rfl, rfl⟩; refine ⟨okF, ?_⟩; refine aU (List.Mem.head _) (fun q6 c6 e__ hc6 hz6 => ?_); subst e__)
    unfold iv
    repeat (refine bE ?_)
    refine bC (cs := [.bool (B (x < 0)), .slice q6 (gr x.natAbs).length c6]) (.inl rfl) rfl rfl aB rfl _ _ aG aF ⟨rfl, rfl⟩
   ·have hgk := hgr k hk0
    have e1 := yA (s := ui) (by omega)
    have e2 := yG (s := ui) (by omega)
    obtain ⟨s, hs⟩ : ∃ s, s = ui % 1000000000 := ⟨_, rfl⟩
    obtain ⟨t, ht⟩ : ∃ t, t = ui / 1000000000 := ⟨_, rfl⟩
    have hs1 : ((k % 1000000000 : Nat) : Int) = s := by omega
    have ht1 : ((k / 1000000000 : Nat) : Int) = t := by omega
    rw [hs1] at hgk
    rw [← hs] at e1
    rw [← ht] at e2
    have hs2 : 0 ≤ s ∧ s < 1000000000 := by omega
    have hl9 : (gr k).length = (gr (k / 1000000000)).length + 1 := by rw [hgk]; simp
    repeat (refine bE ?_)
    rw [e1]
    repeat (refine bE ?_)
    (refine dM (cs := recs eG [s]) ([.int .u32 s]) rfl rfl (by intro v hv; repeat (first | exact absurd hv (List.not_mem_nil) | (rcases List.mem_cons.1 hv with rfl | hv; · rfl))) (by omega) rfl rfl rfl ?_; intro b2; refine ⟨okF, ?_⟩)
    (refine iK (ys := [s]) 1 rfl rfl rfl ?_ (by decide) rfl (by omega) (by omega) rfl rfl ?_; (· first | exact Src.blk aB | exact Src.row aB | exact Src.imm aB (by first | assumption | exact .inl (Ok.mk _ _))); intro a2 c2; refine ⟨okF, ?_⟩)
    repeat (refine bE ?_)
    rw [e2]
    refine aQ (k / 1000000000) _ _ _ (by first | omega | (simp only [List.length_append, List.length_cons, List.length_nil]; omega)) aS aG aF (⟨k / 1000000000, t, xs ++ [s], a2, c2, rfl, ht1.symm, by omega, by rw [List.append_assoc]; rw [hgk] at hxs; exact hxs, rfl, rfl, rfl⟩)
end
end Go.Proofs.YtmmmfphealhapaaGreat
namespace Go.Proofs.YtmmmfphealhapaaGreat
open Go Go.Fx
theorem aMN {t : Nat} (ht : (gr t).length ≤ 2) : t < 1000000000000000000 := by
 have := jW (bW t)
 rw [dC] at this
 have h2 : (1000000000 : Int) ^ (gr t).length ≤ 1000000000 ^ 2 := mE ht
 omega
theorem aMG {n : Nat} (h : (gr n).length ≤ 2) : gt (gr n) 1 * 1000000000 + gt (gr n) 0 = (n : Int) := by
 have hv := dC n
 match hg : gr n, h with
 | [], _ => rw [hg] at hv; simp [val] at hv; rw [← hv]; rfl
 | [a], _ => rw [hg] at hv; simp [val] at hv; rw [← hv]; simp [gt]
 | [a, b], _ => rw [hg] at hv; simp [val] at hv; rw [← hv]; simp [gt]; omega
section
variable {X : List Nat} {w0 : World} {M0 : List Ent} {I0 : List bA}
theorem aGW {q : Option Addr} {n c : Nat} (hl : (gr n).length ≤ 2) (hq : aX q (recs eG (gr n)) ∈ I0) :
  CD Tryz.prog 246 [.slice q (gr n).length c] X w0 M0 I0 (fun v M I => M0 = M ∧ I0 = I ∧ v = .int .u64 (n : Int)) := by
 have d0 := (bW n).gt 0
 have d1 := (bW n).gt 1
 rw [← aMG hl]
 refine bV Tryz.func246 rfl Tryz.ntmps246 rfl ?_
 repeat' (first | refine bE ?_ | refine aV rfl (fun h => ?_) (fun h => ?_) | refine aW rfl rfl (fun h => ?_) (fun h => ?_) | fail)
 (refine aA rfl (nI (l := gr n) (i := 1) rfl (by omega) aB (bW n)) rfl rfl ?_; rintro _ _ _ ⟨rfl, rfl, rfl⟩; refine ⟨okF, ?_⟩)
 repeat' (first | refine bE ?_ | refine aV rfl (fun h => ?_) (fun h => ?_) | refine aW rfl rfl (fun h => ?_) (fun h => ?_) | fail)
 (refine aA rfl (nI (l := gr n) (i := 0) rfl (by omega) aB (bW n)) rfl rfl ?_; rintro _ _ _ ⟨rfl, rfl, rfl⟩; refine ⟨okF, ?_⟩)
 repeat' (first | refine bE ?_ | refine aV rfl (fun h => ?_) (fun h => ?_) | refine aW rfl rfl (fun h => ?_) (fun h => ?_) | fail)
 refine aN (by first | exact .inl rfl | exact .inr rfl) rfl rfl _ _ aG aF (⟨rfl, rfl, rfl⟩)
theorem aHY {u v : Value} {y z : Int} {k0 m : Nat} (hk : k0 ≤ 500000000000) (hm : m ≤ 500000000000) (hu : iC u y k0 ∈ I0) (hv : iC v z m ∈ I0) : CD Tryz.prog 184 [u, v] X w0 M0 I0 (fun v M I => M0 = M ∧ I = iC v (Int.gcd y z) (k0 + m) :: I0) := by
 refine cB hu (fun q cq e hc hy => ?_)
 subst e
 refine cB (List.Mem.tail _ hv) (fun q' cq' e hc' hz => ?_)
 subst e
 have hy2 : y.natAbs ≤ 2 ^ (k0 + m) := Nat.le_trans hy (Nat.pow_le_pow_right (by decide) (by omega))
 have hz2 : z.natAbs ≤ 2 ^ (k0 + m) := Nat.le_trans hz (Nat.pow_le_pow_right (by decide) (by omega))
 have hMd := fun (a : Nat) (e : (Int.gcd y z : Int) = a) (ha : a ≤ 2 ^ (k0 + m)) (q : Option Addr) (l : List Int) (h0 : l.length ≤ 1000000000000) (c2 : Nat) (h1 : l.length ≤ c2) (h2 : Ok q ∨ (l.length = 0 ∧ c2 = 0)) (h3 : Dig l) (h4 : val l = (a : Int)) M0 I0 => qI (X := X) (w0 := w0) (M0 := M0) (I0 := I0) (p := False) (n := a) (q := q) (l := l) (c := c2) (k := k0 + m) h0 h1 h2 h3 h4 ha
 simp only [dF (show ¬ False from id)] at hMd
 have hsg : ∀ a : Nat, sg False a = (a : Int) := fun a => by unfold sg; rw [if_neg (fun h => h)]
 unfold iv
 refine bI Tryz.func184 rfl Tryz.ntmps184 rfl ?_
 refine aH ?_
 refine aI ?_
 (refine aK rfl rfl rfl ?_; intro b; refine ⟨okF, ?_⟩)
 (refine aK rfl rfl rfl ?_; intro b2; refine ⟨okF, ?_⟩)
 (refine aC rfl rfl ?_; intro b3; refine ⟨okF, ?_⟩)
 repeat' (first | refine bE ?_ | refine aV rfl (fun h => ?_) (fun h => ?_) | refine aW rfl rfl (fun h => ?_) (fun h => ?_) | fail)
 (repeat refine aH ?_); refine dG 3 [0, 3, 1, 2, 4, 5, 6, 7] [1, 1, 0, 1, 0, 0, 0, 0] mixed (by kernel_rfl) ?_
 repeat' (first | refine bE ?_ | refine aV rfl (fun h => ?_) (fun h => ?_) | refine aW rfl rfl (fun h => ?_) (fun h => ?_) | fail)
 (refine aA rfl (kH hy (by omega) hc aB) rfl rfl ?_; rintro _ _ _ ⟨rfl, q3, c3, rfl, hc3, rfl⟩; refine ⟨okF, ?_⟩)
 repeat' (first | refine bE ?_ | refine aV rfl (fun h => ?_) (fun h => ?_) | refine aW rfl rfl (fun h => ?_) (fun h => ?_) | fail)
 (refine aA rfl (kH hz (by omega) hc' aB) rfl rfl ?_; rintro _ _ _ ⟨rfl, q4, c4, rfl, hc4, rfl⟩; refine ⟨okF, ?_⟩)
 repeat' (first | refine bE ?_ | refine aV rfl (fun h => ?_) (fun h => ?_) | refine aW rfl rfl (fun h => ?_) (fun h => ?_) | fail)
 refine bG [4] rfl (fun k G M I => ∃ (a b : Nat) (pa pb : Option Addr) (ca cb : Nat), k = b ∧ a ≤ 2 ^ (k0 + m) ∧ b ≤ 2 ^ (k0 + m) ∧ oO pa a ca ∧ oO pb b cb ∧ Nat.gcd a b = Nat.gcd y.natAbs z.natAbs ∧ G = [(5, .slice pa (gr a).length ca), (6, .slice pb (gr b).length cb)] ∧ M = .blk b3 [.bool false, .slice none 0 0] 42 :: M0 ∧ I = aX pa (recs eG (gr a)) :: aX pb (recs eG (gr b)) :: I0) (z.natAbs) _ _ _ aS aG aF (⟨y.natAbs, z.natAbs, q3, q4, c3, c4, rfl, hy2, hz2, hc3, hc4, rfl, rfl, rfl, rfl⟩) ?_
 rintro k G M I ⟨a, b', pa, pb, ca, cb, rfl, ha, hb, oa, ob, hg, rfl, rfl, rfl⟩
 have la := fE ha
 have lb := fE hb
 by_cases hk0 : k = 0
 ·subst hk0
  have hl0 : (gr 0).length = 0 := by rw [fH]; rfl
  rw [Nat.gcd_zero_right] at hg
  have hz : (Int.gcd y z : Int) = (a : Int) := by rw [Int.gcd_eq_natAbs_gcd_natAbs, hg]
  have hM := fun M0 I0 => hMd a hz ha pa (gr a) (by omega) ca oa.1 oa.2 (bW a) (dC a) M0 I0
  rw [hsg, ← hz] at hM
  repeat' (first | refine bE ?_ | refine aV rfl (fun h => ?_) (fun h => ?_) | refine aW rfl rfl (fun h => ?_) (fun h => ?_) | fail)
  (refine aA rfl (hM _ _ aB) rfl rfl ?_; rintro _ _ _ ⟨rfl, rfl⟩; refine ⟨okF, ?_⟩; refine aU (List.Mem.head _) (fun q2 c2 e__ hc2 hz2 => ?_); subst e__)
  unfold iv
  repeat' (first | refine bE ?_ | refine aV rfl (fun h => ?_) (fun h => ?_) | refine aW rfl rfl (fun h => ?_) (fun h => ?_) | fail)
  refine bC (cs := [.bool (B ((Int.gcd y z : Int) < 0)), .slice q2 (gr (Int.gcd y z : Int).natAbs).length c2]) (.inl rfl) rfl rfl aB rfl _ _ aG aF ⟨rfl, rfl⟩
 ·have hlk : 0 < (gr k).length := List.length_pos_iff.2 (fun e => hk0 (mI.1 e))
  by_cases hw : (gr a).length ≤ 2 ∧ (gr k).length ≤ 2
  ·have a9 := aMN hw.1
   have k9 := aMN hw.2
   have hP1 := fun M0 I0 => aGW (X := X) (w0 := w0) (M0 := M0) (I0 := I0) (q := pa) (n := a) (c := ca) hw.1
   have hP2 := fun M0 I0 => aGW (X := X) (w0 := w0) (M0 := M0) (I0 := I0) (q := pb) (n := k) (c := cb) hw.2
   repeat' (first | refine bE ?_ | refine aV rfl (fun h => ?_) (fun h => ?_) | refine aW rfl rfl (fun h => ?_) (fun h => ?_) | fail)
   (refine aA rfl (hP1 _ _ aB) rfl rfl ?_; rintro _ _ _ ⟨rfl, rfl, rfl⟩; refine ⟨okF, ?_⟩)
   repeat' (first | refine bE ?_ | refine aV rfl (fun h => ?_) (fun h => ?_) | refine aW rfl rfl (fun h => ?_) (fun h => ?_) | fail)
   (refine aA rfl (hP2 _ _ aB) rfl rfl ?_; rintro _ _ _ ⟨rfl, rfl, rfl⟩; refine ⟨okF, ?_⟩)
   clear hlk la lb oa ob
   repeat' (first | refine bE ?_ | refine aV rfl (fun h => ?_) (fun h => ?_) | refine aW rfl rfl (fun h => ?_) (fun h => ?_) | fail)
   refine bG [4] rfl (fun k G M I => ∃ (x x2 : Nat) (xi xi2 : Int), k = x2 ∧ xi = x ∧ xi2 = x2 ∧ x < 1000000000000000000 ∧ x2 < 1000000000000000000 ∧ x ≤ 2 ^ (k0 + m) ∧ x2 ≤ 2 ^ (k0 + m) ∧ Nat.gcd x x2 = Nat.gcd y.natAbs z.natAbs ∧ G = [(9, .int .u64 xi), (10, .int .u64 xi2)] ∧ M = .blk b3 [.bool false, .slice none 0 0] 42 :: M0 ∧ I0 = I) (k) _ _ _ aS aG aF (⟨a, k, _, _, rfl, rfl, rfl, a9, k9, ha, hb, hg, rfl, rfl, rfl⟩) ?_
   rintro k G M I ⟨x, x2, xi, xi2, rfl, hxi, hxi2, hx9, hx29, hx, hx2, hxg, rfl, rfl, rfl⟩
   by_cases hx0 : k = 0
   ·subst hx0
    rw [Nat.gcd_zero_right] at hxg
    have hz : (Int.gcd y z : Int) = (x : Int) := by rw [Int.gcd_eq_natAbs_gcd_natAbs, hxg]
    have e1 := yA (s := xi) (by omega)
    have e2 := yG (s := xi) (by omega)
    obtain ⟨s, hs⟩ : ∃ s, s = xi % 1000000000 := ⟨_, rfl⟩
    obtain ⟨t, ht⟩ : ∃ t, t = xi / 1000000000 := ⟨_, rfl⟩
    have hst : (0 ≤ s ∧ s < 1000000000) ∧ (0 ≤ t ∧ t < 1000000000) ∧ s + 1000000000 * t = x := by omega
    rw [← hs] at e1
    rw [← ht] at e2
    have hd2 : Dig [s, t] := by rw [Dig.cons, Dig.cons]; exact ⟨hst.1, hst.2.1, Dig.nil⟩
    have hv2 : val [s, t] = (x : Int) := by simp [val]; omega
    have hM := fun b4 M0 I0 => hMd x hz hx (some ⟨b4, 0, none⟩) [s, t] (by simp) 2 (by simp) (.inl (Ok.mk _ _)) hd2 hv2 M0 I0
    rw [hsg, ← hz] at hM
    repeat' (first | refine bE ?_ | refine aV rfl (fun h => ?_) (fun h => ?_) | refine aW rfl rfl (fun h => ?_) (fun h => ?_) | fail)
    rw [e1]
    repeat' (first | refine bE ?_ | refine aV rfl (fun h => ?_) (fun h => ?_) | refine aW rfl rfl (fun h => ?_) (fun h => ?_) | fail)
    rw [e2]
    repeat' (first | refine bE ?_ | refine aV rfl (fun h => ?_) (fun h => ?_) | refine aW rfl rfl (fun h => ?_) (fun h => ?_) | fail)
    (refine dM (cs := recs eG [s, t]) ([.int .u32 s, .int .u32 t]) rfl rfl (by intro v hv; repeat (first | exact absurd hv (List.not_mem_nil) | (rcases List.mem_cons.1 hv with rfl | hv; · rfl))) (by omega) rfl rfl rfl ?_; intro b4; refine ⟨okF, ?_⟩)
    refine aO tL ?_
    (refine aA rfl (hM b4 _ _ aB) rfl rfl ?_; rintro _ _ _ ⟨rfl, rfl⟩; refine ⟨okF, ?_⟩; refine aU (List.Mem.head _) (fun q2 c2 e__ hc2 hz2 => ?_); subst e__)
    unfold iv
    repeat' (first | refine bE ?_ | refine aV rfl (fun h => ?_) (fun h => ?_) | refine aW rfl rfl (fun h => ?_) (fun h => ?_) | fail)
    refine bC (cs := [.bool (B ((Int.gcd y z : Int) < 0)), .slice q2 (gr (Int.gcd y z : Int).natAbs).length c2]) (.inl rfl) rfl rfl aB rfl _ _ aG aF ⟨rfl, rfl⟩
   ·have e2 : xi.tmod xi2 = ((x % k : Nat) : Int) := by rw [hxi, hxi2, Int.tmod_eq_emod_of_nonneg (by omega), Int.natCast_emod]
    have hmod := Nat.mod_lt x (show k > 0 by omega)
    have hg2 : Nat.gcd k (x % k) = Nat.gcd y.natAbs z.natAbs := by rw [← hxg, Nat.gcd_comm x k, Nat.gcd_rec k x, Nat.gcd_comm]
    obtain ⟨r, hr⟩ : ∃ r, r = x % k := ⟨_, rfl⟩
    rw [← hr] at e2 hmod hg2
    clear hr
    repeat' (first | refine bE ?_ | refine aV rfl (fun h => ?_) (fun h => ?_) | refine aW rfl rfl (fun h => ?_) (fun h => ?_) | fail)
    (repeat refine aH ?_); refine gZ [0, 1, 2, 3, 4, 5] [0, 0, 0, 0, 0, 0] mixed (by kernel_rfl) ?_
    repeat' (first | refine bE ?_ | refine aV rfl (fun h => ?_) (fun h => ?_) | refine aW rfl rfl (fun h => ?_) (fun h => ?_) | fail)
    rw [e2]
    refine aQ (r) _ _ _ (by first | omega | (simp only [List.length_append, List.length_cons, List.length_nil]; omega)) aS aG aF (⟨k, r, xi2, _, rfl, hxi2, rfl, by omega, by omega, hx2, by omega, hg2, rfl, rfl, rfl⟩)
  ·have hO := fun M0 I0 => aEB (X := X) (w0 := w0) (M0 := M0) (I0 := I0) (p := pa) (q := pb) (m := a) (n := k) (cp := ca) (cq := cb) (by omega) (by omega) (by omega) oa
   have hmod := Nat.mod_lt a (show k > 0 by omega)
   have hg2 : Nat.gcd k (a % k) = Nat.gcd y.natAbs z.natAbs := by rw [← hg, Nat.gcd_comm a k, Nat.gcd_rec k a, Nat.gcd_comm]
   obtain ⟨r, hr⟩ : ∃ r, r = a % k := ⟨_, rfl⟩
   obtain ⟨qq, hqq⟩ : ∃ r, r = a / k := ⟨_, rfl⟩
   rw [← hr, ← hqq] at hO
   rw [← hr] at hmod hg2
   clear hr hqq
   repeat' (first | refine bE ?_ | refine aV rfl (fun h => ?_) (fun h => ?_) | refine aW rfl rfl (fun h => ?_) (fun h => ?_) | fail)
   all_goals
    (refine aA rfl (hO _ _ aB aB) rfl rfl ?_; rintro _ _ _ ⟨rfl, p1, c1, p2, c2, ho1, ho2, rfl, rfl⟩; refine ⟨okF, ?_⟩)
    repeat' (first | refine bE ?_ | refine aV rfl (fun h => ?_) (fun h => ?_) | refine aW rfl rfl (fun h => ?_) (fun h => ?_) | fail)
    refine aQ (r) _ _ _ (by first | omega | (simp only [List.length_append, List.length_cons, List.length_nil]; omega)) aS aG aF (⟨k, r, pb, p2, cb, c2, rfl, hb, by omega, ob, ho2, hg2, rfl, rfl, rfl⟩)
end
end Go.Proofs.YtmmmfphealhapaaGreat
