/- fiducialref01: Divide fiducialref02: reduced, Valid, Value, Whole, Sign, Neg fiducialref02: Add, Sub, Mul, Divide, Compare, Same Matrices in memory; made -/
import Derived.Test.YtmmmfphealhapaaGreatZrat
import Derived.Test.YtmmmfphealhapaaGreatZran
import Derived.Test.YtmmmfphealhapaaGreatZrao
import Derived.Test.YtmmmfphealhapaaGreatZraq
set_option linter.unusedSimpArgs false
set_option linter.unusedVariables false
set_option maxRecDepth 100000
set_option maxHeartbeats 4000000
namespace Go.Proofs.YtmmmfphealhapaaGreat
open Go Go.Fx
theorem aIJ {y z : Int} (hz : z ≠ 0) : ((y < 0 ↔ z < 0) ∨ y.natAbs % z.natAbs = 0 → sg (¬ (y < 0 ↔ z < 0)) (y.natAbs / z.natAbs) = y.fdiv z) ∧ (¬ (y < 0 ↔ z < 0) → y.natAbs % z.natAbs ≠ 0 → sg (¬ (y < 0 ↔ z < 0)) (y.natAbs / z.natAbs) - 1 = y.fdiv z) := by
 have h := vZ (y := y) hz
 refine ⟨fun h1 => by rw [(h.2 h1).1]; rfl, fun h1 h2 => ?_⟩
 rw [(h.1 h1 h2).1]
 unfold sg
 rw [if_pos h1]; omega
theorem aCD (p : Prop) [Decidable p] (n : Nat) : (if p then -(n : Int) else (n : Int)).natAbs = n := by split <;> omega
theorem aPA {y z : Int} (hz : z ≠ 0) : (y.fdiv z).natAbs ≤ y.natAbs := by
 have h := vZ (y := y) hz
 have hz1 : 0 < z.natAbs := by omega
 have hab := Nat.div_add_mod y.natAbs z.natAbs
 have hbQ : y.natAbs / z.natAbs ≤ z.natAbs * (y.natAbs / z.natAbs) := Nat.le_mul_of_pos_left _ hz1
 by_cases h1 : (y < 0 ↔ z < 0) ∨ y.natAbs % z.natAbs = 0
 ·rw [(h.2 h1).1, aCD]; exact Nat.div_le_self _ _
 ·have h2 : y.natAbs % z.natAbs ≠ 0 := fun h' => h1 (.inr h')
  rw [(h.1 (fun h' => h1 (.inl h')) h2).1]
  generalize y.natAbs / z.natAbs = Q at *
  generalize y.natAbs % z.natAbs = R at *
  generalize z.natAbs * Q = p at *
  clear h h1
  omega
theorem aOV {y z : Int} (hz : z ≠ 0) : (y.fmod z).natAbs ≤ z.natAbs := by
 have h := vZ (y := y) hz
 have hz1 : 0 < z.natAbs := by omega
 have hlt := Nat.mod_lt y.natAbs hz1
 by_cases h1 : (y < 0 ↔ z < 0) ∨ y.natAbs % z.natAbs = 0
 ·rw [(h.2 h1).2, aCD]; omega
 ·rw [(h.1 (fun h' => h1 (.inl h')) (fun h' => h1 (.inr h'))).2, aCD]; omega
theorem aNY (y z : Int) : y - (y.fdiv z) * z = y.fmod z := by rw [Int.fmod_def, Int.mul_comm]
section
variable {X : List Nat} {w0 : World} {M0 : List Ent} {I0 : List bA}
theorem yJ {u v : Value} {y z : Int} {k m : Nat} (hk : k ≤ 300000000000) (hm : m ≤ 300000000000) (hz0 : z ≠ 0) (hu : iC u y k ∈ I0) (hv : iC v z m ∈ I0) :
  CD Tryz.prog 259 [u, v] X w0 M0 I0 (DvP (y.fdiv z) (y.fmod z) k m M0 I0) := by
 refine cB hu (fun q cq e hc hy => ?_)
 subst e
 refine cB (List.Mem.tail _ hv) (fun q' cq' e hc' hz => ?_)
 subst e
 have hly := fE hy
 have hlz := fE hz
 have hlz1 : ¬ (gr z.natAbs).length = 0 := fun e => by have := mI.1 (List.eq_nil_of_length_eq_zero e); omega
 have hr0 : (gr (y.natAbs % z.natAbs)).length = 0 ↔ y.natAbs % z.natAbs = 0 := by rw [List.length_eq_zero_iff, mI]
 have hqb : y.natAbs / z.natAbs ≤ 2 ^ k := tZ hy
 have hlq := fE hqb
 have hdv := aIJ (y := y) hz0
 have hfl : (y.fdiv z).natAbs ≤ 2 ^ k := Nat.le_trans (aPA hz0) hy
 have hml : (y.fmod z).natAbs ≤ 2 ^ m := Nat.le_trans (aOV hz0) hz
 have hO := fun (p1 p2 : Option Addr) (c1 c2 : Nat) (h1 : oO p1 y.natAbs c1) M0 I0 => aEB (X := X) (w0 := w0) (M0 := M0) (I0 := I0) (p := p1) (q := p2) (m := y.natAbs) (n := z.natAbs) (cp := c1) (cq := c2) (by omega) (by omega) (by omega) h1
 have hV1 := fun M0 I0 => kH (X := X) (w0 := w0) (M0 := M0) (I0 := I0) (q := q) (c := cq) hy (by omega) hc
 have hV2 := fun M0 I0 => kH (X := X) (w0 := w0) (M0 := M0) (I0 := I0) (q := q') (c := cq') hz (by omega) hc'
 have hMd := fun (q : Option Addr) (c2 : Nat) (h1 : oO q (y.natAbs / z.natAbs) c2) M0 I0 => qI (X := X) (w0 := w0) (M0 := M0) (I0 := I0) (p := ¬ (y < 0 ↔ z < 0)) (n := y.natAbs / z.natAbs) (q := q) (l := gr (y.natAbs / z.natAbs)) (c := c2) (k := k) (by omega) h1.1 h1.2 (bW _) (dC _) hqb
 have hMu := fun u v M0 I0 => xL (X := X) (w0 := w0) (M0 := M0) (I0 := I0) (u := u) (v := v) (y := y.fdiv z) (z := z) (k0 := k) (m0 := m) (by omega)
 have hSb := fun u v M0 I0 => aCJ (X := X) (w0 := w0) (M0 := M0) (I0 := I0) (u := u) (v := v) (y := y) (z := y.fdiv z * z) (k := k) (m := k + m) (c := k + (k + m) + 1) (by omega) (by omega) (by omega) (aBO _ _)
 have hSo := fun u v M0 I0 => aCJ (X := X) (w0 := w0) (M0 := M0) (I0 := I0) (u := u) (v := v) (y := sg (¬ (y < 0 ↔ z < 0)) (y.natAbs / z.natAbs)) (z := 1) (k := k) (m := 0) (c := k + 0 + 1) (by omega) (by omega) (by omega) (aBO _ _)
 rw [aNY] at hSb
 obtain ⟨s0, hs0⟩ : ∃ s, s = sg (¬ (y < 0 ↔ z < 0)) (y.natAbs / z.natAbs) := ⟨_, rfl⟩
 rw [← hs0] at hMd hSo hdv
 clear hs0
 unfold iv
 by_cases hA : ¬ (y < 0 ↔ z < 0) ∧ ¬ (gr (y.natAbs % z.natAbs)).length = 0
 ·obtain ⟨hA1, hA2⟩ := hA
  have e1 := hdv.2 hA1 (fun h => hA2 (hr0.2 h))
  rw [e1] at hSo
  clear hdv hr0 hqb
  obtain ⟨fd, hfd⟩ : ∃ s, s = y.fdiv z := ⟨_, rfl⟩
  obtain ⟨fm, hfm⟩ : ∃ s, s = y.fmod z := ⟨_, rfl⟩
  obtain ⟨Q, hQ⟩ : ∃ s, s = y.natAbs / z.natAbs := ⟨_, rfl⟩
  obtain ⟨R, hR⟩ : ∃ s, s = y.natAbs % z.natAbs := ⟨_, rfl⟩
  rw [← hfd] at hMu hSb hSo hfl ⊢
  rw [← hfm] at hSb hml ⊢
  rw [← hQ] at hO hMd hlq
  rw [← hR] at hO hA2
  clear hfd hfm hQ hR e1
  refine bI Tryz.func259 rfl Tryz.ntmps259 rfl ?_
  refine aH ?_
  refine aI ?_
  (refine aK rfl rfl rfl ?_; intro b; refine ⟨okF, ?_⟩)
  (refine aK rfl rfl rfl ?_; intro b2; refine ⟨okF, ?_⟩)
  (refine aC rfl rfl ?_; intro b3; refine ⟨okF, ?_⟩)
  (refine aC rfl rfl ?_; intro b4; refine ⟨okF, ?_⟩)
  repeat' (first | refine bE ?_ | refine aV rfl (fun h => ?_) (fun h => ?_) | refine aW rfl rfl (fun h => ?_) (fun h => ?_) | fail)
  (repeat refine aH ?_); refine dG 2 [0, 2, 1, 3, 4, 5] [1, 2, 0, 0, 0, 0] mixed (by kernel_rfl) ?_
  repeat' (first | refine bE ?_ | refine aV rfl (fun h => ?_) (fun h => ?_) | refine aW rfl rfl (fun h => ?_) (fun h => ?_) | fail)
  (refine aA rfl (hV1 _ _ aB) rfl rfl ?_; rintro _ _ _ ⟨rfl, q3, c3, rfl, hc3, rfl⟩; refine ⟨okF, ?_⟩)
  repeat' (first | refine bE ?_ | refine aV rfl (fun h => ?_) (fun h => ?_) | refine aW rfl rfl (fun h => ?_) (fun h => ?_) | fail)
  (refine aA rfl (hV2 _ _ aB) rfl rfl ?_; rintro _ _ _ ⟨rfl, q4, c4, rfl, hc4, rfl⟩; refine ⟨okF, ?_⟩)
  repeat' (first | refine bE ?_ | refine aV rfl (fun h => ?_) (fun h => ?_) | refine aW rfl rfl (fun h => ?_) (fun h => ?_) | fail)
  (refine aA rfl (hO q3 q4 c3 c4 hc3 _ _ aB aB) rfl rfl ?_; rintro _ _ _ ⟨rfl, p1, c1, p2, c2, ho1, ho2, rfl, rfl⟩; refine ⟨okF, ?_⟩)
  repeat' (first | refine bE ?_ | refine aV rfl (fun h => ?_) (fun h => ?_) | refine aW rfl rfl (fun h => ?_) (fun h => ?_) | fail)
  (refine aA rfl (hMd p1 c1 ho1 _ _ aB) rfl rfl ?_; rintro _ _ _ ⟨rfl, rfl⟩; refine ⟨okF, ?_⟩; refine aU (List.Mem.head _) (fun q5 c5 e__ hc5 hz5 => ?_); subst e__)
  unfold iv
  repeat' (first | refine bE ?_ | refine aV rfl (fun h => ?_) (fun h => ?_) | refine aW rfl rfl (fun h => ?_) (fun h => ?_) | fail)
  (refine aC rfl rfl ?_; intro b5; refine ⟨okF, ?_⟩)
  repeat' (first | refine bE ?_ | refine aV rfl (fun h => ?_) (fun h => ?_) | refine aW rfl rfl (fun h => ?_) (fun h => ?_) | fail)
  (repeat refine aH ?_); refine dG 2 [0, 1, 2, 3] [1, 0, 0, 0] mixed (by kernel_rfl) ?_
  repeat' (first | refine bE ?_ | refine aV rfl (fun h => ?_) (fun h => ?_) | refine aW rfl rfl (fun h => ?_) (fun h => ?_) | fail)
  (refine aA rfl (aMO (x := 1) (by decide)) rfl rfl ?_; rintro _ _ _ ⟨rfl, rfl⟩; refine ⟨okF, ?_⟩; refine aU (List.Mem.head _) (fun q6 c6 e__ hc6 hz6 => ?_); subst e__)
  unfold iv
  refine lX (k2 := 0) (z := 1) (List.Mem.tail _ (List.Mem.head _)) (by decide) ?_
  (refine aA rfl (hSo _ _ _ _ aB aB) rfl rfl ?_; rintro _ _ _ ⟨rfl, rfl⟩; refine ⟨okF, ?_⟩; refine aU (List.Mem.head _) (fun q7 c7 e__ hc7 hz7 => ?_); subst e__)
  unfold iv
  refine lX (k2 := k) (z := fd) (List.Mem.tail _ (List.Mem.head _)) hfl ?_
  repeat' (first | refine bE ?_ | refine aV rfl (fun h => ?_) (fun h => ?_) | refine aW rfl rfl (fun h => ?_) (fun h => ?_) | fail)
  (repeat refine aH ?_); refine bB (.blk b5 [.bool (B (fd < 0)), .slice q7 (gr fd.natAbs).length c7] 42 :: .blk b2 [.bool (B (z < 0)), .slice q4 (gr z.natAbs).length c4] 42 :: .blk b [.bool (B (y < 0)), .slice q3 (gr y.natAbs).length c3] 42 :: M0) (iC (.agg #[.bool (B (fd < 0)), .slice q7 (gr fd.natAbs).length c7]) fd k :: I0) [0, 1, 2, 3, 4, 5, 6, 7, 8] [2, 2, 2, 2, 0, 0, 0, 0, 0] aG aF mixed (by kernel_rfl) ?_
  repeat' (first | refine bE ?_ | refine aV rfl (fun h => ?_) (fun h => ?_) | refine aW rfl rfl (fun h => ?_) (fun h => ?_) | fail)
  refine sM (q := q3) (c := c3) (z := y) (k := k) aB hc3 hy ?_
  refine sM (q := q4) (c := c4) (z := z) (k := m) aB hc4 hz ?_
  unfold iv
  (refine aA rfl (hMu _ _ _ _ aB aB) rfl rfl ?_; rintro _ _ _ ⟨rfl, rfl⟩; refine ⟨okF, ?_⟩; refine aU (List.Mem.head _) (fun q8 c8 e__ hc8 hz8 => ?_); subst e__)
  unfold iv
  (refine aA rfl (hSb _ _ _ _ aB aB) rfl rfl ?_; rintro _ _ _ ⟨rfl, rfl⟩; refine ⟨okF, ?_⟩; refine aU (List.Mem.head _) (fun q9 c9 e__ hc9 hz9 => ?_); subst e__)
  unfold iv
  refine lX (k2 := m) (z := fm) (List.Mem.tail _ (List.Mem.head _)) hml ?_
  repeat' (first | refine bE ?_ | refine aV rfl (fun h => ?_) (fun h => ?_) | refine aW rfl rfl (fun h => ?_) (fun h => ?_) | fail)
  refine dP (rs := [.cell 4 42, .cell 5 42, .tmp 6]) (.inl rfl) rfl (.cellN inferInstance rfl aB rfl (.cellN inferInstance rfl aB rfl (.tmp rfl .nil))) rfl M0 (iC (.agg #[.bool (B (fm < 0)), .slice q9 (gr fm.natAbs).length c9]) fm m :: iC (.agg #[.bool (B (fd < 0)), .slice q7 (gr fd.natAbs).length c7]) fd k :: I0) aG aF ⟨rfl, _, _, rfl, rfl⟩
 ·have hA' : (y < 0 ↔ z < 0) ∨ y.natAbs % z.natAbs = 0 := by
   rcases Classical.em (y < 0 ↔ z < 0) with h | h
   ·exact .inl h
   ·exact .inr (hr0.1 (Classical.byContradiction fun h' => hA ⟨h, h'⟩))
  have e1 := hdv.1 hA'
  subst e1
  clear hdv hr0 hqb hSo
  obtain ⟨fd, hfd⟩ : ∃ s, s = y.fdiv z := ⟨_, rfl⟩
  obtain ⟨fm, hfm⟩ : ∃ s, s = y.fmod z := ⟨_, rfl⟩
  obtain ⟨Q, hQ⟩ : ∃ s, s = y.natAbs / z.natAbs := ⟨_, rfl⟩
  obtain ⟨R, hR⟩ : ∃ s, s = y.natAbs % z.natAbs := ⟨_, rfl⟩
  rw [← hfd] at hMu hSb hMd hfl ⊢
  rw [← hfm] at hSb hml ⊢
  rw [← hQ] at hO hMd hlq
  rw [← hR] at hO hA hA'
  clear hfd hfm hQ hR hA'
  refine bI Tryz.func259 rfl Tryz.ntmps259 rfl ?_
  refine aH ?_
  refine aI ?_
  (refine aK rfl rfl rfl ?_; intro b; refine ⟨okF, ?_⟩)
  (refine aK rfl rfl rfl ?_; intro b2; refine ⟨okF, ?_⟩)
  (refine aC rfl rfl ?_; intro b3; refine ⟨okF, ?_⟩)
  (refine aC rfl rfl ?_; intro b4; refine ⟨okF, ?_⟩)
  repeat' (first | refine bE ?_ | refine aV rfl (fun h => ?_) (fun h => ?_) | refine aW rfl rfl (fun h => ?_) (fun h => ?_) | fail)
  (repeat refine aH ?_); refine dG 2 [0, 2, 1, 3, 4, 5] [1, 2, 0, 0, 0, 0] mixed (by kernel_rfl) ?_
  repeat' (first | refine bE ?_ | refine aV rfl (fun h => ?_) (fun h => ?_) | refine aW rfl rfl (fun h => ?_) (fun h => ?_) | fail)
  (refine aA rfl (hV1 _ _ aB) rfl rfl ?_; rintro _ _ _ ⟨rfl, q3, c3, rfl, hc3, rfl⟩; refine ⟨okF, ?_⟩)
  repeat' (first | refine bE ?_ | refine aV rfl (fun h => ?_) (fun h => ?_) | refine aW rfl rfl (fun h => ?_) (fun h => ?_) | fail)
  (refine aA rfl (hV2 _ _ aB) rfl rfl ?_; rintro _ _ _ ⟨rfl, q4, c4, rfl, hc4, rfl⟩; refine ⟨okF, ?_⟩)
  repeat' (first | refine bE ?_ | refine aV rfl (fun h => ?_) (fun h => ?_) | refine aW rfl rfl (fun h => ?_) (fun h => ?_) | fail)
  (refine aA rfl (hO q3 q4 c3 c4 hc3 _ _ aB aB) rfl rfl ?_; rintro _ _ _ ⟨rfl, p1, c1, p2, c2, ho1, ho2, rfl, rfl⟩; refine ⟨okF, ?_⟩)
  repeat' (first | refine bE ?_ | refine aV rfl (fun h => ?_) (fun h => ?_) | refine aW rfl rfl (fun h => ?_) (fun h => ?_) | fail)
  (refine aA rfl (hMd p1 c1 ho1 _ _ aB) rfl rfl ?_; rintro _ _ _ ⟨rfl, rfl⟩; refine ⟨okF, ?_⟩; refine aU (List.Mem.head _) (fun q5 c5 e__ hc5 hz5 => ?_); subst e__)
  unfold iv
  repeat' (first | refine bE ?_ | refine aV rfl (fun h => ?_) (fun h => ?_) | refine aW rfl rfl (fun h => ?_) (fun h => ?_) | fail)
  (refine aC rfl rfl ?_; intro b5; refine ⟨okF, ?_⟩)
  repeat' (first | refine bE ?_ | refine aV rfl (fun h => ?_) (fun h => ?_) | refine aW rfl rfl (fun h => ?_) (fun h => ?_) | fail)
  all_goals
   ((repeat refine aH ?_); refine bB (.blk b5 [.bool (B (fd < 0)), .slice q5 (gr fd.natAbs).length c5] 42 :: .blk b2 [.bool (B (z < 0)), .slice q4 (gr z.natAbs).length c4] 42 :: .blk b [.bool (B (y < 0)), .slice q3 (gr y.natAbs).length c3] 42 :: M0) (iC (.agg #[.bool (B (fd < 0)), .slice q5 (gr fd.natAbs).length c5]) fd k :: I0) [0, 1, 2, 3, 4, 5, 6, 7, 8] [2, 2, 2, 2, 0, 0, 0, 0, 0] aG aF mixed (by kernel_rfl) ?_)
   repeat' (first | refine bE ?_ | refine aV rfl (fun h => ?_) (fun h => ?_) | refine aW rfl rfl (fun h => ?_) (fun h => ?_) | fail)
   refine sM (q := q3) (c := c3) (z := y) (k := k) aB hc3 hy ?_
   refine sM (q := q4) (c := c4) (z := z) (k := m) aB hc4 hz ?_
   unfold iv
   (refine aA rfl (hMu _ _ _ _ aB aB) rfl rfl ?_; rintro _ _ _ ⟨rfl, rfl⟩; refine ⟨okF, ?_⟩; refine aU (List.Mem.head _) (fun q8 c8 e__ hc8 hz8 => ?_); subst e__)
   unfold iv
   (refine aA rfl (hSb _ _ _ _ aB aB) rfl rfl ?_; rintro _ _ _ ⟨rfl, rfl⟩; refine ⟨okF, ?_⟩; refine aU (List.Mem.head _) (fun q9 c9 e__ hc9 hz9 => ?_); subst e__)
   unfold iv
   refine lX (k2 := m) (z := fm) (List.Mem.tail _ (List.Mem.head _)) hml ?_
   repeat' (first | refine bE ?_ | refine aV rfl (fun h => ?_) (fun h => ?_) | refine aW rfl rfl (fun h => ?_) (fun h => ?_) | fail)
   refine dP (rs := [.cell 4 42, .cell 5 42, .tmp 6]) (.inl rfl) rfl (.cellN inferInstance rfl aB rfl (.cellN inferInstance rfl aB rfl (.tmp rfl .nil))) rfl M0 (iC (.agg #[.bool (B (fm < 0)), .slice q9 (gr fm.natAbs).length c9]) fm m :: iC (.agg #[.bool (B (fd < 0)), .slice q5 (gr fd.natAbs).length c5]) fd k :: I0) aG aF ⟨rfl, _, _, rfl, rfl⟩
end
end Go.Proofs.YtmmmfphealhapaaGreat
namespace Go.Proofs.YtmmmfphealhapaaGreat
open Go Go.Fx
section
variable {X : List Nat} {w0 : World} {M0 : List Ent} {I0 : List bA}
theorem aDZ {u v : Value} {n d : Int} {k : Nat} (hk : k ≤ 150000000000) (hd0 : d ≠ 0) (hu : iC u n k ∈ I0) (hv : iC v d k ∈ I0) :
  CD Tryz.prog 215 [u, v] X w0 M0 I0 (RQ (Rat.divInt n d) k M0 I0) := by
 have hS := fun M0 I0 => vC (X := X) (w0 := w0) (M0 := M0) (I0 := I0) (u := v) (z := d) (k := k) (by omega)
 refine cB hu (fun q cq e hc hy => ?_)
 subst e
 refine cB (List.Mem.tail _ hv) (fun q' cq' e hc' hz => ?_)
 subst e
 obtain ⟨r, hr⟩ : ∃ r, r = Rat.divInt n d := ⟨_, rfl⟩
 obtain ⟨g0, hg0⟩ : ∃ g : Int, g = (Int.gcd n d : Int) := ⟨_, rfl⟩
 obtain ⟨g, hg⟩ : ∃ g : Int, g = if d < 0 then -g0 else g0 := ⟨_, rfl⟩
 obtain ⟨e1, e2, e3⟩ := aHO (n := n) (d := d) (g := g) hd0 (by rw [hg, hg0])
 rw [← hr] at e1 e2 ⊢
 have hD1 := fun u v M0 I0 h1 h2 => yJ (X := X) (w0 := w0) (M0 := M0) (I0 := I0) (u := u) (v := v) (y := n) (z := g) (k := k) (m := k + k) (by omega) (by omega) e3 h1 h2
 have hD2 := fun u v M0 I0 h1 h2 => yJ (X := X) (w0 := w0) (M0 := M0) (I0 := I0) (u := u) (v := v) (y := d) (z := g) (k := k) (m := k + k) (by omega) (by omega) e3 h1 h2
 rw [e1] at hD1
 rw [e2] at hD2
 obtain ⟨f1, hf1⟩ : ∃ f : Int, f = n.fmod g := ⟨_, rfl⟩
 obtain ⟨f2, hf2⟩ : ∃ f : Int, f = d.fmod g := ⟨_, rfl⟩
 rw [← hf1] at hD1
 rw [← hf2] at hD2
 have hN := fun u M0 I0 => aBV (X := X) (w0 := w0) (M0 := M0) (I0 := I0) (u := u) (z := g0) (k := k + k) (by omega)
 have hG := fun u v M0 I0 => aHY (X := X) (w0 := w0) (M0 := M0) (I0 := I0) (u := u) (v := v) (y := n) (z := d) (k0 := k) (m := k) (by omega) (by omega)
 rw [← hg0] at hG
 clear e1 e2 hf1 hf2 hg0 hr
 by_cases hneg : d < 0
 ·have hs : d.sign = -1 := Int.sign_eq_neg_one_of_neg hneg
  rw [hs] at hS
  rw [if_pos hneg] at hg
  rw [← hg] at hN
  clear hg hneg
  unfold iv at *
  refine bI Tryz.func215 rfl Tryz.ntmps215 rfl ?_
  refine aH ?_
  refine aI ?_
  (refine aK rfl rfl rfl ?_; intro b; refine ⟨okF, ?_⟩)
  (refine aK rfl rfl rfl ?_; intro b2; refine ⟨okF, ?_⟩)
  (refine aC rfl rfl ?_; intro b4; refine ⟨okF, ?_⟩)
  repeat (refine bE ?_)
  (refine aA rfl (hG _ _ _ _ aB aB) rfl rfl ?_; rintro _ _ _ ⟨rfl, rfl⟩; refine ⟨okF, ?_⟩; refine aU (List.Mem.head _) (fun q3 c3 e__ hc3 hz3 => ?_); subst e__)
  unfold iv
  repeat (refine bE ?_)
  (refine aC rfl rfl ?_; intro b5; refine ⟨okF, ?_⟩)
  repeat (refine bE ?_)
  (refine aA rfl (hS _ _ aB) rfl rfl ?_; rintro _ _ _ ⟨rfl, rfl, rfl⟩; refine ⟨okF, ?_⟩)
  repeat (refine bE ?_)
  (refine aA rfl (hN _ _ _ aB) rfl rfl ?_; rintro _ _ _ ⟨rfl, rfl⟩; refine ⟨okF, ?_⟩; refine aU (List.Mem.head _) (fun q6 c6 e__ hc6 hz6 => ?_); subst e__)
  unfold iv
  repeat (refine bE ?_)
  (refine aA rfl (hD1 _ _ _ _ aB aB) rfl rfl ?_; rintro _ _ _ ⟨rfl, v1, v2, rfl, rfl⟩; refine ⟨okF, ?_⟩)
  refine aU (u := v1) aB (fun q7 c7 e7 hc7 hz7 => ?_)
  subst e7
  refine aU (u := v2) aB (fun q8 c8 e8 hc8 hz8 => ?_)
  subst e8
  unfold iv
  repeat (refine bE ?_)
  (refine aC rfl rfl ?_; intro b6; refine ⟨okF, ?_⟩)
  (refine aC rfl rfl ?_; intro b7; refine ⟨okF, ?_⟩)
  repeat (refine bE ?_)
  (refine aA rfl (hD2 _ _ _ _ aB aB) rfl rfl ?_; rintro _ _ _ ⟨rfl, v3, v4, rfl, rfl⟩; refine ⟨okF, ?_⟩)
  refine aU (u := v3) aB (fun q9 c9 e9 hc9 hz9 => ?_)
  subst e9
  refine aU (u := v4) aB (fun q10 c10 e10 hc10 hz10 => ?_)
  subst e10
  unfold iv
  repeat (refine bE ?_)
  (refine aC rfl rfl ?_; intro b8; refine ⟨okF, ?_⟩)
  (refine aC rfl rfl ?_; intro b9; refine ⟨okF, ?_⟩)
  repeat (refine bE ?_)
  (refine aD rfl (fun _ => aZ (pvs := ([vI q7 c7 r.num, vI q9 c9 r.den]).zipIdx.map (fun p => (p.2, p.1))) (cells := eR ⟨r, q7, c7, q9, c9⟩) rfl rfl) rfl rfl ?_)
  repeat (refine bE ?_)
  refine lD (q := r) (k := k) (p1 := q7) (c1 := c7) (p2 := q9) (c2 := c9) aB aB (Nat.le_refl _) (Nat.le_refl _) ?_
  refine bC (cs := eR ⟨r, q7, c7, q9, c9⟩) (.inl rfl) rfl rfl aB rfl M0 (jA ⟨r, q7, c7, q9, c9⟩ k :: I0) aG aF ⟨rfl, ⟨r, q7, c7, q9, c9⟩, rfl, rfl, rfl⟩
 ·have hs : d.sign = 1 := Int.sign_eq_one_of_pos (by omega)
  rw [hs] at hS
  rw [if_neg hneg] at hg
  rw [← hg] at hG
  clear hg hneg hN
  unfold iv at *
  refine bI Tryz.func215 rfl Tryz.ntmps215 rfl ?_
  refine aH ?_
  refine aI ?_
  (refine aK rfl rfl rfl ?_; intro b; refine ⟨okF, ?_⟩)
  (refine aK rfl rfl rfl ?_; intro b2; refine ⟨okF, ?_⟩)
  (refine aC rfl rfl ?_; intro b4; refine ⟨okF, ?_⟩)
  repeat (refine bE ?_)
  (refine aA rfl (hG _ _ _ _ aB aB) rfl rfl ?_; rintro _ _ _ ⟨rfl, rfl⟩; refine ⟨okF, ?_⟩; refine aU (List.Mem.head _) (fun q3 c3 e__ hc3 hz3 => ?_); subst e__)
  unfold iv
  repeat (refine bE ?_)
  (refine aC rfl rfl ?_; intro b5; refine ⟨okF, ?_⟩)
  repeat (refine bE ?_)
  (refine aA rfl (hS _ _ aB) rfl rfl ?_; rintro _ _ _ ⟨rfl, rfl, rfl⟩; refine ⟨okF, ?_⟩)
  repeat (refine bE ?_)
  (refine aA rfl (hD1 _ _ _ _ aB aB) rfl rfl ?_; rintro _ _ _ ⟨rfl, v1, v2, rfl, rfl⟩; refine ⟨okF, ?_⟩)
  refine aU (u := v1) aB (fun q7 c7 e7 hc7 hz7 => ?_)
  subst e7
  refine aU (u := v2) aB (fun q8 c8 e8 hc8 hz8 => ?_)
  subst e8
  unfold iv
  repeat (refine bE ?_)
  (refine aC rfl rfl ?_; intro b6; refine ⟨okF, ?_⟩)
  (refine aC rfl rfl ?_; intro b7; refine ⟨okF, ?_⟩)
  repeat (refine bE ?_)
  (refine aA rfl (hD2 _ _ _ _ aB aB) rfl rfl ?_; rintro _ _ _ ⟨rfl, v3, v4, rfl, rfl⟩; refine ⟨okF, ?_⟩)
  refine aU (u := v3) aB (fun q9 c9 e9 hc9 hz9 => ?_)
  subst e9
  refine aU (u := v4) aB (fun q10 c10 e10 hc10 hz10 => ?_)
  subst e10
  unfold iv
  repeat (refine bE ?_)
  (refine aC rfl rfl ?_; intro b8; refine ⟨okF, ?_⟩)
  (refine aC rfl rfl ?_; intro b9; refine ⟨okF, ?_⟩)
  repeat (refine bE ?_)
  (refine aD rfl (fun _ => aZ (pvs := ([vI q7 c7 r.num, vI q9 c9 r.den]).zipIdx.map (fun p => (p.2, p.1))) (cells := eR ⟨r, q7, c7, q9, c9⟩) rfl rfl) rfl rfl ?_)
  repeat (refine bE ?_)
  refine lD (q := r) (k := k) (p1 := q7) (c1 := c7) (p2 := q9) (c2 := c9) aB aB (Nat.le_refl _) (Nat.le_refl _) ?_
  refine bC (cs := eR ⟨r, q7, c7, q9, c9⟩) (.inl rfl) rfl rfl aB rfl M0 (jA ⟨r, q7, c7, q9, c9⟩ k :: I0) aG aF ⟨rfl, ⟨r, q7, c7, q9, c9⟩, rfl, rfl, rfl⟩
theorem wK {x : Int} (hx : -9223372036854775808 ≤ x ∧ x ≤ 9223372036854775807) : CD Tryz.prog 89 [.int .i64 x] X w0 M0 I0 (fun v M I => M0 = M ∧ I = iC v x 63 :: I0) := by
 refine bV Tryz.func89 rfl Tryz.ntmps89 rfl ?_
 refine aH ?_
 refine aI ?_
 (refine aC rfl rfl ?_; intro b2; refine ⟨okF, ?_⟩)
 repeat (refine bE ?_)
 (refine aA rfl (aMO hx) rfl rfl ?_; rintro _ _ _ ⟨rfl, rfl⟩; refine ⟨okF, ?_⟩; refine aU (List.Mem.head _) (fun q3 c3 e__ hc3 hz3 => ?_); subst e__)
 unfold iv
 repeat (refine bE ?_)
 refine bC (cs := [.bool (B (x < 0)), .slice q3 (gr x.natAbs).length c3]) (.inl rfl) rfl rfl aB rfl _ _ aG aF ⟨rfl, rfl⟩
theorem aDB {u : Value} {z : Int} {k : Nat} (hk : k ≤ 1000000000000) (hu : iC u z k ∈ I0) :
  CD Tryz.prog 182 [u] X w0 M0 I0 (fun v M I => M0 = M ∧ I0 = I ∧ v = .bool true) := by
 refine CD.post (K := fun v M I => M0 = M ∧ (∃ q, aX q (recs eG (gr z.natAbs)) :: I0 = I) ∧ v = .bool true) (cB hu (fun q c e hc hz => ?_)) (fun v M I w h hw => ?_)
 case refine_2 =>
  obtain ⟨e1, ⟨q, e2⟩, e3⟩ := h
  subst e1; subst e2
  exact ⟨_, _, ⟨rfl, rfl, e3⟩, hw.inc (Inc.wk Inc.refl)⟩
 subst e
 have hl := fK hz hk
 refine (aAC (neg := B (z < 0)) (gs := gr z.natAbs) (by omega) (List.Mem.head _)).mono (fun v M I h => ⟨h.1, ⟨q, h.2.1⟩, ?_⟩)
 rw [h.2.2]
 exact congrArg Value.bool (fA (aCA z))
theorem aEZ {e : RE} {k : Nat} (hk : k ≤ 100000000000) (he : Hv I0 (jA e k)) :
  CD Tryz.prog 102 [rv e] X w0 M0 I0 (fun v M I => M0 = M ∧ I0 = I ∧ v = .bool true) := by
 refine CD.post (K := fun v M I => M0 = M ∧ iC (vI e.p1 e.c1 e.q.num) e.q.num k :: iC (vI e.p2 e.c2 e.q.den) e.q.den k :: I0 = I ∧ v = .bool true) (yE he ?_) (fun v M I w h hw => ?_)
 case refine_2 =>
  obtain ⟨e1, e2, e3⟩ := h
  subst e1; subst e2
  exact ⟨_, _, ⟨rfl, rfl, e3⟩, hw.inc (Inc.wk (Inc.wk Inc.refl))⟩
 have hV1 := fun M0 I0 h => aDB (X := X) (w0 := w0) (M0 := M0) (I0 := I0) (u := vI e.p1 e.c1 e.q.num) (z := e.q.num) (k := k) (by omega) h
 have hV2 := fun M0 I0 h => aDB (X := X) (w0 := w0) (M0 := M0) (I0 := I0) (u := vI e.p2 e.c2 e.q.den) (z := e.q.den) (k := k) (by omega) h
 have hS := fun M0 I0 => vC (X := X) (w0 := w0) (M0 := M0) (I0 := I0) (u := vI e.p2 e.c2 e.q.den) (z := e.q.den) (k := k) (by omega)
 have hs : ((e.q.den : Int)).sign = 1 := Int.sign_eq_one_of_pos (by have := e.q.den_nz; omega)
 rw [hs] at hS
 have hG := fun M0 I0 => aHY (X := X) (w0 := w0) (M0 := M0) (I0 := I0) (u := vI e.p1 e.c1 e.q.num) (v := vI e.p2 e.c2 e.q.den) (y := e.q.num) (z := e.q.den) (k0 := k) (m := k) (by omega) (by omega)
 rw [aHN] at hG
 have hC := fun u v M0 I0 => aCM (X := X) (w0 := w0) (M0 := M0) (I0 := I0) (u := u) (v := v) (y := 1) (z := 1) (k := k + k) (m := 63) (by omega) (by omega)
 have hc : fQ 1 1 = 0 := by decide
 rw [hc] at hC
 refine bV Tryz.func102 rfl Tryz.ntmps102 rfl ?_
 refine aH ?_
 refine aI ?_
 (refine aK rfl rfl rfl ?_; intro b; refine ⟨okF, ?_⟩)
 repeat (refine bE ?_)
 (refine aA rfl (hV1 _ _ aB) rfl rfl ?_; rintro _ _ _ ⟨rfl, rfl, rfl⟩; refine ⟨okF, ?_⟩)
 repeat (refine bE ?_)
 (refine aA rfl (hV2 _ _ aB) rfl rfl ?_; rintro _ _ _ ⟨rfl, rfl, rfl⟩; refine ⟨okF, ?_⟩)
 repeat (refine bE ?_)
 (refine aA rfl (hS _ _ aB) rfl rfl ?_; rintro _ _ _ ⟨rfl, rfl, rfl⟩; refine ⟨okF, ?_⟩)
 repeat (refine bE ?_)
 (refine aA rfl (hG _ _ aB aB) rfl rfl ?_; rintro _ _ _ ⟨rfl, rfl⟩; refine ⟨okF, ?_⟩)
 repeat (refine bE ?_)
 (refine aA rfl (wK (x := 1) (by decide)) rfl rfl ?_; rintro _ _ _ ⟨rfl, rfl⟩; refine ⟨okF, ?_⟩)
 (refine aA rfl (hC _ _ _ _ aB aB) rfl rfl ?_; rintro _ _ _ ⟨rfl, rfl, rfl⟩; refine ⟨okF, ?_⟩)
 repeat (refine bE ?_)
 refine aN (by first | exact .inl rfl | exact .inr rfl) rfl rfl _ _ aG aF (⟨rfl, rfl, congrArg Value.bool (fA (by decide))⟩)
theorem rA {e : RE} {k : Nat} (hk : k ≤ 100000000000) (he : Hv I0 (jA e k)) :
  CD Tryz.prog 149 [rv e] X w0 M0 I0 (fun v M I => M0 = M ∧ I0 = I ∧ v = rv e) := by
 refine bV Tryz.func149 rfl Tryz.ntmps149 rfl ?_
 refine aH ?_
 refine aI ?_
 (refine aK rfl rfl rfl ?_; intro b; refine ⟨okF, ?_⟩)
 (refine aC rfl rfl ?_; intro b2; refine ⟨okF, ?_⟩)
 repeat (refine bE ?_)
 (refine aA rfl (aEZ hk he) rfl rfl ?_; rintro _ _ _ ⟨rfl, rfl, rfl⟩; refine ⟨okF, ?_⟩)
 repeat (refine bE ?_)
 refine bC (cs := eR e) (.inl rfl) rfl rfl aB rfl M0 I0 aG aF ⟨rfl, rfl, rfl⟩
theorem aET {x : Int} (hx : -9223372036854775808 ≤ x ∧ x ≤ 9223372036854775807) {k : Nat} (hk : x.natAbs ≤ 2 ^ k) :
  CD Tryz.prog 29 [.int .i64 x] X w0 M0 I0 (RQ (x : Rat) k M0 I0) := by
 have hn : ((x : Rat)).num = x := Rat.num_intCast x
 have hd : (((x : Rat)).den : Int) = 1 := by rw [Rat.den_intCast]; rfl
 have h1 : (1 : Int).natAbs ≤ 2 ^ k := Nat.one_le_two_pow
 obtain ⟨q, hq⟩ : ∃ q : Rat, q = (x : Rat) := ⟨_, rfl⟩
 rw [← hq] at hn hd ⊢
 refine bV Tryz.func29 rfl Tryz.ntmps29 rfl ?_
 refine aH ?_
 refine aI ?_
 (refine aC rfl rfl ?_; intro b2; refine ⟨okF, ?_⟩)
 repeat (refine bE ?_)
 (refine aA rfl (wK hx) rfl rfl ?_; rintro _ _ _ ⟨rfl, rfl⟩; refine ⟨okF, ?_⟩; refine aU (List.Mem.head _) (fun q3 c3 e__ hc3 hz3 => ?_); subst e__)
 unfold iv
 refine lX (k2 := k) (z := x) (List.Mem.tail _ (List.Mem.head _)) hk ?_
 (refine aA rfl (wK (x := 1) (by decide)) rfl rfl ?_; rintro _ _ _ ⟨rfl, rfl⟩; refine ⟨okF, ?_⟩; refine aU (List.Mem.head _) (fun q4 c4 e__ hc4 hz4 => ?_); subst e__)
 unfold iv
 refine lX (k2 := k) (z := 1) (List.Mem.tail _ (List.Mem.head _)) h1 ?_
 rw [← hn, ← hd]
 (refine aD rfl (fun _ => aZ (pvs := ([vI q3 c3 q.num, vI q4 c4 q.den]).zipIdx.map (fun p => (p.2, p.1))) (cells := eR ⟨q, q3, c3, q4, c4⟩) rfl rfl) rfl rfl ?_)
 repeat (refine bE ?_)
 refine lD (q := q) (k := k) (p1 := q3) (c1 := c3) (p2 := q4) (c2 := c4) aB aB (Nat.le_refl _) (Nat.le_refl _) ?_
 refine bC (cs := eR ⟨q, q3, c3, q4, c4⟩) (.inl rfl) rfl rfl aB rfl M0 (jA ⟨q, q3, c3, q4, c4⟩ k :: I0) aG aF ⟨rfl, ⟨q, q3, c3, q4, c4⟩, rfl, rfl, rfl⟩
theorem aJU {e : RE} {k : Nat} (hk : k ≤ 100000000000) (he : Hv I0 (jA e k)) :
  CD Tryz.prog 74 [rv e] X w0 M0 I0 (fun v M I => M0 = M ∧ I0 = I ∧ v = .int .i64 e.q.num.sign) := by
 refine bV Tryz.func74 rfl Tryz.ntmps74 rfl ?_
 refine aH ?_
 refine aI ?_
 (refine aK rfl rfl rfl ?_; intro b; refine ⟨okF, ?_⟩)
 repeat (refine bE ?_)
 (refine aA rfl (rA hk he) rfl rfl ?_; rintro _ _ _ ⟨rfl, rfl, rfl⟩; refine ⟨okF, ?_⟩)
 refine aD rfl (fun _ => bJ rfl) rfl rfl ?_
 refine jN (e := e) (k := k) he ?_
 (refine aA rfl (vC (z := e.q.num) (k := k) (by omega) aB) rfl rfl ?_; rintro _ _ _ ⟨rfl, rfl, rfl⟩; refine ⟨okF, ?_⟩)
 repeat (refine bE ?_)
 refine aN (by first | exact .inl rfl | exact .inr rfl) rfl rfl _ _ aG aF (⟨rfl, rfl, rfl⟩)
theorem aMI {e : RE} {k : Nat} (hk : k ≤ 100000000000) (he : Hv I0 (jA e k)) :
  CD Tryz.prog 147 [rv e] X w0 M0 I0 (RQ (-e.q) k M0 I0) := by
 have hN := fun M0 I0 => aBV (X := X) (w0 := w0) (M0 := M0) (I0 := I0) (u := vI e.p1 e.c1 e.q.num) (z := e.q.num) (k := k) (by omega)
 rw [← Rat.neg_num] at hN
 have hd : ((e.q.den : Int)) = ((-e.q).den : Int) := by rw [Rat.neg_den]
 refine bV Tryz.func147 rfl Tryz.ntmps147 rfl ?_
 refine aH ?_
 refine aI ?_
 (refine aK rfl rfl rfl ?_; intro b; refine ⟨okF, ?_⟩)
 (refine aC rfl rfl ?_; intro b2; refine ⟨okF, ?_⟩)
 repeat (refine bE ?_)
 (refine aA rfl (rA hk he) rfl rfl ?_; rintro _ _ _ ⟨rfl, rfl, rfl⟩; refine ⟨okF, ?_⟩)
 refine jN (e := e) (k := k) he ?_
 (refine aC rfl rfl ?_; intro b3; refine ⟨okF, ?_⟩)
 repeat (refine bE ?_)
 (repeat refine aH ?_); refine dG 1 [0, 1, 3, 4, 2, 5, 6] [1, 0, 1, 1, 0, 0, 0] mixed (by kernel_rfl) ?_
 repeat (refine bE ?_)
 (refine aA rfl (hN _ _ aB) rfl rfl ?_; rintro _ _ _ ⟨rfl, rfl⟩; refine ⟨okF, ?_⟩; refine aU (List.Mem.head _) (fun q3 c3 e__ hc3 hz3 => ?_); subst e__)
 unfold iv
 rw [hd]
 (refine aD rfl (fun _ => aZ (pvs := ([vI q3 c3 (-e.q).num, vI e.p2 e.c2 (-e.q).den]).zipIdx.map (fun p => (p.2, p.1))) (cells := eR ⟨-e.q, q3, c3, e.p2, e.c2⟩) rfl rfl) rfl rfl ?_)
 repeat (refine bE ?_)
 refine lD (q := -e.q) (k := k) (p1 := q3) (c1 := c3) (p2 := e.p2) (c2 := e.c2) aB aB (Nat.le_refl _) (Nat.le_refl _) ?_
 refine bC (cs := eR ⟨-e.q, q3, c3, e.p2, e.c2⟩) (.inl rfl) rfl rfl aB rfl M0 (jA ⟨-e.q, q3, c3, e.p2, e.c2⟩ k :: I0) aG aF ⟨rfl, ⟨-e.q, q3, c3, e.p2, e.c2⟩, rfl, rfl, rfl⟩
end
end Go.Proofs.YtmmmfphealhapaaGreat
namespace Go.Proofs.YtmmmfphealhapaaGreat
open Go Go.Fx
theorem aEI {n d : Int} (hd : 0 < d) : (Rat.divInt n d).num.sign = n.sign := by
 obtain ⟨m, hm, h1, h2, h3, h4⟩ := tN (n := n) (d := d) (by omega)
 have hm0 : 0 < m := by
  rcases Int.lt_trichotomy m 0 with h | h | h
  ·have := h4.1 h; omega
  ·exact absurd h hm
  ·exact h
 have : n.sign = ((Rat.divInt n d).num * m).sign := congrArg Int.sign h1
 rw [this, Int.sign_mul, Int.sign_eq_one_of_pos hm0, Int.mul_one]
theorem aLI (p q : Rat) : (p - q).num.sign = zQ p q := by
 rw [Rat.sub_eq_add_neg, uH, aEI (by rw [Rat.neg_den]; exact Int.mul_pos (den_pos p) (den_pos q)), Rat.neg_num, Rat.neg_den, Int.neg_mul, ← Int.sub_eq_add_neg, aHD]
 rfl
section
variable {X : List Nat} {w0 : World} {M0 : List Ent} {I0 : List bA}
theorem aKD {a b : RE} {k m : Nat} (hk : k + m + 1 ≤ 100000000000) (ha : Hv I0 (jA a k)) (hb : Hv I0 (jA b m)) :
  CD Tryz.prog 153 [rv a, rv b] X w0 M0 I0 (RQ (a.q + b.q) (k + m + 1) M0 I0) := by
 have hM1 := fun u v M0 I0 => xL (X := X) (w0 := w0) (M0 := M0) (I0 := I0) (u := u) (v := v) (y := a.q.num) (z := b.q.den) (k0 := k) (m0 := m) (by omega)
 have hM2 := fun u v M0 I0 => xL (X := X) (w0 := w0) (M0 := M0) (I0 := I0) (u := u) (v := v) (y := b.q.num) (z := a.q.den) (k0 := m) (m0 := k) (by omega)
 have hM3 := fun u v M0 I0 => xL (X := X) (w0 := w0) (M0 := M0) (I0 := I0) (u := u) (v := v) (y := a.q.den) (z := b.q.den) (k0 := k) (m0 := m) (by omega)
 have hA := fun u v M0 I0 => aGA (X := X) (w0 := w0) (M0 := M0) (I0 := I0) (u := u) (v := v) (y := a.q.num * b.q.den) (z := b.q.num * a.q.den) (k := k + m) (m := m + k) (c := k + m + 1) (by omega) (by omega) (by omega) (aGE k m)
 have hR := fun u v M0 I0 => aDZ (X := X) (w0 := w0) (M0 := M0) (I0 := I0) (u := u) (v := v) (n := a.q.num * b.q.den + b.q.num * a.q.den) (d := a.q.den * b.q.den) (k := k + m + 1) (by omega) (uP _ _)
 rw [← uH] at hR
 refine bI Tryz.func153 rfl Tryz.ntmps153 rfl ?_
 refine aH ?_
 refine aI ?_
 (refine aK rfl rfl rfl ?_; intro b1; refine ⟨okF, ?_⟩)
 (refine aK rfl rfl rfl ?_; intro b2; refine ⟨okF, ?_⟩)
 (refine aC rfl rfl ?_; intro b3; refine ⟨okF, ?_⟩)
 repeat (refine bE ?_)
 (refine aA rfl (rA (k := k) (by omega) ha) rfl rfl ?_; rintro _ _ _ ⟨rfl, rfl, rfl⟩; refine ⟨okF, ?_⟩)
 (refine aC rfl rfl ?_; intro b4; refine ⟨okF, ?_⟩)
 repeat (refine bE ?_)
 (refine aA rfl (rA (k := m) (by omega) hb) rfl rfl ?_; rintro _ _ _ ⟨rfl, rfl, rfl⟩; refine ⟨okF, ?_⟩)
 (refine aC rfl rfl ?_; intro b5; refine ⟨okF, ?_⟩)
 refine jN (e := a) (k := k) ha ?_
 refine jN (e := b) (k := m) hb.cons.cons ?_
 repeat (refine bE ?_)
 (repeat refine aH ?_); refine bB (.blk b5 (eR b) 77 :: .blk b4 (eR a) 77 :: M0) (I0) [0, 1, 2, 3, 5, 6, 7, 8, 11, 12, 13, 14, 4, 9, 10, 15, 16, 17] [5, 4, 5, 4, 5, 4, 5, 4, 5, 4, 5, 4, 0, 0, 0, 0, 0, 0] aG aF mixed (by kernel_rfl) ?_
 repeat (refine bE ?_)
 (refine aA rfl (hM1 _ _ _ _ aB aB) rfl rfl ?_; rintro _ _ _ ⟨rfl, rfl⟩; refine ⟨okF, ?_⟩)
 (refine aA rfl (hM2 _ _ _ _ aB aB) rfl rfl ?_; rintro _ _ _ ⟨rfl, rfl⟩; refine ⟨okF, ?_⟩)
 (refine aA rfl (hA _ _ _ _ aB aB) rfl rfl ?_; rintro _ _ _ ⟨rfl, rfl⟩; refine ⟨okF, ?_⟩)
 (refine aA rfl (hM3 _ _ _ _ aB aB) rfl rfl ?_; rintro _ _ _ ⟨rfl, rfl⟩; refine ⟨okF, ?_⟩)
 refine aDA (k2 := k + m + 1) (List.Mem.head _) (by omega) ?_
 (refine aA rfl (hR _ _ _ _ aB aB) rfl rfl ?_; rintro _ _ _ ⟨rfl, e, rfl, he, rfl⟩; refine ⟨okF, ?_⟩)
 repeat (refine bE ?_)
 refine bC (cs := eR e) (.inl rfl) rfl rfl aB rfl M0 (jA e (k + m + 1) :: I0) aG aF ⟨rfl, e, rfl, he, rfl⟩
theorem aKT {a b : RE} {k m : Nat} (hk : k + m + 1 ≤ 100000000000) (ha : Hv I0 (jA a k)) (hb : Hv I0 (jA b m)) :
  CD Tryz.prog 119 [rv a, rv b] X w0 M0 I0 (RQ (a.q - b.q) (k + m + 1) M0 I0) := by
 refine bI Tryz.func119 rfl Tryz.ntmps119 rfl ?_
 refine aH ?_
 refine aI ?_
 (refine aK rfl rfl rfl ?_; intro b1; refine ⟨okF, ?_⟩)
 (refine aK rfl rfl rfl ?_; intro b2; refine ⟨okF, ?_⟩)
 (refine aC rfl rfl ?_; intro b3; refine ⟨okF, ?_⟩)
 repeat (refine bE ?_)
 (repeat refine aH ?_); refine dG 1 [0, 1, 2, 3, 4] [1, 1, 0, 0, 0] mixed (by kernel_rfl) ?_
 repeat (refine bE ?_)
 (refine aA rfl (aMI (k := m) (by omega) hb) rfl rfl ?_; rintro _ _ _ ⟨rfl, y, rfl, hy, rfl⟩; refine ⟨okF, ?_⟩)
 rw [Rat.sub_eq_add_neg, ← hy]
 (refine aA rfl (aKD hk ha.cons (Hv.mem (List.Mem.head _))) rfl rfl ?_; rintro _ _ _ ⟨rfl, e, rfl, he, rfl⟩; refine ⟨okF, ?_⟩)
 repeat (refine bE ?_)
 refine bC (cs := eR e) (.inl rfl) rfl rfl aB rfl M0 (jA e (k + m + 1) :: I0) aG aF ⟨rfl, e, rfl, he, rfl⟩
theorem aCC {a b : RE} {k m : Nat} (hk : k + m + 1 ≤ 100000000000) (ha : Hv I0 (jA a k)) (hb : Hv I0 (jA b m)) :
  CD Tryz.prog 56 [rv a, rv b] X w0 M0 I0 (fun v M I => M0 = M ∧ I0 = I ∧ v = .int .i64 (zQ a.q b.q)) := by
 refine bI Tryz.func56 rfl Tryz.ntmps56 rfl ?_
 refine aH ?_
 refine aI ?_
 (refine aK rfl rfl rfl ?_; intro b1; refine ⟨okF, ?_⟩)
 (refine aK rfl rfl rfl ?_; intro b2; refine ⟨okF, ?_⟩)
 repeat (refine bE ?_)
 (refine aA rfl (aKT hk ha hb) rfl rfl ?_; rintro _ _ _ ⟨rfl, e, rfl, he, rfl⟩; refine ⟨okF, ?_⟩)
 (refine aA rfl (aJU (k := k + m + 1) (by omega) (Hv.mem (List.Mem.head _))) rfl rfl ?_; rintro _ _ _ ⟨rfl, rfl, rfl⟩; refine ⟨okF, ?_⟩)
 repeat (refine bE ?_)
 refine aN (by first | exact .inl rfl | exact .inr rfl) rfl rfl _ _ aG aF (⟨rfl, rfl, by rw [he, aLI]⟩)
end
end Go.Proofs.YtmmmfphealhapaaGreat
namespace Go.Proofs.YtmmmfphealhapaaGreat
open Go Go.Fx
structure C4 where
 a : Value
 b : Value
 c : Value
 d : Value
abbrev e4 (x : C4) : List Value := [x.a, x.b, x.c, x.d]
instance : Inhabited C4 := ⟨⟨.bool false, .slice none 0 0, .bool false, .slice none 0 0⟩⟩
instance : Sized e4 4 := ⟨fun _ => rfl⟩
abbrev z4 : C4 := ⟨.bool false, .slice none 0 0, .bool false, .slice none 0 0⟩
abbrev t4 (e : RE) : C4 := ⟨.bool (B (e.q.num < 0)), .slice e.p1 (gr e.q.num.natAbs).length e.c1, .bool (B ((e.q.den : Int) < 0)), .slice e.p2 (gr (e.q.den : Int).natAbs).length e.c2⟩
structure HD where
 p : Option Addr
 n : Nat
 c : Nat
instance : Inhabited HD := ⟨⟨none, 0, 0⟩⟩
abbrev eH (h : HD) : List Value := [.slice h.p h.n h.c]
instance : Sized eH 1 := ⟨fun _ => rfl⟩
structure MR where
 b : Nat
 es : List RE
instance : Inhabited MR := ⟨⟨0, []⟩⟩
abbrev hdM (r : MR) : HD := ⟨some ⟨r.b, 0, none⟩, r.es.length, r.es.length⟩
abbrev eM (r : MR) : List Value := [.slice (some ⟨r.b, 0, none⟩) r.es.length r.es.length]
instance : Sized eM 1 := ⟨fun _ => rfl⟩
abbrev entM (r : MR) : Ent := .blk r.b (recs eR r.es) 77
structure AllM (rows : List MR) (k : Nat) (X : List Nat) (w : World) : Prop where
 go : ∀ r ∈ rows, ∀ e ∈ r.es, IsR e k X w
abbrev allM (rows : List MR) (k : Nat) : bA := AllM rows k
instance (rows : List MR) (k : Nat) : Fx.Good (AllM rows k) := ⟨fun X Y w w' h he hY => ⟨fun r hr e hm => Fx.Good.go (φ := IsR _ _) X Y w w' (h.go r hr e hm) he hY⟩⟩
theorem Hv.snoc {I : List bA} {es : List RE} {e : RE} {k : Nat} (h1 : xE es k ∈ I) (h2 : jA e k ∈ I) : Hv I (xE (es ++ [e]) k) := ⟨fun X w hw => ⟨fun x hx => by
 rcases List.mem_append.1 hx with hx | hx
 ·exact (hw _ h1 : AllR es k X w).go x hx
 ·rw [List.mem_singleton.1 hx]; exact hw _ h2⟩⟩
theorem Hv.nilR {I : List bA} {k : Nat} : Hv I (xE [] k) := ⟨fun X w _ => ⟨fun x hx => by simp at hx⟩⟩
theorem aQA {α : Type} [Inhabited α] {A B : List α} {x : α} {i : Int} (h : i = A.length) : gt (A ++ x :: B) i = x := by
 subst h
 rw [mZ (by simp)]
 simp
theorem aPS {α : Type} {A B : List α} {x y : α} {i : Int} (h : i = A.length) : st (A ++ x :: B) i y = A ++ y :: B := by
 subst h
 simp [st]
theorem aII {α : Type} {enc : α → List Value} {sz : Nat} [h : Sized enc sz] (hsz : 0 < sz) (zz : α) (mm : Nat) : (madeCells (enc zz).toArray (mm * sz)).toList = recs enc (List.replicate mm zz) := by
 have hl : (enc zz).length = sz := h.len zz
 apply List.ext_getElem
 ·rw [Array.length_toList, size_madeCells, iP, List.length_replicate]
 ·intro i h1 h2
  rw [Array.length_toList, size_madeCells] at h1
  have hq : i / sz < mm := by rw [Nat.div_lt_iff_lt_mul hsz]; exact h1
  have hr : i % sz < sz := Nat.mod_lt _ hsz
  have hv : (enc zz)[i % sz]? = some ((enc zz)[i % sz]'(by omega)) := List.getElem?_eq_getElem (by omega)
  have := vF (enc := enc) (List.replicate mm zz) (i / sz) (i % sz) zz _ (by rw [List.getElem?_replicate, if_pos hq]) hv
  rw [Nat.div_add_mod'] at this
  have h3 := (List.getElem?_eq_some_iff.1 this).2
  rw [h3]
  simp [madeCells, hl, hr]
def MkP (R C : Nat) (F : Nat → Nat → Rat) (k : Nat) (M0 : List Ent) (I0 : List bA) (v : Value) (M : List Ent) (I : List bA) : Prop :=
 ∃ (bo : Nat) (rows : List MR), v = .slice (some ⟨bo, 0, none⟩) R R ∧ rows.length = R ∧ (∀ r ∈ rows, r.es.length = C) ∧ (rows.map (fun r => r.es.map (·.q)) = (List.range R).map (fun i => (List.range C).map (F i))) ∧
  M = .blk bo (recs eM rows) 70 :: (rows.map entM ++ M0) ∧ I = allM rows k :: I0
section
variable {P : Program} {n : Nat} {Q : Exit → Act → World → Prop} {G : Env} {X : List Nat} {w0 : World} {M M' : List Ent} {I : List bA}
end
section
variable {X : List Nat} {w0 : World} {M0 : List Ent} {I0 : List bA}
end
end Go.Proofs.YtmmmfphealhapaaGreat
