/- fiducialref01: Divide fiducialref02: reduced, Valid, Value, Whole, Sign, Neg -/
import Derived.Test.YtjbhdfpjnjedhaaGreatZpav
import Derived.Test.YtjbhdfpjnjedhaaGreatZpaq
import Derived.Test.YtjbhdfpjnjedhaaGreatZpar
import Derived.Test.YtjbhdfpjnjedhaaGreatZpas
set_option linter.unusedSimpArgs false
set_option linter.unusedVariables false
set_option maxRecDepth 100000
set_option maxHeartbeats 4000000
namespace Go.Proofs.YtjbhdfpjnjedhaaGreat
open Go Go.Fx
theorem aMT {y z : Int} (hz : z ≠ 0) : ((y < 0 ↔ z < 0) ∨ y.natAbs % z.natAbs = 0 → sg (¬ (y < 0 ↔ z < 0)) (y.natAbs / z.natAbs) = y.fdiv z) ∧ (¬ (y < 0 ↔ z < 0) → y.natAbs % z.natAbs ≠ 0 → sg (¬ (y < 0 ↔ z < 0)) (y.natAbs / z.natAbs) - 1 = y.fdiv z) := by
 have h := wJ (y := y) hz
 refine ⟨fun h1 => by rw [(h.2 h1).1]; rfl, fun h1 h2 => ?_⟩
 rw [(h.1 h1 h2).1]
 unfold sg
 rw [if_pos h1]; omega
theorem aEM (p : Prop) [Decidable p] (n : Nat) : (if p then -(n : Int) else (n : Int)).natAbs = n := by split <;> omega
theorem aTG {y z : Int} (hz : z ≠ 0) : (y.fdiv z).natAbs ≤ y.natAbs := by
 have h := wJ (y := y) hz
 have hz1 : 0 < z.natAbs := by omega
 have hab := Nat.div_add_mod y.natAbs z.natAbs
 have hbQ : y.natAbs / z.natAbs ≤ z.natAbs * (y.natAbs / z.natAbs) := Nat.le_mul_of_pos_left _ hz1
 by_cases h1 : (y < 0 ↔ z < 0) ∨ y.natAbs % z.natAbs = 0
 ·rw [(h.2 h1).1, aEM]; exact Nat.div_le_self _ _
 ·have h2 : y.natAbs % z.natAbs ≠ 0 := fun h' => h1 (.inr h')
  rw [(h.1 (fun h' => h1 (.inl h')) h2).1]
  generalize y.natAbs / z.natAbs = Q at *
  generalize y.natAbs % z.natAbs = R at *
  generalize z.natAbs * Q = p at *
  clear h h1
  omega
theorem aUC {y z : Int} (hz : z ≠ 0) : (y.fmod z).natAbs ≤ z.natAbs := by
 have h := wJ (y := y) hz
 have hz1 : 0 < z.natAbs := by omega
 have hlt := Nat.mod_lt y.natAbs hz1
 by_cases h1 : (y < 0 ↔ z < 0) ∨ y.natAbs % z.natAbs = 0
 ·rw [(h.2 h1).2, aEM]; omega
 ·rw [(h.1 (fun h' => h1 (.inl h')) (fun h' => h1 (.inr h'))).2, aEM]; omega
theorem aTU (y z : Int) : y - (y.fdiv z) * z = y.fmod z := by rw [Int.fmod_def, Int.mul_comm]
section
variable {X : List Nat} {w0 : World} {M0 : List Ent} {I0 : List aY}
theorem aCE {u v : Value} {y z : Int} {k m : Nat} (hk : k ≤ 300000000000) (hm : m ≤ 300000000000) (hz0 : z ≠ 0) (hu : iI u y k ∈ I0) (hv : iI v z m ∈ I0) :
  CD Tryz.prog 169 [u, v] X w0 M0 I0 (DvP (y.fdiv z) (y.fmod z) k m M0 I0) := by
 refine dE hu (fun q cq e hc hy => ?_)
 subst e
 refine dE (List.Mem.tail _ hv) (fun q' cq' e hc' hz => ?_)
 subst e
 have hly := eY hy
 have hlz := eY hz
 have hlz1 : ¬ (gr z.natAbs).length = 0 := fun e => by have := nU.1 (List.eq_nil_of_length_eq_zero e); omega
 have hr0 : (gr (y.natAbs % z.natAbs)).length = 0 ↔ y.natAbs % z.natAbs = 0 := by rw [List.length_eq_zero_iff, nU]
 have hqb : y.natAbs / z.natAbs ≤ 2 ^ k := vC hy
 have hlq := eY hqb
 have hdv := aMT (y := y) hz0
 have hfl : (y.fdiv z).natAbs ≤ 2 ^ k := Nat.le_trans (aTG hz0) hy
 have hml : (y.fmod z).natAbs ≤ 2 ^ m := Nat.le_trans (aUC hz0) hz
 have hO := fun (p1 p2 : Option Addr) (c1 c2 : Nat) (h1 : pW p1 y.natAbs c1) M0 I0 => aGO (X := X) (w0 := w0) (M0 := M0) (I0 := I0) (p := p1) (q := p2) (m := y.natAbs) (n := z.natAbs) (cp := c1) (cq := c2) (by omega) (by omega) (by omega) h1
 have hV1 := fun M0 I0 => kS (X := X) (w0 := w0) (M0 := M0) (I0 := I0) (q := q) (c := cq) hy (by omega) hc
 have hV2 := fun M0 I0 => kS (X := X) (w0 := w0) (M0 := M0) (I0 := I0) (q := q') (c := cq') hz (by omega) hc'
 have hMd := fun (q : Option Addr) (c2 : Nat) (h1 : pW q (y.natAbs / z.natAbs) c2) M0 I0 => qQ (X := X) (w0 := w0) (M0 := M0) (I0 := I0) (p := ¬ (y < 0 ↔ z < 0)) (n := y.natAbs / z.natAbs) (q := q) (l := gr (y.natAbs / z.natAbs)) (c := c2) (k := k) (by omega) h1.1 h1.2 (bY _) (dD _) hqb
 have hMu := fun u v M0 I0 => qB (X := X) (w0 := w0) (M0 := M0) (I0 := I0) (u := u) (v := v) (y := y.fdiv z) (z := z) (k0 := k) (m0 := m) (by omega)
 have hSb := fun u v M0 I0 => aFF (X := X) (w0 := w0) (M0 := M0) (I0 := I0) (u := u) (v := v) (y := y) (z := y.fdiv z * z) (k := k) (m := k + m) (c := k + (k + m) + 1) (by omega) (by omega) (by omega) (aEH _ _)
 have hSo := fun u v M0 I0 => aFF (X := X) (w0 := w0) (M0 := M0) (I0 := I0) (u := u) (v := v) (y := sg (¬ (y < 0 ↔ z < 0)) (y.natAbs / z.natAbs)) (z := 1) (k := k) (m := 0) (c := k + 0 + 1) (by omega) (by omega) (by omega) (aEH _ _)
 rw [aTU] at hSb
 obtain ⟨s0, hs0⟩ : ∃ s, s = sg (¬ (y < 0 ↔ z < 0)) (y.natAbs / z.natAbs) := ⟨_, rfl⟩
 rw [← hs0] at hMd hSo hdv
 clear hs0
 unfold iv
 by_cases hA : ¬ (y < 0 ↔ z < 0) ∧ ¬ (gr (y.natAbs % z.natAbs)).length = 0
 ·obtain ⟨hA1, hA2⟩ := hA
  have e1 := hdv.2 hA1 (fun h => hA2 (hr0.2 h))
  rw [e1] at hSo
  clear hdv hr0 hqb
  obtain ⟨fd, hfd⟩ : ∃ s, s = y.fdiv z := ⟨_, rfl⟩
  obtain ⟨fm, hfm⟩ : ∃ s, s = y.fmod z := ⟨_, rfl⟩
  obtain ⟨Q, hQ⟩ : ∃ s, s = y.natAbs / z.natAbs := ⟨_, rfl⟩
  obtain ⟨R, hR⟩ : ∃ s, s = y.natAbs % z.natAbs := ⟨_, rfl⟩
  rw [← hfd] at hMu hSb hSo hfl ⊢
  rw [← hfm] at hSb hml ⊢
  rw [← hQ] at hO hMd hlq
  rw [← hR] at hO hA2
  clear hfd hfm hQ hR e1
  refine aX Tryz.func169 rfl Tryz.ntmps169 rfl ?_
  refine aG ?_
  refine aJ ?_
  (refine aR rfl rfl rfl ?_; intro b; refine ⟨okF, ?_⟩)
  (refine aR rfl rfl rfl ?_; intro b2; refine ⟨okF, ?_⟩)
  (refine aI rfl rfl ?_; intro b3; refine ⟨okF, ?_⟩)
  (refine aI rfl rfl ?_; intro b4; refine ⟨okF, ?_⟩)
  repeat' (first | refine aV ?_ | refine aM rfl (fun h => ?_) (fun h => ?_) | refine aN rfl rfl (fun h => ?_) (fun h => ?_) | fail)
  (repeat refine aG ?_); refine bG 2 [0, 2, 1, 3, 4, 5] [1, 2, 0, 0, 0, 0] mixed (by kernel_rfl) ?_
  repeat' (first | refine aV ?_ | refine aM rfl (fun h => ?_) (fun h => ?_) | refine aN rfl rfl (fun h => ?_) (fun h => ?_) | fail)
  (refine aA rfl (hV1 _ _ aB) rfl rfl ?_; rintro _ _ _ ⟨rfl, q3, c3, rfl, hc3, rfl⟩; refine ⟨okF, ?_⟩)
  repeat' (first | refine aV ?_ | refine aM rfl (fun h => ?_) (fun h => ?_) | refine aN rfl rfl (fun h => ?_) (fun h => ?_) | fail)
  (refine aA rfl (hV2 _ _ aB) rfl rfl ?_; rintro _ _ _ ⟨rfl, q4, c4, rfl, hc4, rfl⟩; refine ⟨okF, ?_⟩)
  repeat' (first | refine aV ?_ | refine aM rfl (fun h => ?_) (fun h => ?_) | refine aN rfl rfl (fun h => ?_) (fun h => ?_) | fail)
  (refine aA rfl (hO q3 q4 c3 c4 hc3 _ _ aB aB) rfl rfl ?_; rintro _ _ _ ⟨rfl, p1, c1, p2, c2, ho1, ho2, rfl, rfl⟩; refine ⟨okF, ?_⟩)
  repeat' (first | refine aV ?_ | refine aM rfl (fun h => ?_) (fun h => ?_) | refine aN rfl rfl (fun h => ?_) (fun h => ?_) | fail)
  (refine aA rfl (hMd p1 c1 ho1 _ _ aB) rfl rfl ?_; rintro _ _ _ ⟨rfl, rfl⟩; refine ⟨okF, ?_⟩; refine aW (List.Mem.head _) (fun q5 c5 e__ hc5 hz5 => ?_); subst e__)
  unfold iv
  repeat' (first | refine aV ?_ | refine aM rfl (fun h => ?_) (fun h => ?_) | refine aN rfl rfl (fun h => ?_) (fun h => ?_) | fail)
  (refine aI rfl rfl ?_; intro b5; refine ⟨okF, ?_⟩)
  repeat' (first | refine aV ?_ | refine aM rfl (fun h => ?_) (fun h => ?_) | refine aN rfl rfl (fun h => ?_) (fun h => ?_) | fail)
  (repeat refine aG ?_); refine bG 2 [0, 1, 2, 3] [1, 0, 0, 0] mixed (by kernel_rfl) ?_
  repeat' (first | refine aV ?_ | refine aM rfl (fun h => ?_) (fun h => ?_) | refine aN rfl rfl (fun h => ?_) (fun h => ?_) | fail)
  (refine aA rfl (aPJ (x := 1) (by decide)) rfl rfl ?_; rintro _ _ _ ⟨rfl, rfl⟩; refine ⟨okF, ?_⟩; refine aW (List.Mem.head _) (fun q6 c6 e__ hc6 hz6 => ?_); subst e__)
  unfold iv
  refine nA (k2 := 0) (z := 1) (List.Mem.tail _ (List.Mem.head _)) (by decide) ?_
  (refine aA rfl (hSo _ _ _ _ aB aB) rfl rfl ?_; rintro _ _ _ ⟨rfl, rfl⟩; refine ⟨okF, ?_⟩; refine aW (List.Mem.head _) (fun q7 c7 e__ hc7 hz7 => ?_); subst e__)
  unfold iv
  refine nA (k2 := k) (z := fd) (List.Mem.tail _ (List.Mem.head _)) hfl ?_
  repeat' (first | refine aV ?_ | refine aM rfl (fun h => ?_) (fun h => ?_) | refine aN rfl rfl (fun h => ?_) (fun h => ?_) | fail)
  (repeat refine aG ?_); refine bZ (.blk b5 [.bool (B (fd < 0)), .slice q7 (gr fd.natAbs).length c7] 48 :: .blk b2 [.bool (B (z < 0)), .slice q4 (gr z.natAbs).length c4] 48 :: .blk b [.bool (B (y < 0)), .slice q3 (gr y.natAbs).length c3] 48 :: M0) (iI (.agg #[.bool (B (fd < 0)), .slice q7 (gr fd.natAbs).length c7]) fd k :: I0) [0, 1, 2, 3, 4, 5, 6, 7, 8] [2, 2, 2, 2, 0, 0, 0, 0, 0] aD aC mixed (by kernel_rfl) ?_
  repeat' (first | refine aV ?_ | refine aM rfl (fun h => ?_) (fun h => ?_) | refine aN rfl rfl (fun h => ?_) (fun h => ?_) | fail)
  refine uR (q := q3) (c := c3) (z := y) (k := k) aB hc3 hy ?_
  refine uR (q := q4) (c := c4) (z := z) (k := m) aB hc4 hz ?_
  unfold iv
  (refine aA rfl (hMu _ _ _ _ aB aB) rfl rfl ?_; rintro _ _ _ ⟨rfl, rfl⟩; refine ⟨okF, ?_⟩; refine aW (List.Mem.head _) (fun q8 c8 e__ hc8 hz8 => ?_); subst e__)
  unfold iv
  (refine aA rfl (hSb _ _ _ _ aB aB) rfl rfl ?_; rintro _ _ _ ⟨rfl, rfl⟩; refine ⟨okF, ?_⟩; refine aW (List.Mem.head _) (fun q9 c9 e__ hc9 hz9 => ?_); subst e__)
  unfold iv
  refine nA (k2 := m) (z := fm) (List.Mem.tail _ (List.Mem.head _)) hml ?_
  repeat' (first | refine aV ?_ | refine aM rfl (fun h => ?_) (fun h => ?_) | refine aN rfl rfl (fun h => ?_) (fun h => ?_) | fail)
  refine fO (rs := [.cell 4 48, .cell 5 48, .tmp 6]) (.inl rfl) rfl (.cellN inferInstance rfl aB rfl (.cellN inferInstance rfl aB rfl (.tmp rfl .nil))) rfl M0 (iI (.agg #[.bool (B (fm < 0)), .slice q9 (gr fm.natAbs).length c9]) fm m :: iI (.agg #[.bool (B (fd < 0)), .slice q7 (gr fd.natAbs).length c7]) fd k :: I0) aD aC ⟨rfl, _, _, rfl, rfl⟩
 ·have hA' : (y < 0 ↔ z < 0) ∨ y.natAbs % z.natAbs = 0 := by
   rcases Classical.em (y < 0 ↔ z < 0) with h | h
   ·exact .inl h
   ·exact .inr (hr0.1 (Classical.byContradiction fun h' => hA ⟨h, h'⟩))
  have e1 := hdv.1 hA'
  subst e1
  clear hdv hr0 hqb hSo
  obtain ⟨fd, hfd⟩ : ∃ s, s = y.fdiv z := ⟨_, rfl⟩
  obtain ⟨fm, hfm⟩ : ∃ s, s = y.fmod z := ⟨_, rfl⟩
  obtain ⟨Q, hQ⟩ : ∃ s, s = y.natAbs / z.natAbs := ⟨_, rfl⟩
  obtain ⟨R, hR⟩ : ∃ s, s = y.natAbs % z.natAbs := ⟨_, rfl⟩
  rw [← hfd] at hMu hSb hMd hfl ⊢
  rw [← hfm] at hSb hml ⊢
  rw [← hQ] at hO hMd hlq
  rw [← hR] at hO hA hA'
  clear hfd hfm hQ hR hA'
  refine aX Tryz.func169 rfl Tryz.ntmps169 rfl ?_
  refine aG ?_
  refine aJ ?_
  (refine aR rfl rfl rfl ?_; intro b; refine ⟨okF, ?_⟩)
  (refine aR rfl rfl rfl ?_; intro b2; refine ⟨okF, ?_⟩)
  (refine aI rfl rfl ?_; intro b3; refine ⟨okF, ?_⟩)
  (refine aI rfl rfl ?_; intro b4; refine ⟨okF, ?_⟩)
  repeat' (first | refine aV ?_ | refine aM rfl (fun h => ?_) (fun h => ?_) | refine aN rfl rfl (fun h => ?_) (fun h => ?_) | fail)
  (repeat refine aG ?_); refine bG 2 [0, 2, 1, 3, 4, 5] [1, 2, 0, 0, 0, 0] mixed (by kernel_rfl) ?_
  repeat' (first | refine aV ?_ | refine aM rfl (fun h => ?_) (fun h => ?_) | refine aN rfl rfl (fun h => ?_) (fun h => ?_) | fail)
  (refine aA rfl (hV1 _ _ aB) rfl rfl ?_; rintro _ _ _ ⟨rfl, q3, c3, rfl, hc3, rfl⟩; refine ⟨okF, ?_⟩)
  repeat' (first | refine aV ?_ | refine aM rfl (fun h => ?_) (fun h => ?_) | refine aN rfl rfl (fun h => ?_) (fun h => ?_) | fail)
  (refine aA rfl (hV2 _ _ aB) rfl rfl ?_; rintro _ _ _ ⟨rfl, q4, c4, rfl, hc4, rfl⟩; refine ⟨okF, ?_⟩)
  repeat' (first | refine aV ?_ | refine aM rfl (fun h => ?_) (fun h => ?_) | refine aN rfl rfl (fun h => ?_) (fun h => ?_) | fail)
  (refine aA rfl (hO q3 q4 c3 c4 hc3 _ _ aB aB) rfl rfl ?_; rintro _ _ _ ⟨rfl, p1, c1, p2, c2, ho1, ho2, rfl, rfl⟩; refine ⟨okF, ?_⟩)
  repeat' (first | refine aV ?_ | refine aM rfl (fun h => ?_) (fun h => ?_) | refine aN rfl rfl (fun h => ?_) (fun h => ?_) | fail)
  (refine aA rfl (hMd p1 c1 ho1 _ _ aB) rfl rfl ?_; rintro _ _ _ ⟨rfl, rfl⟩; refine ⟨okF, ?_⟩; refine aW (List.Mem.head _) (fun q5 c5 e__ hc5 hz5 => ?_); subst e__)
  unfold iv
  repeat' (first | refine aV ?_ | refine aM rfl (fun h => ?_) (fun h => ?_) | refine aN rfl rfl (fun h => ?_) (fun h => ?_) | fail)
  (refine aI rfl rfl ?_; intro b5; refine ⟨okF, ?_⟩)
  repeat' (first | refine aV ?_ | refine aM rfl (fun h => ?_) (fun h => ?_) | refine aN rfl rfl (fun h => ?_) (fun h => ?_) | fail)
  all_goals
   ((repeat refine aG ?_); refine bZ (.blk b5 [.bool (B (fd < 0)), .slice q5 (gr fd.natAbs).length c5] 48 :: .blk b2 [.bool (B (z < 0)), .slice q4 (gr z.natAbs).length c4] 48 :: .blk b [.bool (B (y < 0)), .slice q3 (gr y.natAbs).length c3] 48 :: M0) (iI (.agg #[.bool (B (fd < 0)), .slice q5 (gr fd.natAbs).length c5]) fd k :: I0) [0, 1, 2, 3, 4, 5, 6, 7, 8] [2, 2, 2, 2, 0, 0, 0, 0, 0] aD aC mixed (by kernel_rfl) ?_)
   repeat' (first | refine aV ?_ | refine aM rfl (fun h => ?_) (fun h => ?_) | refine aN rfl rfl (fun h => ?_) (fun h => ?_) | fail)
   refine uR (q := q3) (c := c3) (z := y) (k := k) aB hc3 hy ?_
   refine uR (q := q4) (c := c4) (z := z) (k := m) aB hc4 hz ?_
   unfold iv
   (refine aA rfl (hMu _ _ _ _ aB aB) rfl rfl ?_; rintro _ _ _ ⟨rfl, rfl⟩; refine ⟨okF, ?_⟩; refine aW (List.Mem.head _) (fun q8 c8 e__ hc8 hz8 => ?_); subst e__)
   unfold iv
   (refine aA rfl (hSb _ _ _ _ aB aB) rfl rfl ?_; rintro _ _ _ ⟨rfl, rfl⟩; refine ⟨okF, ?_⟩; refine aW (List.Mem.head _) (fun q9 c9 e__ hc9 hz9 => ?_); subst e__)
   unfold iv
   refine nA (k2 := m) (z := fm) (List.Mem.tail _ (List.Mem.head _)) hml ?_
   repeat' (first | refine aV ?_ | refine aM rfl (fun h => ?_) (fun h => ?_) | refine aN rfl rfl (fun h => ?_) (fun h => ?_) | fail)
   refine fO (rs := [.cell 4 48, .cell 5 48, .tmp 6]) (.inl rfl) rfl (.cellN inferInstance rfl aB rfl (.cellN inferInstance rfl aB rfl (.tmp rfl .nil))) rfl M0 (iI (.agg #[.bool (B (fm < 0)), .slice q9 (gr fm.natAbs).length c9]) fm m :: iI (.agg #[.bool (B (fd < 0)), .slice q5 (gr fd.natAbs).length c5]) fd k :: I0) aD aC ⟨rfl, _, _, rfl, rfl⟩
end
end Go.Proofs.YtjbhdfpjnjedhaaGreat
namespace Go.Proofs.YtjbhdfpjnjedhaaGreat
open Go Go.Fx
section
variable {X : List Nat} {w0 : World} {M0 : List Ent} {I0 : List aY}
theorem tK {u v : Value} {n d : Int} {k : Nat} (hk : k ≤ 150000000000) (hd0 : d ≠ 0) (hu : iI u n k ∈ I0) (hv : iI v d k ∈ I0) :
  CD Tryz.prog 129 [u, v] X w0 M0 I0 (RQ (Rat.divInt n d) k M0 I0) := by
 have hS := fun M0 I0 => qU (X := X) (w0 := w0) (M0 := M0) (I0 := I0) (u := v) (z := d) (k := k) (by omega)
 refine dE hu (fun q cq e hc hy => ?_)
 subst e
 refine dE (List.Mem.tail _ hv) (fun q' cq' e hc' hz => ?_)
 subst e
 obtain ⟨r, hr⟩ : ∃ r, r = Rat.divInt n d := ⟨_, rfl⟩
 obtain ⟨g0, hg0⟩ : ∃ g : Int, g = (Int.gcd n d : Int) := ⟨_, rfl⟩
 obtain ⟨g, hg⟩ : ∃ g : Int, g = if d < 0 then -g0 else g0 := ⟨_, rfl⟩
 obtain ⟨e1, e2, e3⟩ := aJK (n := n) (d := d) (g := g) hd0 (by rw [hg, hg0])
 rw [← hr] at e1 e2 ⊢
 have hD1 := fun u v M0 I0 h1 h2 => aCE (X := X) (w0 := w0) (M0 := M0) (I0 := I0) (u := u) (v := v) (y := n) (z := g) (k := k) (m := k + k) (by omega) (by omega) e3 h1 h2
 have hD2 := fun u v M0 I0 h1 h2 => aCE (X := X) (w0 := w0) (M0 := M0) (I0 := I0) (u := u) (v := v) (y := d) (z := g) (k := k) (m := k + k) (by omega) (by omega) e3 h1 h2
 rw [e1] at hD1
 rw [e2] at hD2
 obtain ⟨f1, hf1⟩ : ∃ f : Int, f = n.fmod g := ⟨_, rfl⟩
 obtain ⟨f2, hf2⟩ : ∃ f : Int, f = d.fmod g := ⟨_, rfl⟩
 rw [← hf1] at hD1
 rw [← hf2] at hD2
 have hN := fun u M0 I0 => aER (X := X) (w0 := w0) (M0 := M0) (I0 := I0) (u := u) (z := g0) (k := k + k) (by omega)
 have hG := fun u v M0 I0 => aEY (X := X) (w0 := w0) (M0 := M0) (I0 := I0) (u := u) (v := v) (y := n) (z := d) (k0 := k) (m := k) (by omega) (by omega)
 rw [← hg0] at hG
 clear e1 e2 hf1 hf2 hg0 hr
 by_cases hneg : d < 0
 ·have hs : d.sign = -1 := Int.sign_eq_neg_one_of_neg hneg
  rw [hs] at hS
  rw [if_pos hneg] at hg
  rw [← hg] at hN
  clear hg hneg
  unfold iv at *
  refine aX Tryz.func129 rfl Tryz.ntmps129 rfl ?_
  refine aG ?_
  refine aJ ?_
  (refine aR rfl rfl rfl ?_; intro b; refine ⟨okF, ?_⟩)
  (refine aR rfl rfl rfl ?_; intro b2; refine ⟨okF, ?_⟩)
  (refine aI rfl rfl ?_; intro b4; refine ⟨okF, ?_⟩)
  repeat (refine aV ?_)
  (refine aA rfl (hG _ _ _ _ aB aB) rfl rfl ?_; rintro _ _ _ ⟨rfl, rfl⟩; refine ⟨okF, ?_⟩; refine aW (List.Mem.head _) (fun q3 c3 e__ hc3 hz3 => ?_); subst e__)
  unfold iv
  repeat (refine aV ?_)
  (refine aI rfl rfl ?_; intro b5; refine ⟨okF, ?_⟩)
  repeat (refine aV ?_)
  (refine aA rfl (hS _ _ aB) rfl rfl ?_; rintro _ _ _ ⟨rfl, rfl, rfl⟩; refine ⟨okF, ?_⟩)
  repeat (refine aV ?_)
  (refine aA rfl (hN _ _ _ aB) rfl rfl ?_; rintro _ _ _ ⟨rfl, rfl⟩; refine ⟨okF, ?_⟩; refine aW (List.Mem.head _) (fun q6 c6 e__ hc6 hz6 => ?_); subst e__)
  unfold iv
  repeat (refine aV ?_)
  (refine aA rfl (hD1 _ _ _ _ aB aB) rfl rfl ?_; rintro _ _ _ ⟨rfl, v1, v2, rfl, rfl⟩; refine ⟨okF, ?_⟩)
  refine aW (u := v1) aB (fun q7 c7 e7 hc7 hz7 => ?_)
  subst e7
  refine aW (u := v2) aB (fun q8 c8 e8 hc8 hz8 => ?_)
  subst e8
  unfold iv
  repeat (refine aV ?_)
  (refine aI rfl rfl ?_; intro b6; refine ⟨okF, ?_⟩)
  (refine aI rfl rfl ?_; intro b7; refine ⟨okF, ?_⟩)
  repeat (refine aV ?_)
  (refine aA rfl (hD2 _ _ _ _ aB aB) rfl rfl ?_; rintro _ _ _ ⟨rfl, v3, v4, rfl, rfl⟩; refine ⟨okF, ?_⟩)
  refine aW (u := v3) aB (fun q9 c9 e9 hc9 hz9 => ?_)
  subst e9
  refine aW (u := v4) aB (fun q10 c10 e10 hc10 hz10 => ?_)
  subst e10
  unfold iv
  repeat (refine aV ?_)
  (refine aI rfl rfl ?_; intro b8; refine ⟨okF, ?_⟩)
  (refine aI rfl rfl ?_; intro b9; refine ⟨okF, ?_⟩)
  repeat (refine aV ?_)
  (refine aF rfl (fun _ => bA (pvs := ([vI q7 c7 r.num, vI q9 c9 r.den]).zipIdx.map (fun p => (p.2, p.1))) (cells := eR ⟨r, q7, c7, q9, c9⟩) rfl rfl) rfl rfl ?_)
  repeat (refine aV ?_)
  refine lZ (q := r) (k := k) (p1 := q7) (c1 := c7) (p2 := q9) (c2 := c9) aB aB (Nat.le_refl _) (Nat.le_refl _) ?_
  refine bD (cs := eR ⟨r, q7, c7, q9, c9⟩) (.inl rfl) rfl rfl aB rfl M0 (bS ⟨r, q7, c7, q9, c9⟩ k :: I0) aD aC ⟨rfl, ⟨r, q7, c7, q9, c9⟩, rfl, rfl, rfl⟩
 ·have hs : d.sign = 1 := Int.sign_eq_one_of_pos (by omega)
  rw [hs] at hS
  rw [if_neg hneg] at hg
  rw [← hg] at hG
  clear hg hneg hN
  unfold iv at *
  refine aX Tryz.func129 rfl Tryz.ntmps129 rfl ?_
  refine aG ?_
  refine aJ ?_
  (refine aR rfl rfl rfl ?_; intro b; refine ⟨okF, ?_⟩)
  (refine aR rfl rfl rfl ?_; intro b2; refine ⟨okF, ?_⟩)
  (refine aI rfl rfl ?_; intro b4; refine ⟨okF, ?_⟩)
  repeat (refine aV ?_)
  (refine aA rfl (hG _ _ _ _ aB aB) rfl rfl ?_; rintro _ _ _ ⟨rfl, rfl⟩; refine ⟨okF, ?_⟩; refine aW (List.Mem.head _) (fun q3 c3 e__ hc3 hz3 => ?_); subst e__)
  unfold iv
  repeat (refine aV ?_)
  (refine aI rfl rfl ?_; intro b5; refine ⟨okF, ?_⟩)
  repeat (refine aV ?_)
  (refine aA rfl (hS _ _ aB) rfl rfl ?_; rintro _ _ _ ⟨rfl, rfl, rfl⟩; refine ⟨okF, ?_⟩)
  repeat (refine aV ?_)
  (refine aA rfl (hD1 _ _ _ _ aB aB) rfl rfl ?_; rintro _ _ _ ⟨rfl, v1, v2, rfl, rfl⟩; refine ⟨okF, ?_⟩)
  refine aW (u := v1) aB (fun q7 c7 e7 hc7 hz7 => ?_)
  subst e7
  refine aW (u := v2) aB (fun q8 c8 e8 hc8 hz8 => ?_)
  subst e8
  unfold iv
  repeat (refine aV ?_)
  (refine aI rfl rfl ?_; intro b6; refine ⟨okF, ?_⟩)
  (refine aI rfl rfl ?_; intro b7; refine ⟨okF, ?_⟩)
  repeat (refine aV ?_)
  (refine aA rfl (hD2 _ _ _ _ aB aB) rfl rfl ?_; rintro _ _ _ ⟨rfl, v3, v4, rfl, rfl⟩; refine ⟨okF, ?_⟩)
  refine aW (u := v3) aB (fun q9 c9 e9 hc9 hz9 => ?_)
  subst e9
  refine aW (u := v4) aB (fun q10 c10 e10 hc10 hz10 => ?_)
  subst e10
  unfold iv
  repeat (refine aV ?_)
  (refine aI rfl rfl ?_; intro b8; refine ⟨okF, ?_⟩)
  (refine aI rfl rfl ?_; intro b9; refine ⟨okF, ?_⟩)
  repeat (refine aV ?_)
  (refine aF rfl (fun _ => bA (pvs := ([vI q7 c7 r.num, vI q9 c9 r.den]).zipIdx.map (fun p => (p.2, p.1))) (cells := eR ⟨r, q7, c7, q9, c9⟩) rfl rfl) rfl rfl ?_)
  repeat (refine aV ?_)
  refine lZ (q := r) (k := k) (p1 := q7) (c1 := c7) (p2 := q9) (c2 := c9) aB aB (Nat.le_refl _) (Nat.le_refl _) ?_
  refine bD (cs := eR ⟨r, q7, c7, q9, c9⟩) (.inl rfl) rfl rfl aB rfl M0 (bS ⟨r, q7, c7, q9, c9⟩ k :: I0) aD aC ⟨rfl, ⟨r, q7, c7, q9, c9⟩, rfl, rfl, rfl⟩
theorem uF {x : Int} (hx : -9223372036854775808 ≤ x ∧ x ≤ 9223372036854775807) : CD Tryz.prog 113 [.int .i64 x] X w0 M0 I0 (fun v M I => M0 = M ∧ I = iI v x 63 :: I0) := by
 refine aZ Tryz.func113 rfl Tryz.ntmps113 rfl ?_
 refine aG ?_
 refine aJ ?_
 (refine aI rfl rfl ?_; intro b2; refine ⟨okF, ?_⟩)
 repeat (refine aV ?_)
 (refine aA rfl (aPJ hx) rfl rfl ?_; rintro _ _ _ ⟨rfl, rfl⟩; refine ⟨okF, ?_⟩; refine aW (List.Mem.head _) (fun q3 c3 e__ hc3 hz3 => ?_); subst e__)
 unfold iv
 repeat (refine aV ?_)
 refine bD (cs := [.bool (B (x < 0)), .slice q3 (gr x.natAbs).length c3]) (.inl rfl) rfl rfl aB rfl _ _ aD aC ⟨rfl, rfl⟩
theorem wH {u : Value} {z : Int} {k : Nat} (hk : k ≤ 1000000000000) (hu : iI u z k ∈ I0) :
  CD Tryz.prog 110 [u] X w0 M0 I0 (fun v M I => M0 = M ∧ I0 = I ∧ v = .bool true) := by
 refine CD.post (K := fun v M I => M0 = M ∧ (∃ q, aO q (recs eG (gr z.natAbs)) :: I0 = I) ∧ v = .bool true) (dE hu (fun q c e hc hz => ?_)) (fun v M I w h hw => ?_)
 case refine_2 =>
  obtain ⟨e1, ⟨q, e2⟩, e3⟩ := h
  subst e1; subst e2
  exact ⟨_, _, ⟨rfl, rfl, e3⟩, hw.inc (Inc.wk Inc.refl)⟩
 subst e
 have hl := gF hz hk
 refine (qY (neg := B (z < 0)) (gs := gr z.natAbs) (by omega) (List.Mem.head _)).mono (fun v M I h => ⟨h.1, ⟨q, h.2.1⟩, ?_⟩)
 rw [h.2.2]
 exact congrArg Value.bool (bJ (xH z))
theorem vT {e : RE} {k : Nat} (hk : k ≤ 100000000000) (he : Hv I0 (bS e k)) :
  CD Tryz.prog 67 [rv e] X w0 M0 I0 (fun v M I => M0 = M ∧ I0 = I ∧ v = .bool true) := by
 refine CD.post (K := fun v M I => M0 = M ∧ iI (vI e.p1 e.c1 e.q.num) e.q.num k :: iI (vI e.p2 e.c2 e.q.den) e.q.den k :: I0 = I ∧ v = .bool true) (aAM he ?_) (fun v M I w h hw => ?_)
 case refine_2 =>
  obtain ⟨e1, e2, e3⟩ := h
  subst e1; subst e2
  exact ⟨_, _, ⟨rfl, rfl, e3⟩, hw.inc (Inc.wk (Inc.wk Inc.refl))⟩
 have hV1 := fun M0 I0 h => wH (X := X) (w0 := w0) (M0 := M0) (I0 := I0) (u := vI e.p1 e.c1 e.q.num) (z := e.q.num) (k := k) (by omega) h
 have hV2 := fun M0 I0 h => wH (X := X) (w0 := w0) (M0 := M0) (I0 := I0) (u := vI e.p2 e.c2 e.q.den) (z := e.q.den) (k := k) (by omega) h
 have hS := fun M0 I0 => qU (X := X) (w0 := w0) (M0 := M0) (I0 := I0) (u := vI e.p2 e.c2 e.q.den) (z := e.q.den) (k := k) (by omega)
 have hs : ((e.q.den : Int)).sign = 1 := Int.sign_eq_one_of_pos (by have := e.q.den_nz; omega)
 rw [hs] at hS
 have hG := fun M0 I0 => aEY (X := X) (w0 := w0) (M0 := M0) (I0 := I0) (u := vI e.p1 e.c1 e.q.num) (v := vI e.p2 e.c2 e.q.den) (y := e.q.num) (z := e.q.den) (k0 := k) (m := k) (by omega) (by omega)
 rw [aJO] at hG
 have hC := fun u v M0 I0 => yJ (X := X) (w0 := w0) (M0 := M0) (I0 := I0) (u := u) (v := v) (y := 1) (z := 1) (k := k + k) (m := 63) (by omega) (by omega)
 have hc : fP 1 1 = 0 := by decide
 rw [hc] at hC
 refine aZ Tryz.func67 rfl Tryz.ntmps67 rfl ?_
 refine aG ?_
 refine aJ ?_
 (refine aR rfl rfl rfl ?_; intro b; refine ⟨okF, ?_⟩)
 repeat (refine aV ?_)
 (refine aA rfl (hV1 _ _ aB) rfl rfl ?_; rintro _ _ _ ⟨rfl, rfl, rfl⟩; refine ⟨okF, ?_⟩)
 repeat (refine aV ?_)
 (refine aA rfl (hV2 _ _ aB) rfl rfl ?_; rintro _ _ _ ⟨rfl, rfl, rfl⟩; refine ⟨okF, ?_⟩)
 repeat (refine aV ?_)
 (refine aA rfl (hS _ _ aB) rfl rfl ?_; rintro _ _ _ ⟨rfl, rfl, rfl⟩; refine ⟨okF, ?_⟩)
 repeat (refine aV ?_)
 (refine aA rfl (hG _ _ aB aB) rfl rfl ?_; rintro _ _ _ ⟨rfl, rfl⟩; refine ⟨okF, ?_⟩)
 repeat (refine aV ?_)
 (refine aA rfl (uF (x := 1) (by decide)) rfl rfl ?_; rintro _ _ _ ⟨rfl, rfl⟩; refine ⟨okF, ?_⟩)
 (refine aA rfl (hC _ _ _ _ aB aB) rfl rfl ?_; rintro _ _ _ ⟨rfl, rfl, rfl⟩; refine ⟨okF, ?_⟩)
 repeat (refine aV ?_)
 refine aH (by first | exact .inl rfl | exact .inr rfl) rfl rfl _ _ aD aC (⟨rfl, rfl, congrArg Value.bool (bJ (by decide))⟩)
theorem lI {e : RE} {k : Nat} (hk : k ≤ 100000000000) (he : Hv I0 (bS e k)) :
  CD Tryz.prog 101 [rv e] X w0 M0 I0 (fun v M I => M0 = M ∧ I0 = I ∧ v = rv e) := by
 refine aZ Tryz.func101 rfl Tryz.ntmps101 rfl ?_
 refine aG ?_
 refine aJ ?_
 (refine aR rfl rfl rfl ?_; intro b; refine ⟨okF, ?_⟩)
 (refine aI rfl rfl ?_; intro b2; refine ⟨okF, ?_⟩)
 repeat (refine aV ?_)
 (refine aA rfl (vT hk he) rfl rfl ?_; rintro _ _ _ ⟨rfl, rfl, rfl⟩; refine ⟨okF, ?_⟩)
 repeat (refine aV ?_)
 refine bD (cs := eR e) (.inl rfl) rfl rfl aB rfl M0 I0 aD aC ⟨rfl, rfl, rfl⟩
theorem sS {x : Int} (hx : -9223372036854775808 ≤ x ∧ x ≤ 9223372036854775807) {k : Nat} (hk : x.natAbs ≤ 2 ^ k) :
  CD Tryz.prog 109 [.int .i64 x] X w0 M0 I0 (RQ (x : Rat) k M0 I0) := by
 have hn : ((x : Rat)).num = x := Rat.num_intCast x
 have hd : (((x : Rat)).den : Int) = 1 := by rw [Rat.den_intCast]; rfl
 have h1 : (1 : Int).natAbs ≤ 2 ^ k := Nat.one_le_two_pow
 obtain ⟨q, hq⟩ : ∃ q : Rat, q = (x : Rat) := ⟨_, rfl⟩
 rw [← hq] at hn hd ⊢
 refine aZ Tryz.func109 rfl Tryz.ntmps109 rfl ?_
 refine aG ?_
 refine aJ ?_
 (refine aI rfl rfl ?_; intro b2; refine ⟨okF, ?_⟩)
 repeat (refine aV ?_)
 (refine aA rfl (uF hx) rfl rfl ?_; rintro _ _ _ ⟨rfl, rfl⟩; refine ⟨okF, ?_⟩; refine aW (List.Mem.head _) (fun q3 c3 e__ hc3 hz3 => ?_); subst e__)
 unfold iv
 refine nA (k2 := k) (z := x) (List.Mem.tail _ (List.Mem.head _)) hk ?_
 (refine aA rfl (uF (x := 1) (by decide)) rfl rfl ?_; rintro _ _ _ ⟨rfl, rfl⟩; refine ⟨okF, ?_⟩; refine aW (List.Mem.head _) (fun q4 c4 e__ hc4 hz4 => ?_); subst e__)
 unfold iv
 refine nA (k2 := k) (z := 1) (List.Mem.tail _ (List.Mem.head _)) h1 ?_
 rw [← hn, ← hd]
 (refine aF rfl (fun _ => bA (pvs := ([vI q3 c3 q.num, vI q4 c4 q.den]).zipIdx.map (fun p => (p.2, p.1))) (cells := eR ⟨q, q3, c3, q4, c4⟩) rfl rfl) rfl rfl ?_)
 repeat (refine aV ?_)
 refine lZ (q := q) (k := k) (p1 := q3) (c1 := c3) (p2 := q4) (c2 := c4) aB aB (Nat.le_refl _) (Nat.le_refl _) ?_
 refine bD (cs := eR ⟨q, q3, c3, q4, c4⟩) (.inl rfl) rfl rfl aB rfl M0 (bS ⟨q, q3, c3, q4, c4⟩ k :: I0) aD aC ⟨rfl, ⟨q, q3, c3, q4, c4⟩, rfl, rfl, rfl⟩
theorem uG {e : RE} {k : Nat} (hk : k ≤ 100000000000) (he : Hv I0 (bS e k)) :
  CD Tryz.prog 59 [rv e] X w0 M0 I0 (fun v M I => M0 = M ∧ I0 = I ∧ v = .int .i64 e.q.num.sign) := by
 refine aZ Tryz.func59 rfl Tryz.ntmps59 rfl ?_
 refine aG ?_
 refine aJ ?_
 (refine aR rfl rfl rfl ?_; intro b; refine ⟨okF, ?_⟩)
 repeat (refine aV ?_)
 (refine aA rfl (lI hk he) rfl rfl ?_; rintro _ _ _ ⟨rfl, rfl, rfl⟩; refine ⟨okF, ?_⟩)
 refine aF rfl (fun _ => bI rfl) rfl rfl ?_
 refine iH (e := e) (k := k) he ?_
 (refine aA rfl (qU (z := e.q.num) (k := k) (by omega) aB) rfl rfl ?_; rintro _ _ _ ⟨rfl, rfl, rfl⟩; refine ⟨okF, ?_⟩)
 repeat (refine aV ?_)
 refine aH (by first | exact .inl rfl | exact .inr rfl) rfl rfl _ _ aD aC (⟨rfl, rfl, rfl⟩)
theorem aBE {e : RE} {k : Nat} (hk : k ≤ 100000000000) (he : Hv I0 (bS e k)) :
  CD Tryz.prog 80 [rv e] X w0 M0 I0 (RQ (-e.q) k M0 I0) := by
 have hN := fun M0 I0 => aER (X := X) (w0 := w0) (M0 := M0) (I0 := I0) (u := vI e.p1 e.c1 e.q.num) (z := e.q.num) (k := k) (by omega)
 rw [← Rat.neg_num] at hN
 have hd : ((e.q.den : Int)) = ((-e.q).den : Int) := by rw [Rat.neg_den]
 refine aZ Tryz.func80 rfl Tryz.ntmps80 rfl ?_
 refine aG ?_
 refine aJ ?_
 (refine aR rfl rfl rfl ?_; intro b; refine ⟨okF, ?_⟩)
 (refine aI rfl rfl ?_; intro b2; refine ⟨okF, ?_⟩)
 repeat (refine aV ?_)
 (refine aA rfl (lI hk he) rfl rfl ?_; rintro _ _ _ ⟨rfl, rfl, rfl⟩; refine ⟨okF, ?_⟩)
 refine iH (e := e) (k := k) he ?_
 (refine aI rfl rfl ?_; intro b3; refine ⟨okF, ?_⟩)
 repeat (refine aV ?_)
 (repeat refine aG ?_); refine bG 1 [0, 1, 3, 4, 2, 5, 6] [1, 0, 1, 1, 0, 0, 0] mixed (by kernel_rfl) ?_
 repeat (refine aV ?_)
 (refine aA rfl (hN _ _ aB) rfl rfl ?_; rintro _ _ _ ⟨rfl, rfl⟩; refine ⟨okF, ?_⟩; refine aW (List.Mem.head _) (fun q3 c3 e__ hc3 hz3 => ?_); subst e__)
 unfold iv
 rw [hd]
 (refine aF rfl (fun _ => bA (pvs := ([vI q3 c3 (-e.q).num, vI e.p2 e.c2 (-e.q).den]).zipIdx.map (fun p => (p.2, p.1))) (cells := eR ⟨-e.q, q3, c3, e.p2, e.c2⟩) rfl rfl) rfl rfl ?_)
 repeat (refine aV ?_)
 refine lZ (q := -e.q) (k := k) (p1 := q3) (c1 := c3) (p2 := e.p2) (c2 := e.c2) aB aB (Nat.le_refl _) (Nat.le_refl _) ?_
 refine bD (cs := eR ⟨-e.q, q3, c3, e.p2, e.c2⟩) (.inl rfl) rfl rfl aB rfl M0 (bS ⟨-e.q, q3, c3, e.p2, e.c2⟩ k :: I0) aD aC ⟨rfl, ⟨-e.q, q3, c3, e.p2, e.c2⟩, rfl, rfl, rfl⟩
end
end Go.Proofs.YtjbhdfpjnjedhaaGreat
