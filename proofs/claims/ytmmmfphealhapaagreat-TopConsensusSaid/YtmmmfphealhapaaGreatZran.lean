/- integer: Of, sum integer: Gcd integer: Compare integer: Of Fractions in memory: records, facts, what follows from facts. -/
import Derived.Test.YtmmmfphealhapaaGreatZram
import Derived.Test.YtmmmfphealhapaaGreatZrak
import Derived.Test.YtmmmfphealhapaaGreatZraf
set_option linter.unusedSimpArgs false
set_option linter.unusedVariables false
set_option maxRecDepth 100000
set_option maxHeartbeats 4000000
namespace Go.Proofs.YtmmmfphealhapaaGreat
open Go Go.Fx
section
variable {X : List Nat} {w0 : World} {M0 : List Ent} {I0 : List bA}
theorem aHK {p q : Prop} [Decidable p] [Decidable q] {m n : Nat} (h : p ↔ q) : sg p (m + n) = sg p m + sg q n := by
 unfold sg
 by_cases hp : p
 ·rw [if_pos hp, if_pos hp, if_pos (h.1 hp)]; omega
 ·rw [if_neg hp, if_neg hp, if_neg (fun hq => hp (h.2 hq))]; omega
theorem xJ {p q : Prop} [Decidable p] [Decidable q] {m n : Nat} (h : ¬ (p ↔ q)) (hle : n ≤ m) : sg p (m - n) = sg p m + sg q n := by
 unfold sg
 by_cases hp : p
 ·rw [if_pos hp, if_pos hp, if_neg (fun hq => h ⟨fun _ => hq, fun _ => hp⟩)]; omega
 ·rw [if_neg hp, if_neg hp, if_pos (by rcases Classical.em q with hq | hq; exact hq; exact absurd ⟨fun h => absurd h hp, fun h => absurd h hq⟩ h)]; omega
theorem aMJ {pn qn : Prop} [Decidable pn] [Decidable qn] {p q : Option Addr} {m n cp cq k : Nat} (hm : (gr m).length ≤ 50000000000) (hn : (gr n).length ≤ 50000000000) (hk : m + n ≤ 2 ^ k) (hk2 : k ≤ 1000000000000) (hp : aX p (recs eG (gr m)) ∈ I0) (hq : aX q (recs eG (gr n)) ∈ I0) :
  CD Tryz.prog 229 [.bool (B pn), .slice p (gr m).length cp, .bool (B qn), .slice q (gr n).length cq] X w0 M0 I0 (fun v M I => M0 = M ∧ I = iC v (sg pn m + sg qn n) k :: I0) := by
 have hC := fun M0 I0 => uR (X := X) (w0 := w0) (M0 := M0) (I0 := I0) (p := p) (q := q) (m := m) (n := n) (cp := cp) (cq := cq) (by omega) (by omega)
 have hP := fun M0 I0 => aGQ (X := X) (w0 := w0) (M0 := M0) (I0 := I0) (p := p) (q := q) (m := m) (n := n) (cp := cp) (cq := cq) (by omega) (by omega)
 have hM := fun M0 I0 (hle : n ≤ m) => yF (X := X) (w0 := w0) (M0 := M0) (I0 := I0) (p := p) (q := q) (m := m) (n := n) (cp := cp) (cq := cq) (by omega) hle
 have hM2 := fun M0 I0 (hle : m ≤ n) => yF (X := X) (w0 := w0) (M0 := M0) (I0 := I0) (p := q) (q := p) (m := n) (n := m) (cp := cq) (cq := cp) (by omega) hle
 have hl1 := fK hk hk2
 refine eY Tryz.func229 rfl Tryz.ntmps229 rfl ?_
 refine aH ?_
 refine aI ?_
 (refine aC rfl rfl ?_; intro b3; refine ⟨jD, ?_⟩)
 by_cases hpq : pn ↔ qn
 ·repeat (refine iX ?_)
  (refine aT rfl (hP _ _ aP aP) rfl rfl ?_; rintro _ _ _ ⟨rfl, q3, c3, rfl, hc3, rfl⟩; refine ⟨jD, ?_⟩)
  rw [← aHK hpq]
  (refine aT rfl (lF (p := pn) (k := k) (by omega) hc3 hk aP) rfl rfl ?_; rintro _ _ _ ⟨rfl, rfl⟩; refine ⟨jD, ?_⟩; refine aU (List.Mem.head _) (fun q2 c2 e__ hc2 hz2 => ?_); subst e__)
  unfold iv
  repeat (refine iX ?_)
  refine bC (cs := [.bool (B (sg pn (m + n) < 0)), .slice q2 (gr (sg pn (m + n)).natAbs).length c2]) (.inl rfl) rfl rfl aP rfl _ _ cZ cK ⟨rfl, rfl⟩
 ·by_cases hge : n ≤ m
  ·have hcv := vX (x := (m : Int)) (y := (n : Int)) (by omega)
   have hk3 : m - n ≤ 2 ^ k := by omega
   have hl3 := fK hk3 hk2
   repeat (refine iX ?_)
   (refine aT rfl (hC _ _ aP aP) rfl rfl ?_; rintro _ _ _ ⟨rfl, rfl, rfl⟩; refine ⟨jD, ?_⟩)
   repeat (refine iX ?_)
   (refine aT rfl (hM _ _ hge aP aP) rfl rfl ?_; rintro _ _ _ ⟨rfl, q3, c3, rfl, hc3, rfl⟩; refine ⟨jD, ?_⟩)
   rw [← xJ hpq hge]
   (refine aT rfl (lF (p := pn) (k := k) (by omega) hc3 hk3 aP) rfl rfl ?_; rintro _ _ _ ⟨rfl, rfl⟩; refine ⟨jD, ?_⟩; refine aU (List.Mem.head _) (fun q2 c2 e__ hc2 hz2 => ?_); subst e__)
   unfold iv
   repeat (refine iX ?_)
   refine bC (cs := [.bool (B (sg pn (m - n) < 0)), .slice q2 (gr (sg pn (m - n)).natAbs).length c2]) (.inl rfl) rfl rfl aP rfl _ _ cZ cK ⟨rfl, rfl⟩
  ·have hcv := vT (x := (m : Int)) (y := (n : Int)) (by omega)
   have hk3 : n - m ≤ 2 ^ k := by omega
   have hl3 := fK hk3 hk2
   have hs : sg pn m + sg qn n = sg qn (n - m) := by rw [Int.add_comm, ← xJ (fun h => hpq h.symm) (by omega)]
   repeat (refine iX ?_)
   (refine aT rfl (hC _ _ aP aP) rfl rfl ?_; rintro _ _ _ ⟨rfl, rfl, rfl⟩; refine ⟨jD, ?_⟩)
   repeat (refine iX ?_)
   (refine aT rfl (hM2 _ _ (by omega) aP aP) rfl rfl ?_; rintro _ _ _ ⟨rfl, q3, c3, rfl, hc3, rfl⟩; refine ⟨jD, ?_⟩)
   rw [hs]
   (refine aT rfl (lF (p := qn) (k := k) (by omega) hc3 hk3 aP) rfl rfl ?_; rintro _ _ _ ⟨rfl, rfl⟩; refine ⟨jD, ?_⟩; refine aU (List.Mem.head _) (fun q2 c2 e__ hc2 hz2 => ?_); subst e__)
   unfold iv
   repeat (refine iX ?_)
   refine bC (cs := [.bool (B (sg qn (n - m) < 0)), .slice q2 (gr (sg qn (n - m)).natAbs).length c2]) (.inl rfl) rfl rfl aP rfl _ _ cZ cK ⟨rfl, rfl⟩
theorem aLQ {u v : Value} {y z : Int} {k m c : Nat} (hk : k ≤ 1000000000000) (hm : m ≤ 1000000000000) (hc0 : c ≤ 1000000000000) (hs : 2 ^ k + 2 ^ m ≤ 2 ^ c) (hu : iC u y k ∈ I0) (hv : iC v z m ∈ I0) : CD Tryz.prog 168 [u, v] X w0 M0 I0 (fun v M I => M0 = M ∧ I = iC v (y + z) c :: I0) := by
 refine cB hu (fun q cq e hc hy => ?_)
 subst e
 refine cB (List.Mem.tail _ hv) (fun q' cq' e hc' hz => ?_)
 subst e
 have hl := fK hy (by omega)
 have hl' := fK hz (by omega)
 unfold iv
 refine eY Tryz.func168 rfl Tryz.ntmps168 rfl ?_
 refine aH ?_
 refine aI ?_
 (refine kG rfl rfl rfl ?_; intro b; refine ⟨jD, ?_⟩)
 (refine kG rfl rfl rfl ?_; intro b2; refine ⟨jD, ?_⟩)
 (refine aC rfl rfl ?_; intro b3; refine ⟨jD, ?_⟩)
 repeat' (first | refine aI ?_ | refine jU ?_ | refine iN ?_ | refine fU ?_ | refine fJ ?_ | refine iI ?_ | refine iB ?_ | refine fT ?_ | refine fP ?_ | refine jY ?_ | refine jR ?_ | refine jS ?_ | refine jX rfl ?_ | refine aL ?_ | (refine gX ?_; first | refine gQ rfl rfl rfl ?_ | (refine gJ rfl rfl ?_; refine fF rfl rfl rfl jD ?_) | refine gT rfl rfl (by omega) ?_ | refine gI rfl rfl (by omega) ?_ | refine pG rfl rfl (fun h => ?_) (fun h => ?_) | (fail_if_success (refine sD rfl ?_); refine nN rfl rfl (fun h => ?_) (fun h => ?_))) | (refine bT ?_; refine aD rfl (fun _ => dL rfl) rfl rfl ?_) | refine aD rfl (fun _ => bH rfl) rfl rfl ?_ | (refine gK ?_; first | refine aD rfl (fun _ => bK rfl rfl w_) rfl rfl ?_ | refine aD rfl (fun _ => bM rfl rfl w_) rfl rfl ?_ | refine aD rfl (fun _ => eQ rfl rfl w_) rfl rfl ?_ | refine aD rfl (fun _ => eO rfl rfl (by omega) q_) rfl rfl ?_ | refine aD rfl (fun _ => eP rfl rfl (by omega) rfl) rfl rfl ?_ | refine aD rfl (fun _ => dK rfl rfl) rfl rfl ?_ | refine aD rfl (fun _ => dX rfl rfl) rfl rfl ?_ | refine aD rfl (fun _ => dY rfl rfl) rfl rfl ?_) | (refine bT ?_; first | refine aD rfl (fun _ => dZ rfl w_) rfl rfl ?_) | (refine gM ?_; first | refine aD rfl (fun _ => dD rfl w_) rfl rfl ?_) | (refine gH ?_; first | refine aD rfl (fun _ => bL rfl) rfl rfl ?_ | refine aD rfl (fun _ => dH rfl rfl) rfl rfl ?_ | refine aD rfl (fun _ => dJ rfl rfl) rfl rfl ?_ | refine aD rfl (fun _ => dI rfl rfl rfl) rfl rfl ?_) | (refine gL ?_; first | refine gP rfl (by decide) rfl rfl ?_ | refine jH rfl (by decide) rfl rfl ?_) | (refine gN ?_; first | refine aD rfl (fun _ => cO rfl) rfl rfl ?_) | (refine gW ?_; first | refine jB rfl rfl iQ rfl rfl ?_ | refine jE kV rfl rfl iQ aP jL rfl rfl ?_ | refine jF kV rfl rfl iQ aP jL rfl rfl ?_ | refine aD rfl (fun _ => bS rfl rfl iQ) rfl rfl ?_) | (refine gV ?_; first | refine jI kV rfl aP nJ rfl rfl ?_ | refine jG kV rfl aP nJ rfl rfl ?_ | refine jC kV rfl aP nJ rfl rfl ?_ | refine fI kV rfl aP nJ rfl rfl ?_ | refine kQ kV rfl aP iG fC rfl rfl ?_ | refine kR kV rfl aP iG fC rfl rfl ?_ | refine kP kV rfl aP iG fC rfl rfl ?_ | refine jM kV rfl aP iG fC rfl rfl ?_) | (refine gU ?_; first | refine aD rfl (fun _ => bR rfl rfl) rfl rfl ?_ | refine aD rfl (fun _ => bJ rfl) rfl rfl ?_) | (refine iH ?_; first | refine lT rfl rfl rfl lW stC rfl rfl ⟨jD, ?_⟩ | refine gF rfl rfl fC qE lW qO rfl rfl ⟨jD, ?_⟩) | (refine iM ?_; first | refine bZ rfl ?_ | refine bQ rfl ?_ | refine jQ rfl (by omega) ?_ | refine lZ rfl (by omega) ?_ | refine rW rfl (fun h => ?_) (fun h => ?_) | refine nU rfl (fun h => ?_) (fun h => ?_)))
 (repeat refine aH ?_); refine dG 3 [0, 1, 2, 4, 5, 6, 3, 7, 8, 9] [3, 2, 2, 3, 2, 2, 0, 0, 0, 0] mixed (by kernel_rfl) ?_
 repeat (refine iX ?_)
 (refine aT rfl (iJ (c := cq) hy (by omega) aP) rfl rfl ?_; rintro _ _ _ ⟨rfl, rfl, rfl⟩; refine ⟨jD, ?_⟩)
 repeat (refine iX ?_)
 (refine aT rfl (iJ (c := cq') hz (by omega) aP) rfl rfl ?_; rintro _ _ _ ⟨rfl, rfl, rfl⟩; refine ⟨jD, ?_⟩)
 repeat (refine iX ?_)
 have hyz : y.natAbs + z.natAbs ≤ 2 ^ c := Nat.le_trans (Nat.add_le_add hy hz) hs
 have hS := fun M0 I0 => aMJ (X := X) (w0 := w0) (M0 := M0) (I0 := I0) (p := q) (q := q') (cp := cq) (cq := cq') (pn := y < 0) (qn := z < 0) (k := c) (by omega) (by omega) hyz hc0
 simp only [nS] at hS
 (refine aT rfl (hS _ _ aP aP) rfl rfl ?_; rintro _ _ _ ⟨rfl, rfl⟩; refine ⟨jD, ?_⟩; refine aU (List.Mem.head _) (fun q2 c2 e__ hc2 hz2 => ?_); subst e__)
 unfold iv
 repeat (refine iX ?_)
 refine bC (cs := [.bool (B (y + z < 0)), .slice q2 (gr (y + z).natAbs).length c2]) (.inl rfl) rfl rfl aP rfl _ _ cZ cK ⟨rfl, rfl⟩
end
end Go.Proofs.YtmmmfphealhapaaGreat
namespace Go.Proofs.YtmmmfphealhapaaGreat
open Go Go.Fx
section
variable {X : List Nat} {w0 : World} {M0 : List Ent} {I0 : List bA}
theorem aFS {u v : Value} {y z : Int} {k0 m : Nat} (hk : k0 ≤ 500000000000) (hm : m ≤ 500000000000) (hu : iC u y k0 ∈ I0) (hv : iC v z m ∈ I0) : CD Tryz.prog 122 [u, v] X w0 M0 I0 (fun v M I => M0 = M ∧ I = iC v (Int.gcd y z) (k0 + m) :: I0) := by
 refine cB hu (fun q cq e hc hy => ?_)
 subst e
 refine cB (List.Mem.tail _ hv) (fun q' cq' e hc' hz => ?_)
 subst e
 have hy2 : y.natAbs ≤ 2 ^ (k0 + m) := Nat.le_trans hy (Nat.pow_le_pow_right (by decide) (by omega))
 have hz2 : z.natAbs ≤ 2 ^ (k0 + m) := Nat.le_trans hz (Nat.pow_le_pow_right (by decide) (by omega))
 unfold iv
 refine eY Tryz.func122 rfl Tryz.ntmps122 rfl ?_
 refine aH ?_
 refine aI ?_
 (refine kG rfl rfl rfl ?_; intro b; refine ⟨jD, ?_⟩)
 (refine kG rfl rfl rfl ?_; intro b2; refine ⟨jD, ?_⟩)
 (refine aC rfl rfl ?_; intro b3; refine ⟨jD, ?_⟩)
 repeat' (first | refine aI ?_ | refine jU ?_ | refine iN ?_ | refine fU ?_ | refine fJ ?_ | refine iI ?_ | refine iB ?_ | refine fT ?_ | refine fP ?_ | refine jY ?_ | refine jR ?_ | refine jS ?_ | refine jX rfl ?_ | refine aL ?_ | (refine gX ?_; first | refine gQ rfl rfl rfl ?_ | (refine gJ rfl rfl ?_; refine fF rfl rfl rfl jD ?_) | refine gT rfl rfl (by omega) ?_ | refine gI rfl rfl (by omega) ?_ | refine pG rfl rfl (fun h => ?_) (fun h => ?_) | (fail_if_success (refine sD rfl ?_); refine nN rfl rfl (fun h => ?_) (fun h => ?_))) | (refine bT ?_; refine aD rfl (fun _ => dL rfl) rfl rfl ?_) | refine aD rfl (fun _ => bH rfl) rfl rfl ?_ | (refine gK ?_; first | refine aD rfl (fun _ => bK rfl rfl w_) rfl rfl ?_ | refine aD rfl (fun _ => bM rfl rfl w_) rfl rfl ?_ | refine aD rfl (fun _ => eQ rfl rfl w_) rfl rfl ?_ | refine aD rfl (fun _ => eO rfl rfl (by omega) q_) rfl rfl ?_ | refine aD rfl (fun _ => eP rfl rfl (by omega) rfl) rfl rfl ?_ | refine aD rfl (fun _ => dK rfl rfl) rfl rfl ?_ | refine aD rfl (fun _ => dX rfl rfl) rfl rfl ?_ | refine aD rfl (fun _ => dY rfl rfl) rfl rfl ?_) | (refine bT ?_; first | refine aD rfl (fun _ => dZ rfl w_) rfl rfl ?_) | (refine gM ?_; first | refine aD rfl (fun _ => dD rfl w_) rfl rfl ?_) | (refine gH ?_; first | refine aD rfl (fun _ => bL rfl) rfl rfl ?_ | refine aD rfl (fun _ => dH rfl rfl) rfl rfl ?_ | refine aD rfl (fun _ => dJ rfl rfl) rfl rfl ?_ | refine aD rfl (fun _ => dI rfl rfl rfl) rfl rfl ?_) | (refine gL ?_; first | refine gP rfl (by decide) rfl rfl ?_ | refine jH rfl (by decide) rfl rfl ?_) | (refine gN ?_; first | refine aD rfl (fun _ => cO rfl) rfl rfl ?_) | (refine gW ?_; first | refine jB rfl rfl iQ rfl rfl ?_ | refine jE kV rfl rfl iQ aP jL rfl rfl ?_ | refine jF kV rfl rfl iQ aP jL rfl rfl ?_ | refine aD rfl (fun _ => bS rfl rfl iQ) rfl rfl ?_) | (refine gV ?_; first | refine jI kV rfl aP nJ rfl rfl ?_ | refine jG kV rfl aP nJ rfl rfl ?_ | refine jC kV rfl aP nJ rfl rfl ?_ | refine fI kV rfl aP nJ rfl rfl ?_ | refine kQ kV rfl aP iG fC rfl rfl ?_ | refine kR kV rfl aP iG fC rfl rfl ?_ | refine kP kV rfl aP iG fC rfl rfl ?_ | refine jM kV rfl aP iG fC rfl rfl ?_) | (refine gU ?_; first | refine aD rfl (fun _ => bR rfl rfl) rfl rfl ?_ | refine aD rfl (fun _ => bJ rfl) rfl rfl ?_) | (refine iH ?_; first | refine lT rfl rfl rfl lW stC rfl rfl ⟨jD, ?_⟩ | refine gF rfl rfl fC qE lW qO rfl rfl ⟨jD, ?_⟩) | (refine iM ?_; first | refine bZ rfl ?_ | refine bQ rfl ?_ | refine jQ rfl (by omega) ?_ | refine lZ rfl (by omega) ?_ | refine rW rfl (fun h => ?_) (fun h => ?_) | refine nU rfl (fun h => ?_) (fun h => ?_)))
 (repeat refine aH ?_); refine dG 3 [0, 2, 1, 3, 4, 5] [1, 1, 0, 0, 0, 0] mixed (by kernel_rfl) ?_
 repeat (refine iX ?_)
 (refine aT rfl (iJ (c := cq) hy (by omega) aP) rfl rfl ?_; rintro _ _ _ ⟨rfl, rfl, rfl⟩; refine ⟨jD, ?_⟩)
 repeat (refine iX ?_)
 (refine aT rfl (iJ (c := cq') hz (by omega) aP) rfl rfl ?_; rintro _ _ _ ⟨rfl, rfl, rfl⟩; refine ⟨jD, ?_⟩)
 repeat (refine iX ?_)
 refine bG [4] rfl (fun k G M I => ∃ (a b : Nat) (pa pb : Option Addr) (ca cb : Nat), k = b ∧ a ≤ 2 ^ (k0 + m) ∧ b ≤ 2 ^ (k0 + m) ∧ oO pa a ca ∧ oO pb b cb ∧ Nat.gcd a b = Nat.gcd y.natAbs z.natAbs ∧ G = [(5, .slice pa (gr a).length ca), (6, .slice pb (gr b).length cb)] ∧ M = .blk b3 [.bool false, .slice none 0 0] 42 :: M0 ∧ I = aX pa (recs eG (gr a)) :: aX pb (recs eG (gr b)) :: I0) (z.natAbs) _ _ _ aS cZ cK (⟨y.natAbs, z.natAbs, q, q', cq, cq', rfl, hy2, hz2, hc, hc', rfl, rfl, rfl, rfl⟩) ?_
 rintro k G M I ⟨a, b', pa, pb, ca, cb, rfl, ha, hb, oa, ob, hg, rfl, rfl, rfl⟩
 have la := fE ha
 have lb := fE hb
 have hW1 := fun M0 I0 => xK (X := X) (w0 := w0) (M0 := M0) (I0 := I0) (q := pa) (n := a) (c := ca) (by omega)
 have hW2 := fun M0 I0 => xK (X := X) (w0 := w0) (M0 := M0) (I0 := I0) (q := pb) (n := k) (c := cb) (by omega)
 by_cases hk0 : k = 0
 ·subst hk0
  have hl0 : (gr 0).length = 0 := by rw [fH]; rfl
  rw [Nat.gcd_zero_right] at hg
  have hz : (Int.gcd y z : Int) = sg False a := by unfold sg; rw [if_neg (fun h => h), hg]; rfl
  repeat (refine iX ?_)
  (refine aT rfl (wG (a := gr a) (by omega) oa.2 aP) rfl rfl ?_; rintro _ _ _ ⟨rfl, q', c', rfl, rfl⟩; refine ⟨jD, ?_⟩)
  refine lU (fun w hw => And.intro (hw.rowLe (List.Mem.head _)) ((hw.rowS (List.Mem.head _)).2.imp id And.right)) (fun hc' => ?_)
  refine fO uK ?_
  repeat (refine iX ?_)
  rw [hz]
  have hMd := fun M0 I0 => lF (X := X) (w0 := w0) (M0 := M0) (I0 := I0) (p := False) (q := q') (c := c') (k := k0 + m) (by omega) hc' ha
  simp only [dF (show ¬ False from id)] at hMd
  (refine aT rfl (hMd _ _ aP) rfl rfl ?_; rintro _ _ _ ⟨rfl, rfl⟩; refine ⟨jD, ?_⟩; refine aU (List.Mem.head _) (fun q2 c2 e__ hc2 hz2 => ?_); subst e__)
  unfold iv
  repeat (refine iX ?_)
  refine bC (cs := [.bool (B (sg False a < 0)), .slice q2 (gr (sg False a).natAbs).length c2]) (.inl rfl) rfl rfl aP rfl _ _ cZ cK ⟨rfl, rfl⟩
 ·have hlk : 0 < (gr k).length := List.length_pos_iff.2 (fun e => hk0 (mI.1 e))
  by_cases hw : (gr a).length ≤ 2 ∧ (gr k).length ≤ 2
  ·have hb9 : ∀ t : Nat, (gr t).length ≤ 2 → t < 1000000000000000000 := fun t ht => by
    have := jW (bW t)
    rw [dC] at this
    have h2 : (1000000000 : Int) ^ (gr t).length ≤ 1000000000 ^ 2 := mE ht
    omega
   have a9 := hb9 a hw.1
   have k9 := hb9 k hw.2
   rw [if_pos hw.1, fA hw.1] at hW1
   rw [if_pos hw.2, fA hw.2] at hW2
   repeat (refine iX ?_)
   (refine aT rfl (hW1 _ _ aP) rfl rfl ?_; rintro _ _ _ ⟨rfl, rfl, rfl⟩; refine ⟨jD, ?_⟩)
   repeat (refine iX ?_)
   (refine aT rfl (hW2 _ _ aP) rfl rfl ?_; rintro _ _ _ ⟨rfl, rfl, rfl⟩; refine ⟨jD, ?_⟩)
   repeat (refine iX ?_)
   refine bG [4] rfl (fun k G M I => ∃ (x x2 : Nat), k = x2 ∧ x < 1000000000000000000 ∧ x2 < 1000000000000000000 ∧ x ≤ 2 ^ (k0 + m) ∧ x2 ≤ 2 ^ (k0 + m) ∧ Nat.gcd x x2 = Nat.gcd y.natAbs z.natAbs ∧ G = [(7, .int .u64 x), (9, .int .u64 x2)] ∧ M = .blk b3 [.bool false, .slice none 0 0] 42 :: M0 ∧ I0 = I) (k) _ _ _ aS cZ cK (⟨a, k, rfl, a9, k9, ha, hb, hg, rfl, rfl, rfl⟩) ?_
   rintro k G M I ⟨x, x2, rfl, hx9, hx29, hx, hx2, hxg, rfl, rfl, rfl⟩
   by_cases hx0 : k = 0
   ·subst hx0
    rw [Nat.gcd_zero_right] at hxg
    have hz : (Int.gcd y z : Int) = sg False x := by unfold sg; rw [if_neg (fun h => h), hxg]; rfl
    repeat (refine iX ?_)
    (refine aT rfl (pQ (n := x) (by omega)) rfl rfl ?_; rintro _ _ _ ⟨rfl, q', c', rfl, hc', rfl⟩; refine ⟨jD, ?_⟩)
    rw [hz]
    have hMd := fun M0 I0 => lF (X := X) (w0 := w0) (M0 := M0) (I0 := I0) (p := False) (q := q') (c := c') (k := k0 + m) (by have := fE hx; omega) hc' hx
    simp only [dF (show ¬ False from id)] at hMd
    (refine aT rfl (hMd _ _ aP) rfl rfl ?_; rintro _ _ _ ⟨rfl, rfl⟩; refine ⟨jD, ?_⟩; refine aU (List.Mem.head _) (fun q2 c2 e__ hc2 hz2 => ?_); subst e__)
    unfold iv
    repeat (refine iX ?_)
    refine bC (cs := [.bool (B (sg False x < 0)), .slice q2 (gr (sg False x).natAbs).length c2]) (.inl rfl) rfl rfl aP rfl _ _ cZ cK ⟨rfl, rfl⟩
   ·have e2 : ((x : Int)).tmod (k : Int) = ((x % k : Nat) : Int) := by rw [Int.tmod_eq_emod_of_nonneg (by omega), Int.natCast_emod]
    have hmod := Nat.mod_lt x (show k > 0 by omega)
    have hg2 : Nat.gcd k (x % k) = Nat.gcd y.natAbs z.natAbs := by rw [← hxg, Nat.gcd_comm x k, Nat.gcd_rec k x, Nat.gcd_comm]
    repeat (refine iX ?_)
    (repeat refine aH ?_); refine gZ [0, 1, 2, 3, 4, 5] [0, 0, 0, 0, 0, 0] mixed (by kernel_rfl) ?_
    repeat (refine iX ?_)
    rw [e2]
    refine aQ (x % k) _ _ _ (by first | omega | (simp only [List.length_append, List.length_cons, List.length_nil]; omega)) aS cZ cK (⟨k, x % k, rfl, by omega, by omega, hx2, by omega, hg2, rfl, rfl, rfl⟩)
  ·have hO := fun M0 I0 => aGO (X := X) (w0 := w0) (M0 := M0) (I0 := I0) (p := pa) (q := pb) (m := a) (n := k) (cp := ca) (cq := cb) (by omega) (by omega) (by omega) oa
   have hmod := Nat.mod_lt a (show k > 0 by omega)
   have hg2 : Nat.gcd k (a % k) = Nat.gcd y.natAbs z.natAbs := by rw [← hg, Nat.gcd_comm a k, Nat.gcd_rec k a, Nat.gcd_comm]
   by_cases hw1 : (gr a).length ≤ 2
   ·have hw2 : ¬ (gr k).length ≤ 2 := fun h => hw ⟨hw1, h⟩
    rw [if_pos hw1, fA hw1] at hW1
    rw [if_neg hw2, dF hw2] at hW2
    repeat (refine iX ?_)
    (refine aT rfl (hW1 _ _ aP) rfl rfl ?_; rintro _ _ _ ⟨rfl, rfl, rfl⟩; refine ⟨jD, ?_⟩)
    repeat (refine iX ?_)
    (refine aT rfl (hW2 _ _ aP) rfl rfl ?_; rintro _ _ _ ⟨rfl, rfl, rfl⟩; refine ⟨jD, ?_⟩)
    repeat (refine iX ?_)
    (refine aT rfl (hO _ _ aP aP) rfl rfl ?_; rintro _ _ _ ⟨rfl, p1, c1, p2, c2, ho1, ho2, rfl, rfl⟩; refine ⟨jD, ?_⟩)
    repeat (refine iX ?_)
    refine aQ (a % k) _ _ _ (by first | omega | (simp only [List.length_append, List.length_cons, List.length_nil]; omega)) aS cZ cK (⟨k, a % k, pb, p2, cb, c2, rfl, hb, by omega, ob, ho2, hg2, rfl, rfl, rfl⟩)
   ·rw [if_neg hw1, dF hw1] at hW1
    repeat (refine iX ?_)
    (refine aT rfl (hW1 _ _ aP) rfl rfl ?_; rintro _ _ _ ⟨rfl, rfl, rfl⟩; refine ⟨jD, ?_⟩)
    repeat (refine iX ?_)
    (refine aT rfl (hW2 _ _ aP) rfl rfl ?_; rintro _ _ _ ⟨rfl, rfl, rfl⟩; refine ⟨jD, ?_⟩)
    repeat (refine iX ?_)
    (refine aT rfl (hO _ _ aP aP) rfl rfl ?_; rintro _ _ _ ⟨rfl, p1, c1, p2, c2, ho1, ho2, rfl, rfl⟩; refine ⟨jD, ?_⟩)
    repeat (refine iX ?_)
    refine aQ (a % k) _ _ _ (by first | omega | (simp only [List.length_append, List.length_cons, List.length_nil]; omega)) aS cZ cK (⟨k, a % k, pb, p2, cb, c2, rfl, hb, by omega, ob, ho2, hg2, rfl, rfl, rfl⟩)
end
end Go.Proofs.YtmmmfphealhapaaGreat
namespace Go.Proofs.YtmmmfphealhapaaGreat
open Go Go.Fx
theorem aHZ {y z : Int} (h : y.sign ≠ z.sign) : fQ y.sign z.sign = fQ y z := by
 unfold fQ
 rcases Int.lt_trichotomy y 0 with hy | hy | hy <;> rcases Int.lt_trichotomy z 0 with hz | hz | hz <;>
  simp_all [Int.sign_eq_one_of_pos, Int.sign_eq_neg_one_of_neg] <;> omega
theorem aOE {y z : Int} (h : y.sign = z.sign) : fQ y z = if y < 0 then -fQ y.natAbs z.natAbs else fQ y.natAbs z.natAbs := by
 have h1 : y < 0 ↔ z < 0 := by rw [← Int.sign_eq_neg_one_iff_neg, ← Int.sign_eq_neg_one_iff_neg, h]
 unfold fQ
 by_cases hy : y < 0
 ·have hz := h1.1 hy
  rw [if_pos hy]
  split <;> split <;> (try split) <;> (try split) <;> omega
 ·have hz : ¬ z < 0 := fun hz => hy (h1.2 hz)
  rw [if_neg hy]
  split <;> split <;> (try split) <;> (try split) <;> omega
section
variable {X : List Nat} {w0 : World} {M0 : List Ent} {I0 : List bA}
theorem uN {u v : Value} {y z : Int} {k m : Nat} (hk : k ≤ 1000000000000) (hm : m ≤ 1000000000000) (hu : iC u y k ∈ I0) (hv : iC v z m ∈ I0) : CD Tryz.prog 121 [u, v] X w0 M0 I0 (fun v M I => M0 = M ∧ I0 = I ∧ v = .int .i64 (fQ y z)) := by
 have hS1 := fun M0 I0 h => lL (X := X) (w0 := w0) (M0 := M0) (I0 := I0) (u := u) (z := y) hk h
 have hS2 := fun M0 I0 h => lL (X := X) (w0 := w0) (M0 := M0) (I0 := I0) (u := v) (z := z) hm h
 refine cB hu (fun q cq e hc hy => ?_)
 subst e
 refine cB (List.Mem.tail _ hv) (fun q' cq' e hc' hz => ?_)
 subst e
 have hl := fK hy hk
 have hl' := fK hz hm
 unfold iv at *
 refine eY Tryz.func121 rfl Tryz.ntmps121 rfl ?_
 refine aH ?_
 refine aI ?_
 (refine kG rfl rfl rfl ?_; intro b; refine ⟨jD, ?_⟩)
 (refine kG rfl rfl rfl ?_; intro b2; refine ⟨jD, ?_⟩)
 repeat' (first | refine aI ?_ | refine jU ?_ | refine iN ?_ | refine fU ?_ | refine fJ ?_ | refine iI ?_ | refine iB ?_ | refine fT ?_ | refine fP ?_ | refine jY ?_ | refine jR ?_ | refine jS ?_ | refine jX rfl ?_ | refine aL ?_ | (refine gX ?_; first | refine gQ rfl rfl rfl ?_ | (refine gJ rfl rfl ?_; refine fF rfl rfl rfl jD ?_) | refine gT rfl rfl (by omega) ?_ | refine gI rfl rfl (by omega) ?_ | refine pG rfl rfl (fun h => ?_) (fun h => ?_) | (fail_if_success (refine sD rfl ?_); refine nN rfl rfl (fun h => ?_) (fun h => ?_))) | (refine bT ?_; refine aD rfl (fun _ => dL rfl) rfl rfl ?_) | refine aD rfl (fun _ => bH rfl) rfl rfl ?_ | (refine gK ?_; first | refine aD rfl (fun _ => bK rfl rfl w_) rfl rfl ?_ | refine aD rfl (fun _ => bM rfl rfl w_) rfl rfl ?_ | refine aD rfl (fun _ => eQ rfl rfl w_) rfl rfl ?_ | refine aD rfl (fun _ => eO rfl rfl (by omega) q_) rfl rfl ?_ | refine aD rfl (fun _ => eP rfl rfl (by omega) rfl) rfl rfl ?_ | refine aD rfl (fun _ => dK rfl rfl) rfl rfl ?_ | refine aD rfl (fun _ => dX rfl rfl) rfl rfl ?_ | refine aD rfl (fun _ => dY rfl rfl) rfl rfl ?_) | (refine bT ?_; first | refine aD rfl (fun _ => dZ rfl w_) rfl rfl ?_) | (refine gM ?_; first | refine aD rfl (fun _ => dD rfl w_) rfl rfl ?_) | (refine gH ?_; first | refine aD rfl (fun _ => bL rfl) rfl rfl ?_ | refine aD rfl (fun _ => dH rfl rfl) rfl rfl ?_ | refine aD rfl (fun _ => dJ rfl rfl) rfl rfl ?_ | refine aD rfl (fun _ => dI rfl rfl rfl) rfl rfl ?_) | (refine gL ?_; first | refine gP rfl (by decide) rfl rfl ?_ | refine jH rfl (by decide) rfl rfl ?_) | (refine gN ?_; first | refine aD rfl (fun _ => cO rfl) rfl rfl ?_) | (refine gW ?_; first | refine jB rfl rfl iQ rfl rfl ?_ | refine jE kV rfl rfl iQ aP jL rfl rfl ?_ | refine jF kV rfl rfl iQ aP jL rfl rfl ?_ | refine aD rfl (fun _ => bS rfl rfl iQ) rfl rfl ?_) | (refine gV ?_; first | refine jI kV rfl aP nJ rfl rfl ?_ | refine jG kV rfl aP nJ rfl rfl ?_ | refine jC kV rfl aP nJ rfl rfl ?_ | refine fI kV rfl aP nJ rfl rfl ?_ | refine kQ kV rfl aP iG fC rfl rfl ?_ | refine kR kV rfl aP iG fC rfl rfl ?_ | refine kP kV rfl aP iG fC rfl rfl ?_ | refine jM kV rfl aP iG fC rfl rfl ?_) | (refine gU ?_; first | refine aD rfl (fun _ => bR rfl rfl) rfl rfl ?_ | refine aD rfl (fun _ => bJ rfl) rfl rfl ?_) | (refine iH ?_; first | refine lT rfl rfl rfl lW stC rfl rfl ⟨jD, ?_⟩ | refine gF rfl rfl fC qE lW qO rfl rfl ⟨jD, ?_⟩) | (refine iM ?_; first | refine bZ rfl ?_ | refine bQ rfl ?_ | refine jQ rfl (by omega) ?_ | refine lZ rfl (by omega) ?_ | refine rW rfl (fun h => ?_) (fun h => ?_) | refine nU rfl (fun h => ?_) (fun h => ?_)))
 (repeat refine aH ?_); refine gZ [0, 2, 1, 3, 4, 5] [1, 1, 0, 0, 0, 0] mixed (by kernel_rfl) ?_
 repeat (refine iX ?_)
 (refine aT rfl (hS1 _ _ aP) rfl rfl ?_; rintro _ _ _ ⟨rfl, rfl, rfl⟩; refine ⟨jD, ?_⟩)
 repeat (refine iX ?_)
 (refine aT rfl (hS2 _ _ aP) rfl rfl ?_; rintro _ _ _ ⟨rfl, rfl, rfl⟩; refine ⟨jD, ?_⟩)
 by_cases hs : y.sign = z.sign
 ·have hca := aOE hs
  repeat (refine iX ?_)
  (repeat refine aH ?_); refine gZ [0, 2, 1, 3, 4, 5] [2, 2, 0, 0, 0, 0] mixed (by kernel_rfl) ?_
  repeat (refine iX ?_)
  (refine aT rfl (iJ (c := cq) hy hk aP) rfl rfl ?_; rintro _ _ _ ⟨rfl, rfl, rfl⟩; refine ⟨jD, ?_⟩)
  repeat (refine iX ?_)
  (refine aT rfl (iJ (c := cq') hz hm aP) rfl rfl ?_; rintro _ _ _ ⟨rfl, rfl, rfl⟩; refine ⟨jD, ?_⟩)
  repeat (refine iX ?_)
  (refine aT rfl (uR (by omega) (by omega) aP aP) rfl rfl ?_; rintro _ _ _ ⟨rfl, rfl, rfl⟩; refine ⟨jD, ?_⟩)
  have hcb : -1 ≤ fQ (y.natAbs : Int) z.natAbs ∧ fQ (y.natAbs : Int) z.natAbs ≤ 1 := by unfold fQ; split <;> (try split) <;> omega
  by_cases hy0 : y < 0
  ·rw [if_pos hy0] at hca
   rw [hca]
   generalize fQ (y.natAbs : Int) z.natAbs = cv at *
   repeat (refine iX ?_)
   refine aN (by first | exact .inl rfl | exact .inr rfl) rfl rfl _ _ cZ cK (⟨rfl, rfl, congrArg (Value.int .i64) (by omega)⟩)
  ·rw [if_neg hy0] at hca
   rw [hca]
   generalize fQ (y.natAbs : Int) z.natAbs = cv at *
   repeat (refine iX ?_)
   refine aN (by first | exact .inl rfl | exact .inr rfl) rfl rfl _ _ cZ cK (⟨rfl, rfl, rfl⟩)
 ·rw [← aHZ hs]
  repeat (refine iX ?_)
  (refine aT rfl (CD.same (fun w _ => aJX _ _ _)) rfl rfl ?_; rintro _ _ _ ⟨rfl, rfl, rfl⟩; refine ⟨jD, ?_⟩)
  repeat (refine iX ?_)
  refine aN (by first | exact .inl rfl | exact .inr rfl) rfl rfl _ _ cZ cK (⟨rfl, rfl, rfl⟩)
end
end Go.Proofs.YtmmmfphealhapaaGreat
namespace Go.Proofs.YtmmmfphealhapaaGreat
open Go Go.Fx
theorem aDC {x : Int} (h : -9223372036854775808 ≤ x ∧ x < 0) : IntKind.u64.wrap x = x + 18446744073709551616 := by
 simp [IntKind.wrap, IntKind.bits, IntKind.signed]; omega
section
variable {X : List Nat} {w0 : World} {M0 : List Ent} {I0 : List bA}
theorem Of_ok {x : Int} (hx : 0 ≤ x ∧ x ≤ 9223372036854775807) : CD Tryz.prog 58 [.int .i64 x] X w0 M0 I0 (fun v M I => M0 = M ∧ I = iC v x 63 :: I0) := by
 obtain ⟨n, rfl⟩ : ∃ n : Nat, x = (n : Int) := ⟨x.toNat, by omega⟩
 have hn : n ≤ 2 ^ 63 := by omega
 have hsg : ((n : Nat) : Int) = sg False n := by unfold sg; rw [if_neg (fun h => h)]
 refine eY Tryz.func58 rfl Tryz.ntmps58 rfl ?_
 refine aH ?_
 refine aI ?_
 (refine aC rfl rfl ?_; intro b; refine ⟨jD, ?_⟩)
 repeat (refine iX ?_)
 (refine aT rfl (pQ (n := n) (by omega)) rfl rfl ?_; rintro _ _ _ ⟨rfl, q', c', rfl, hc', rfl⟩; refine ⟨jD, ?_⟩)
 have hMd := fun M0 I0 => lF (X := X) (w0 := w0) (M0 := M0) (I0 := I0) (p := ((n : Nat) : Int) < 0) (q := q') (c := c') (k := 63) (by have := fE hn; omega) hc' hn
 have hs2 : sg (((n : Nat) : Int) < 0) n = (n : Int) := by unfold sg; rw [if_neg (by omega)]
 simp only [hs2] at hMd
 (refine aT rfl (hMd _ _ aP) rfl rfl ?_; rintro _ _ _ ⟨rfl, rfl⟩; refine ⟨jD, ?_⟩; refine aU (List.Mem.head _) (fun q2 c2 e__ hc2 hz2 => ?_); subst e__)
 unfold iv
 repeat (refine iX ?_)
 refine bC (cs := [.bool (B (((n : Nat) : Int) < 0)), .slice q2 (gr ((n : Nat) : Int).natAbs).length c2]) (.inl rfl) rfl rfl aP rfl _ _ cZ cK ⟨rfl, rfl⟩
end
end Go.Proofs.YtmmmfphealhapaaGreat
namespace Go.Proofs.YtmmmfphealhapaaGreat
open Go Go.Fx
abbrev vI (q : Option Addr) (c : Nat) (z : Int) : Value := .agg #[.bool (B (z < 0)), .slice q (gr z.natAbs).length c]
structure RE where
 q : Rat
 p1 : Option Addr
 c1 : Nat
 p2 : Option Addr
 c2 : Nat
instance : Inhabited RE := ⟨⟨0, none, 0, none, 0⟩⟩
abbrev eR (e : RE) : List Value := [.bool (B (e.q.num < 0)), .slice e.p1 (gr e.q.num.natAbs).length e.c1, .bool (B ((e.q.den : Int) < 0)), .slice e.p2 (gr (e.q.den : Int).natAbs).length e.c2]
abbrev rv (e : RE) : Value := .agg #[.bool (B (e.q.num < 0)), .slice e.p1 (gr e.q.num.natAbs).length e.c1, .bool (B ((e.q.den : Int) < 0)), .slice e.p2 (gr (e.q.den : Int).natAbs).length e.c2]
instance : Sized eR 4 := ⟨fun _ => rfl⟩
instance : Ones eR := ⟨fun m u hu => by
 simp only [eR, List.mem_cons, List.not_mem_nil, or_false] at hu
 rcases hu with rfl | rfl | rfl | rfl <;> rfl⟩
structure IsR (e : RE) (k : Nat) (X : List Nat) (w : World) : Prop where
 num : IsI (vI e.p1 e.c1 e.q.num) e.q.num k X w
 den : IsI (vI e.p2 e.c2 e.q.den) e.q.den k X w
abbrev jA (e : RE) (k : Nat) : bA := IsR e k
instance (e : RE) (k : Nat) : Fx.Good (IsR e k) := ⟨fun X Y w w' h he hY => ⟨Fx.Good.go (φ := IsI _ _ _) X Y w w' h.num he hY, Fx.Good.go (φ := IsI _ _ _) X Y w w' h.den he hY⟩⟩
theorem IsR.mono {e : RE} {k m : Nat} {X : List Nat} {w : World} (h : IsR e k X w) (hk : k ≤ m) : IsR e m X w := ⟨h.num.mono hk, h.den.mono hk⟩
theorem IsI.le {u : Value} {z : Int} {k : Nat} {X : List Nat} {w : World} (h : IsI u z k X w) : z.natAbs ≤ 2 ^ k := by
 obtain ⟨q, c, h1, h2, h3, h4⟩ := h.ex
 exact h3
structure AllR (es : List RE) (k : Nat) (X : List Nat) (w : World) : Prop where
 go : ∀ e ∈ es, IsR e k X w
abbrev xE (es : List RE) (k : Nat) : bA := AllR es k
instance (es : List RE) (k : Nat) : Fx.Good (AllR es k) := ⟨fun X Y w w' h he hY => ⟨fun e hm => Fx.Good.go (φ := IsR _ _) X Y w w' (h.go e hm) he hY⟩⟩
structure Hv (I : List bA) (φ : bA) : Prop where
 go : ∀ (X : List Nat) (w : World), (∀ ψ ∈ I, ψ X w) → φ X w
theorem Hv.mem {I : List bA} {φ : bA} (h : φ ∈ I) : Hv I φ := ⟨fun _ _ hw => hw φ h⟩
theorem jO {α : Type} [Inhabited α] {ms : List α} {i : Int} (h : 0 ≤ i ∧ i < ms.length) : gt ms i ∈ ms := List.mem_of_getElem? (aCB h)
theorem Hv.inc {I I' : List bA} {φ : bA} (h : Hv I φ) (hs : ∀ ψ ∈ I, ψ ∈ I') : Hv I' φ := ⟨fun X w hw => h.go X w (fun ψ hm => hw ψ (hs ψ hm))⟩
theorem Hv.cons {I : List bA} {φ ψ : bA} (h : Hv I φ) : Hv (ψ :: I) φ := h.inc (fun _ hm => List.mem_cons_of_mem _ hm)
section
variable {P : Program} {n : Nat} {Q : Exit → Act → World → Prop} {G : Env} {X : List Nat} {w0 : World} {M M' : List Ent} {I I' : List bA}
theorem Mem.hv {w : World} {φ : bA} [Fx.Good φ] (h : Hv I φ) (hw : Mem X w0 M I w) : Mem X w0 M (φ :: I) w := hw.add (φ := φ) (h.go _ _ (fun ψ hm => (hw.imm ψ hm).2))
theorem bX {f : FuncId} {vs : List Value} {K : Value → List Ent → List bA → Prop} {φ : bA} [Fx.Good φ] (h : Hv I φ) (k : CD P f vs X w0 M (φ :: I) K) : CD P f vs X w0 M I K := ⟨fun w hw => k.go w (Mem.hv h hw)⟩
theorem dV {c : Code} {φ : bA} [Fx.Good φ] (h : Hv I φ) (k : TD P n c Q G X w0 M (φ :: I)) : TD P n c Q G X w0 M I := aKP (fun _ hw => Mem.hv h hw) k
theorem tO {ops l : List Oper} {m : Fx.Mode} {φ : bA} [Fx.Good φ] (h : Hv I φ) (k : RD P n ops Q m l G X w0 M (φ :: I)) : RD P n ops Q m l G X w0 M I := xZ (fun _ hw => Mem.hv h hw) k
theorem rO {ex : Exit} {φ : bA} [Fx.Good φ] (h : Hv I φ) (k : ND n Q ex G X w0 M (φ :: I)) : ND n Q ex G X w0 M I := xS (fun _ hw => Mem.hv h hw) k
theorem aPC {w : World} {e : RE} {k : Nat} (h : Hv I (jA e k)) (hw : Mem X w0 M I w) : Mem X w0 M (iC (vI e.p1 e.c1 e.q.num) e.q.num k :: iC (vI e.p2 e.c2 e.q.den) e.q.den k :: I) w := by
 have hr : IsR e k (muts M) w := h.go _ _ (fun ψ hm => (hw.imm ψ hm).2)
 exact (hw.add (φ := iC (vI e.p2 e.c2 e.q.den) e.q.den k) hr.den).add (φ := iC (vI e.p1 e.c1 e.q.num) e.q.num k) hr.num
theorem yE {f : FuncId} {vs : List Value} {K : Value → List Ent → List bA → Prop} {e : RE} {k : Nat} (h : Hv I (jA e k)) (c : CD P f vs X w0 M (iC (vI e.p1 e.c1 e.q.num) e.q.num k :: iC (vI e.p2 e.c2 e.q.den) e.q.den k :: I) K) : CD P f vs X w0 M I K := ⟨fun w hw => c.go w (aPC h hw)⟩
theorem jN {ops l : List Oper} {m : Fx.Mode} {e : RE} {k : Nat} (h : Hv I (jA e k)) (c : RD P n ops Q m l G X w0 M (iC (vI e.p1 e.c1 e.q.num) e.q.num k :: iC (vI e.p2 e.c2 e.q.den) e.q.den k :: I)) : RD P n ops Q m l G X w0 M I := xZ (fun _ hw => aPC h hw) c
theorem aPN {w : World} {q : Rat} {k k1 k2 : Nat} {p1 p2 : Option Addr} {c1 c2 : Nat} (h1 : iC (vI p1 c1 q.num) q.num k1 ∈ I) (h2 : iC (vI p2 c2 q.den) q.den k2 ∈ I) (hk1 : k1 ≤ k) (hk2 : k2 ≤ k) (hw : Mem X w0 M I w) : Mem X w0 M (jA ⟨q, p1, c1, p2, c2⟩ k :: I) w :=
 hw.add (φ := jA ⟨q, p1, c1, p2, c2⟩ k) ⟨IsI.mono (hw.imm _ h1).2 hk1, IsI.mono (hw.imm _ h2).2 hk2⟩
theorem lD {ex : Exit} {q : Rat} {k k1 k2 : Nat} {p1 p2 : Option Addr} {c1 c2 : Nat} (h1 : iC (vI p1 c1 q.num) q.num k1 ∈ I) (h2 : iC (vI p2 c2 q.den) q.den k2 ∈ I) (hk1 : k1 ≤ k) (hk2 : k2 ≤ k) (h : ND n Q ex G X w0 M (jA ⟨q, p1, c1, p2, c2⟩ k :: I)) : ND n Q ex G X w0 M I := xS (fun _ hw => aPN h1 h2 hk1 hk2 hw) h
theorem monoI {w : World} {u : Value} {z : Int} {k m : Nat} (h : iC u z k ∈ I) (hk : k ≤ m) (hw : Mem X w0 M I w) : Mem X w0 M (iC u z m :: I) w := hw.add (φ := iC u z m) (IsI.mono (hw.imm _ h).2 hk)
theorem aDA {ops l : List Oper} {m : Fx.Mode} {u : Value} {z : Int} {k k2 : Nat} (h : iC u z k ∈ I) (hk : k ≤ k2) (c : RD P n ops Q m l G X w0 M (iC u z k2 :: I)) : RD P n ops Q m l G X w0 M I := xZ (fun _ hw => monoI h hk hw) c
theorem IsI.tight {u : Value} {z : Int} {k m : Nat} {X : List Nat} {w : World} (h : IsI u z k X w) (hk : z.natAbs ≤ 2 ^ m) : IsI u z m X w := by
 obtain ⟨q, c, h1, h2, h3, h4⟩ := h.ex
 exact ⟨q, c, h1, h2, hk, h4⟩
theorem lX {ops l : List Oper} {m : Fx.Mode} {u : Value} {z : Int} {k k2 : Nat} (h : iC u z k ∈ I) (hk : z.natAbs ≤ 2 ^ k2) (c : RD P n ops Q m l G X w0 M (iC u z k2 :: I)) : RD P n ops Q m l G X w0 M I := xZ (fun _ hw => hw.add (φ := iC u z k2) (IsI.tight (hw.imm _ h).2 hk)) c
end
def RQ (q : Rat) (k : Nat) (M0 : List Ent) (I0 : List bA) (v : Value) (M : List Ent) (I : List bA) : Prop := M0 = M ∧ ∃ e : RE, v = rv e ∧ e.q = q ∧ I = jA e k :: I0
def RQc (q : Rat) (k : Nat) (M0 : List Ent) (I0 : List bA) (v : Value) (M : List Ent) (I : List bA) : Prop := M0 = M ∧ ∃ e : RE, v = .tuple #[rv e, .int .i64 0] ∧ e.q = q ∧ I = jA e k :: I0
end Go.Proofs.YtmmmfphealhapaaGreat
