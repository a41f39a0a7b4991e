/- integer: Of, sum integer: Gcd integer: Compare integer: Of Fractions in memory: records, facts, what follows from facts. -/
import Derived.Test.YtgeagiikkeiioaaGreatZgam
import Derived.Test.YtgeagiikkeiioaaGreatZgak
import Derived.Test.YtgeagiikkeiioaaGreatZgaf
set_option linter.unusedSimpArgs false
set_option linter.unusedVariables false
set_option maxRecDepth 100000
set_option maxHeartbeats 4000000
namespace Go.Proofs.YtgeagiikkeiioaaGreat
open Go Go.Fx
section
variable {X : List Nat} {w0 : World} {M0 : List Ent} {I0 : List bA}
theorem aKS {p q : Prop} [Decidable p] [Decidable q] {m n : Nat} (h : p ↔ q) : sg p (m + n) = sg p m + sg q n := by
 unfold sg
 by_cases hp : p
 ·rw [if_pos hp, if_pos hp, if_pos (h.1 hp)]; omega
 ·rw [if_neg hp, if_neg hp, if_neg (fun hq => hp (h.2 hq))]; omega
theorem zW {p q : Prop} [Decidable p] [Decidable q] {m n : Nat} (h : ¬ (p ↔ q)) (hle : n ≤ m) : sg p (m - n) = sg p m + sg q n := by
 unfold sg
 by_cases hp : p
 ·rw [if_pos hp, if_pos hp, if_neg (fun hq => h ⟨fun _ => hq, fun _ => hp⟩)]; omega
 ·rw [if_neg hp, if_neg hp, if_pos (by rcases Classical.em q with hq | hq; exact hq; exact absurd ⟨fun h => absurd h hp, fun h => absurd h hq⟩ h)]; omega
theorem aTY {pn qn : Prop} [Decidable pn] [Decidable qn] {p q : Option Addr} {m n cp cq k : Nat} (hm : (gr m).length ≤ 50000000000) (hn : (gr n).length ≤ 50000000000) (hk : m + n ≤ 2 ^ k) (hk2 : k ≤ 1000000000000) (hp : aT p (recs eG (gr m)) ∈ I0) (hq : aT q (recs eG (gr n)) ∈ I0) :
  CD Tryz.prog 224 [.bool (B pn), .slice p (gr m).length cp, .bool (B qn), .slice q (gr n).length cq] X w0 M0 I0 (fun v M I => M0 = M ∧ I = iF v (sg pn m + sg qn n) k :: I0) := by
 have hC := fun M0 I0 => vL (X := X) (w0 := w0) (M0 := M0) (I0 := I0) (p := p) (q := q) (m := m) (n := n) (cp := cp) (cq := cq) (by omega) (by omega)
 have hP := fun M0 I0 => aKO (X := X) (w0 := w0) (M0 := M0) (I0 := I0) (p := p) (q := q) (m := m) (n := n) (cp := cp) (cq := cq) (by omega) (by omega)
 have hM := fun M0 I0 (hle : n ≤ m) => aAT (X := X) (w0 := w0) (M0 := M0) (I0 := I0) (p := p) (q := q) (m := m) (n := n) (cp := cp) (cq := cq) (by omega) hle
 have hM2 := fun M0 I0 (hle : m ≤ n) => aAT (X := X) (w0 := w0) (M0 := M0) (I0 := I0) (p := q) (q := p) (m := n) (n := m) (cp := cq) (cq := cp) (by omega) hle
 have hl1 := fV hk hk2
 refine fB Tryz.func224 rfl Tryz.ntmps224 rfl ?_
 refine aJ ?_
 refine aI ?_
 (refine aN rfl rfl ?_; intro b3; refine ⟨jD, ?_⟩)
 by_cases hpq : pn ↔ qn
 ·repeat (refine iV ?_)
  (refine aW rfl (hP _ _ aU aU) rfl rfl ?_; rintro _ _ _ ⟨rfl, q3, c3, rfl, hc3, rfl⟩; refine ⟨jD, ?_⟩)
  rw [← aKS hpq]
  (refine aW rfl (lL (p := pn) (k := k) (by omega) hc3 hk aU) rfl rfl ?_; rintro _ _ _ ⟨rfl, rfl⟩; refine ⟨jD, ?_⟩; refine aZ (List.Mem.head _) (fun q2 c2 e__ hc2 hz2 => ?_); subst e__)
  unfold iv
  repeat (refine iV ?_)
  refine bG (cs := [.bool (B (sg pn (m + n) < 0)), .slice q2 (gr (sg pn (m + n)).natAbs).length c2]) (.inl rfl) rfl rfl aU rfl _ _ dG dF ⟨rfl, rfl⟩
 ·by_cases hge : n ≤ m
  ·have hcv := wY (x := (m : Int)) (y := (n : Int)) (by omega)
   have hk3 : m - n ≤ 2 ^ k := by omega
   have hl3 := fV hk3 hk2
   repeat (refine iV ?_)
   (refine aW rfl (hC _ _ aU aU) rfl rfl ?_; rintro _ _ _ ⟨rfl, rfl, rfl⟩; refine ⟨jD, ?_⟩)
   repeat (refine iV ?_)
   (refine aW rfl (hM _ _ hge aU aU) rfl rfl ?_; rintro _ _ _ ⟨rfl, q3, c3, rfl, hc3, rfl⟩; refine ⟨jD, ?_⟩)
   rw [← zW hpq hge]
   (refine aW rfl (lL (p := pn) (k := k) (by omega) hc3 hk3 aU) rfl rfl ?_; rintro _ _ _ ⟨rfl, rfl⟩; refine ⟨jD, ?_⟩; refine aZ (List.Mem.head _) (fun q2 c2 e__ hc2 hz2 => ?_); subst e__)
   unfold iv
   repeat (refine iV ?_)
   refine bG (cs := [.bool (B (sg pn (m - n) < 0)), .slice q2 (gr (sg pn (m - n)).natAbs).length c2]) (.inl rfl) rfl rfl aU rfl _ _ dG dF ⟨rfl, rfl⟩
  ·have hcv := wK (x := (m : Int)) (y := (n : Int)) (by omega)
   have hk3 : n - m ≤ 2 ^ k := by omega
   have hl3 := fV hk3 hk2
   have hs : sg pn m + sg qn n = sg qn (n - m) := by rw [Int.add_comm, ← zW (fun h => hpq h.symm) (by omega)]
   repeat (refine iV ?_)
   (refine aW rfl (hC _ _ aU aU) rfl rfl ?_; rintro _ _ _ ⟨rfl, rfl, rfl⟩; refine ⟨jD, ?_⟩)
   repeat (refine iV ?_)
   (refine aW rfl (hM2 _ _ (by omega) aU aU) rfl rfl ?_; rintro _ _ _ ⟨rfl, q3, c3, rfl, hc3, rfl⟩; refine ⟨jD, ?_⟩)
   rw [hs]
   (refine aW rfl (lL (p := qn) (k := k) (by omega) hc3 hk3 aU) rfl rfl ?_; rintro _ _ _ ⟨rfl, rfl⟩; refine ⟨jD, ?_⟩; refine aZ (List.Mem.head _) (fun q2 c2 e__ hc2 hz2 => ?_); subst e__)
   unfold iv
   repeat (refine iV ?_)
   refine bG (cs := [.bool (B (sg qn (n - m) < 0)), .slice q2 (gr (sg qn (n - m)).natAbs).length c2]) (.inl rfl) rfl rfl aU rfl _ _ dG dF ⟨rfl, rfl⟩
theorem aUY {u v : Value} {y z : Int} {k m c : Nat} (hk : k ≤ 1000000000000) (hm : m ≤ 1000000000000) (hc0 : c ≤ 1000000000000) (hs : 2 ^ k + 2 ^ m ≤ 2 ^ c) (hu : iF u y k ∈ I0) (hv : iF v z m ∈ I0) : CD Tryz.prog 202 [u, v] X w0 M0 I0 (fun v M I => M0 = M ∧ I = iF v (y + z) c :: I0) := by
 refine dC hu (fun q cq e hc hy => ?_)
 subst e
 refine dC (List.Mem.tail _ hv) (fun q' cq' e hc' hz => ?_)
 subst e
 have hl := fV hy (by omega)
 have hl' := fV hz (by omega)
 unfold iv
 refine fB Tryz.func202 rfl Tryz.ntmps202 rfl ?_
 refine aJ ?_
 refine aI ?_
 (refine mX rfl rfl rfl ?_; intro b; refine ⟨jD, ?_⟩)
 (refine mX rfl rfl rfl ?_; intro b2; refine ⟨jD, ?_⟩)
 (refine aN rfl rfl ?_; intro b3; refine ⟨jD, ?_⟩)
 repeat' (first | refine aI ?_ | refine kE ?_ | refine iN ?_ | refine fQ ?_ | refine fI ?_ | refine iO ?_ | refine iI ?_ | refine fU ?_ | refine fO ?_ | refine jX ?_ | refine jV ?_ | refine kF ?_ | refine jZ rfl ?_ | refine bC ?_ | (refine gM ?_; first | refine gP rfl rfl rfl ?_ | (refine gK rfl rfl ?_; refine fD rfl rfl rfl jD ?_) | refine gL rfl rfl (by omega) ?_ | refine gU rfl rfl (by omega) ?_ | refine qR rfl rfl (fun h => ?_) (fun h => ?_) | (fail_if_success (refine uC rfl ?_); refine pE rfl rfl (fun h => ?_) (fun h => ?_))) | (refine cB ?_; refine aG rfl (fun _ => dM rfl) rfl rfl ?_) | refine aG rfl (fun _ => bH rfl) rfl rfl ?_ | (refine gZ ?_; first | refine aG rfl (fun _ => bO rfl rfl w_) rfl rfl ?_ | refine aG rfl (fun _ => bP rfl rfl w_) rfl rfl ?_ | refine aG rfl (fun _ => eU rfl rfl w_) rfl rfl ?_ | refine aG rfl (fun _ => eT rfl rfl (by omega) q_) rfl rfl ?_ | refine aG rfl (fun _ => eX rfl rfl (by omega) rfl) rfl rfl ?_ | refine aG rfl (fun _ => dV rfl rfl) rfl rfl ?_ | refine aG rfl (fun _ => dW rfl rfl) rfl rfl ?_ | refine aG rfl (fun _ => dX rfl rfl) rfl rfl ?_) | (refine cB ?_; first | refine aG rfl (fun _ => eF rfl w_) rfl rfl ?_) | (refine gW ?_; first | refine aG rfl (fun _ => dE rfl w_) rfl rfl ?_) | (refine gX ?_; first | refine aG rfl (fun _ => bN rfl) rfl rfl ?_ | refine aG rfl (fun _ => dK rfl rfl) rfl rfl ?_ | refine aG rfl (fun _ => dS rfl rfl) rfl rfl ?_ | refine aG rfl (fun _ => dL rfl rfl rfl) rfl rfl ?_) | (refine gT ?_; first | refine gV rfl (by decide) rfl rfl ?_ | refine jF rfl (by decide) rfl rfl ?_) | (refine gQ ?_; first | refine jJ rfl rfl fE rfl rfl ?_ | refine jI lJ rfl rfl fE aU jL rfl rfl ?_ | refine jE lJ rfl rfl fE aU jL rfl rfl ?_ | refine aG rfl (fun _ => bZ rfl rfl fE) rfl rfl ?_) | (refine bI ?_; first | refine jG lJ rfl aU qH rfl rfl ?_ | refine jB lJ rfl aU qH rfl rfl ?_ | refine jH lJ rfl aU qH rfl rfl ?_ | refine gY lJ rfl aU qH rfl rfl ?_ | refine mJ lJ rfl aU jO fP rfl rfl ?_ | refine mH lJ rfl aU jO fP rfl rfl ?_ | refine mG lJ rfl aU jO fP rfl rfl ?_ | refine kL lJ rfl aU jO fP rfl rfl ?_) | (refine gN ?_; first | refine aG rfl (fun _ => bY rfl rfl) rfl rfl ?_ | refine aG rfl (fun _ => bM rfl) rfl rfl ?_) | (refine jA ?_; first | refine lI rfl rfl rfl nQ stC rfl rfl ⟨jD, ?_⟩ | refine fH rfl rfl fP tF nQ sZ rfl rfl ⟨jD, ?_⟩) | (refine iM ?_; first | refine dB rfl ?_ | refine bV rfl ?_ | refine kD rfl (by omega) ?_ | refine mU rfl (by omega) ?_ | refine tZ rfl (fun h => ?_) (fun h => ?_) | refine pI rfl (fun h => ?_) (fun h => ?_)))
 (repeat refine aJ ?_); refine bK 3 [0, 1, 2, 4, 5, 6, 3, 7, 8, 9] [3, 2, 2, 3, 2, 2, 0, 0, 0, 0] mixed (by kernel_rfl) ?_
 repeat (refine iV ?_)
 (refine aW rfl (jK (c := cq) hy (by omega) aU) rfl rfl ?_; rintro _ _ _ ⟨rfl, rfl, rfl⟩; refine ⟨jD, ?_⟩)
 repeat (refine iV ?_)
 (refine aW rfl (jK (c := cq') hz (by omega) aU) rfl rfl ?_; rintro _ _ _ ⟨rfl, rfl, rfl⟩; refine ⟨jD, ?_⟩)
 repeat (refine iV ?_)
 have hyz : y.natAbs + z.natAbs ≤ 2 ^ c := Nat.le_trans (Nat.add_le_add hy hz) hs
 have hS := fun M0 I0 => aTY (X := X) (w0 := w0) (M0 := M0) (I0 := I0) (p := q) (q := q') (cp := cq) (cq := cq') (pn := y < 0) (qn := z < 0) (k := c) (by omega) (by omega) hyz hc0
 simp only [qI] at hS
 (refine aW rfl (hS _ _ aU aU) rfl rfl ?_; rintro _ _ _ ⟨rfl, rfl⟩; refine ⟨jD, ?_⟩; refine aZ (List.Mem.head _) (fun q2 c2 e__ hc2 hz2 => ?_); subst e__)
 unfold iv
 repeat (refine iV ?_)
 refine bG (cs := [.bool (B (y + z < 0)), .slice q2 (gr (y + z).natAbs).length c2]) (.inl rfl) rfl rfl aU rfl _ _ dG dF ⟨rfl, rfl⟩
end
end Go.Proofs.YtgeagiikkeiioaaGreat
namespace Go.Proofs.YtgeagiikkeiioaaGreat
open Go Go.Fx
section
variable {X : List Nat} {w0 : World} {M0 : List Ent} {I0 : List bA}
theorem aHZ {u v : Value} {y z : Int} {k0 m : Nat} (hk : k0 ≤ 500000000000) (hm : m ≤ 500000000000) (hu : iF u y k0 ∈ I0) (hv : iF v z m ∈ I0) : CD Tryz.prog 171 [u, v] X w0 M0 I0 (fun v M I => M0 = M ∧ I = iF v (Int.gcd y z) (k0 + m) :: I0) := by
 refine dC hu (fun q cq e hc hy => ?_)
 subst e
 refine dC (List.Mem.tail _ hv) (fun q' cq' e hc' hz => ?_)
 subst e
 have hy2 : y.natAbs ≤ 2 ^ (k0 + m) := Nat.le_trans hy (Nat.pow_le_pow_right (by decide) (by omega))
 have hz2 : z.natAbs ≤ 2 ^ (k0 + m) := Nat.le_trans hz (Nat.pow_le_pow_right (by decide) (by omega))
 unfold iv
 refine fB Tryz.func171 rfl Tryz.ntmps171 rfl ?_
 refine aJ ?_
 refine aI ?_
 (refine mX rfl rfl rfl ?_; intro b; refine ⟨jD, ?_⟩)
 (refine mX rfl rfl rfl ?_; intro b2; refine ⟨jD, ?_⟩)
 (refine aN rfl rfl ?_; intro b3; refine ⟨jD, ?_⟩)
 repeat' (first | refine aI ?_ | refine kE ?_ | refine iN ?_ | refine fQ ?_ | refine fI ?_ | refine iO ?_ | refine iI ?_ | refine fU ?_ | refine fO ?_ | refine jX ?_ | refine jV ?_ | refine kF ?_ | refine jZ rfl ?_ | refine bC ?_ | (refine gM ?_; first | refine gP rfl rfl rfl ?_ | (refine gK rfl rfl ?_; refine fD rfl rfl rfl jD ?_) | refine gL rfl rfl (by omega) ?_ | refine gU rfl rfl (by omega) ?_ | refine qR rfl rfl (fun h => ?_) (fun h => ?_) | (fail_if_success (refine uC rfl ?_); refine pE rfl rfl (fun h => ?_) (fun h => ?_))) | (refine cB ?_; refine aG rfl (fun _ => dM rfl) rfl rfl ?_) | refine aG rfl (fun _ => bH rfl) rfl rfl ?_ | (refine gZ ?_; first | refine aG rfl (fun _ => bO rfl rfl w_) rfl rfl ?_ | refine aG rfl (fun _ => bP rfl rfl w_) rfl rfl ?_ | refine aG rfl (fun _ => eU rfl rfl w_) rfl rfl ?_ | refine aG rfl (fun _ => eT rfl rfl (by omega) q_) rfl rfl ?_ | refine aG rfl (fun _ => eX rfl rfl (by omega) rfl) rfl rfl ?_ | refine aG rfl (fun _ => dV rfl rfl) rfl rfl ?_ | refine aG rfl (fun _ => dW rfl rfl) rfl rfl ?_ | refine aG rfl (fun _ => dX rfl rfl) rfl rfl ?_) | (refine cB ?_; first | refine aG rfl (fun _ => eF rfl w_) rfl rfl ?_) | (refine gW ?_; first | refine aG rfl (fun _ => dE rfl w_) rfl rfl ?_) | (refine gX ?_; first | refine aG rfl (fun _ => bN rfl) rfl rfl ?_ | refine aG rfl (fun _ => dK rfl rfl) rfl rfl ?_ | refine aG rfl (fun _ => dS rfl rfl) rfl rfl ?_ | refine aG rfl (fun _ => dL rfl rfl rfl) rfl rfl ?_) | (refine gT ?_; first | refine gV rfl (by decide) rfl rfl ?_ | refine jF rfl (by decide) rfl rfl ?_) | (refine gQ ?_; first | refine jJ rfl rfl fE rfl rfl ?_ | refine jI lJ rfl rfl fE aU jL rfl rfl ?_ | refine jE lJ rfl rfl fE aU jL rfl rfl ?_ | refine aG rfl (fun _ => bZ rfl rfl fE) rfl rfl ?_) | (refine bI ?_; first | refine jG lJ rfl aU qH rfl rfl ?_ | refine jB lJ rfl aU qH rfl rfl ?_ | refine jH lJ rfl aU qH rfl rfl ?_ | refine gY lJ rfl aU qH rfl rfl ?_ | refine mJ lJ rfl aU jO fP rfl rfl ?_ | refine mH lJ rfl aU jO fP rfl rfl ?_ | refine mG lJ rfl aU jO fP rfl rfl ?_ | refine kL lJ rfl aU jO fP rfl rfl ?_) | (refine gN ?_; first | refine aG rfl (fun _ => bY rfl rfl) rfl rfl ?_ | refine aG rfl (fun _ => bM rfl) rfl rfl ?_) | (refine jA ?_; first | refine lI rfl rfl rfl nQ stC rfl rfl ⟨jD, ?_⟩ | refine fH rfl rfl fP tF nQ sZ rfl rfl ⟨jD, ?_⟩) | (refine iM ?_; first | refine dB rfl ?_ | refine bV rfl ?_ | refine kD rfl (by omega) ?_ | refine mU rfl (by omega) ?_ | refine tZ rfl (fun h => ?_) (fun h => ?_) | refine pI rfl (fun h => ?_) (fun h => ?_)))
 (repeat refine aJ ?_); refine bK 3 [0, 2, 1, 3, 4, 5] [1, 1, 0, 0, 0, 0] mixed (by kernel_rfl) ?_
 repeat (refine iV ?_)
 (refine aW rfl (jK (c := cq) hy (by omega) aU) rfl rfl ?_; rintro _ _ _ ⟨rfl, rfl, rfl⟩; refine ⟨jD, ?_⟩)
 repeat (refine iV ?_)
 (refine aW rfl (jK (c := cq') hz (by omega) aU) rfl rfl ?_; rintro _ _ _ ⟨rfl, rfl, rfl⟩; refine ⟨jD, ?_⟩)
 repeat (refine iV ?_)
 refine aS [4] rfl (fun k G M I => ∃ (a b : Nat) (pa pb : Option Addr) (ca cb : Nat), k = b ∧ a ≤ 2 ^ (k0 + m) ∧ b ≤ 2 ^ (k0 + m) ∧ qG pa a ca ∧ qG pb b cb ∧ Nat.gcd a b = Nat.gcd y.natAbs z.natAbs ∧ G = [(5, .slice pa (gr a).length ca), (6, .slice pb (gr b).length cb)] ∧ M = .blk b3 [.bool false, .slice none 0 0] 40 :: M0 ∧ I = aT pa (recs eG (gr a)) :: aT pb (recs eG (gr b)) :: I0) (z.natAbs) _ _ _ aO dG dF (⟨y.natAbs, z.natAbs, q, q', cq, cq', rfl, hy2, hz2, hc, hc', rfl, rfl, rfl, rfl⟩) ?_
 rintro k G M I ⟨a, b', pa, pb, ca, cb, rfl, ha, hb, oa, ob, hg, rfl, rfl, rfl⟩
 have la := eY ha
 have lb := eY hb
 have hW1 := fun M0 I0 => aAA (X := X) (w0 := w0) (M0 := M0) (I0 := I0) (q := pa) (n := a) (c := ca) (by omega)
 have hW2 := fun M0 I0 => aAA (X := X) (w0 := w0) (M0 := M0) (I0 := I0) (q := pb) (n := k) (c := cb) (by omega)
 by_cases hk0 : k = 0
 ·subst hk0
  have hl0 : (gr 0).length = 0 := by rw [gG]; rfl
  rw [Nat.gcd_zero_right] at hg
  have hz : (Int.gcd y z : Int) = sg False a := by unfold sg; rw [if_neg (fun h => h), hg]; rfl
  repeat (refine iV ?_)
  (refine aW rfl (yR (a := gr a) (by omega) oa.2 aU) rfl rfl ?_; rintro _ _ _ ⟨rfl, q', c', rfl, rfl⟩; refine ⟨jD, ?_⟩)
  refine pF (fun w hw => And.intro (hw.rowLe (List.Mem.head _)) ((hw.rowS (List.Mem.head _)).2.imp id And.right)) (fun hc' => ?_)
  refine iE vM ?_
  repeat (refine iV ?_)
  rw [hz]
  have hMd := fun M0 I0 => lL (X := X) (w0 := w0) (M0 := M0) (I0 := I0) (p := False) (q := q') (c := c') (k := k0 + m) (by omega) hc' ha
  simp only [aY (show ¬ False from id)] at hMd
  (refine aW rfl (hMd _ _ aU) rfl rfl ?_; rintro _ _ _ ⟨rfl, rfl⟩; refine ⟨jD, ?_⟩; refine aZ (List.Mem.head _) (fun q2 c2 e__ hc2 hz2 => ?_); subst e__)
  unfold iv
  repeat (refine iV ?_)
  refine bG (cs := [.bool (B (sg False a < 0)), .slice q2 (gr (sg False a).natAbs).length c2]) (.inl rfl) rfl rfl aU rfl _ _ dG dF ⟨rfl, rfl⟩
 ·have hlk : 0 < (gr k).length := List.length_pos_iff.2 (fun e => hk0 (nP.1 e))
  by_cases hw : (gr a).length ≤ 2 ∧ (gr k).length ≤ 2
  ·have hb9 : ∀ t : Nat, (gr t).length ≤ 2 → t < 1000000000000000000 := fun t ht => by
    have := jR (bT t)
    rw [cO] at this
    have h2 : (1000000000 : Int) ^ (gr t).length ≤ 1000000000 ^ 2 := mV ht
    omega
   have a9 := hb9 a hw.1
   have k9 := hb9 k hw.2
   rw [if_pos hw.1, bR hw.1] at hW1
   rw [if_pos hw.2, bR hw.2] at hW2
   repeat (refine iV ?_)
   (refine aW rfl (hW1 _ _ aU) rfl rfl ?_; rintro _ _ _ ⟨rfl, rfl, rfl⟩; refine ⟨jD, ?_⟩)
   repeat (refine iV ?_)
   (refine aW rfl (hW2 _ _ aU) rfl rfl ?_; rintro _ _ _ ⟨rfl, rfl, rfl⟩; refine ⟨jD, ?_⟩)
   repeat (refine iV ?_)
   refine aS [4] rfl (fun k G M I => ∃ (x x2 : Nat), k = x2 ∧ x < 1000000000000000000 ∧ x2 < 1000000000000000000 ∧ x ≤ 2 ^ (k0 + m) ∧ x2 ≤ 2 ^ (k0 + m) ∧ Nat.gcd x x2 = Nat.gcd y.natAbs z.natAbs ∧ G = [(7, .int .u64 x), (9, .int .u64 x2)] ∧ M = .blk b3 [.bool false, .slice none 0 0] 40 :: M0 ∧ I0 = I) (k) _ _ _ aO dG dF (⟨a, k, rfl, a9, k9, ha, hb, hg, rfl, rfl, rfl⟩) ?_
   rintro k G M I ⟨x, x2, rfl, hx9, hx29, hx, hx2, hxg, rfl, rfl, rfl⟩
   by_cases hx0 : k = 0
   ·subst hx0
    rw [Nat.gcd_zero_right] at hxg
    have hz : (Int.gcd y z : Int) = sg False x := by unfold sg; rw [if_neg (fun h => h), hxg]; rfl
    repeat (refine iV ?_)
    (refine aW rfl (rR (n := x) (by omega)) rfl rfl ?_; rintro _ _ _ ⟨rfl, q', c', rfl, hc', rfl⟩; refine ⟨jD, ?_⟩)
    rw [hz]
    have hMd := fun M0 I0 => lL (X := X) (w0 := w0) (M0 := M0) (I0 := I0) (p := False) (q := q') (c := c') (k := k0 + m) (by have := eY hx; omega) hc' hx
    simp only [aY (show ¬ False from id)] at hMd
    (refine aW rfl (hMd _ _ aU) rfl rfl ?_; rintro _ _ _ ⟨rfl, rfl⟩; refine ⟨jD, ?_⟩; refine aZ (List.Mem.head _) (fun q2 c2 e__ hc2 hz2 => ?_); subst e__)
    unfold iv
    repeat (refine iV ?_)
    refine bG (cs := [.bool (B (sg False x < 0)), .slice q2 (gr (sg False x).natAbs).length c2]) (.inl rfl) rfl rfl aU rfl _ _ dG dF ⟨rfl, rfl⟩
   ·have e2 : ((x : Int)).tmod (k : Int) = ((x % k : Nat) : Int) := by rw [Int.tmod_eq_emod_of_nonneg (by omega), Int.natCast_emod]
    have hmod := Nat.mod_lt x (show k > 0 by omega)
    have hg2 : Nat.gcd k (x % k) = Nat.gcd y.natAbs z.natAbs := by rw [← hxg, Nat.gcd_comm x k, Nat.gcd_rec k x, Nat.gcd_comm]
    repeat (refine iV ?_)
    (repeat refine aJ ?_); refine dJ [0, 1, 2, 3, 4, 5] [0, 0, 0, 0, 0, 0] mixed (by kernel_rfl) ?_
    repeat (refine iV ?_)
    rw [e2]
    refine aM (x % k) _ _ _ (by first | omega | (simp only [List.length_append, List.length_cons, List.length_nil]; omega)) aO dG dF (⟨k, x % k, rfl, by omega, by omega, hx2, by omega, hg2, rfl, rfl, rfl⟩)
  ·have hO := fun M0 I0 => aJP (X := X) (w0 := w0) (M0 := M0) (I0 := I0) (p := pa) (q := pb) (m := a) (n := k) (cp := ca) (cq := cb) (by omega) (by omega) (by omega) oa
   have hmod := Nat.mod_lt a (show k > 0 by omega)
   have hg2 : Nat.gcd k (a % k) = Nat.gcd y.natAbs z.natAbs := by rw [← hg, Nat.gcd_comm a k, Nat.gcd_rec k a, Nat.gcd_comm]
   by_cases hw1 : (gr a).length ≤ 2
   ·have hw2 : ¬ (gr k).length ≤ 2 := fun h => hw ⟨hw1, h⟩
    rw [if_pos hw1, bR hw1] at hW1
    rw [if_neg hw2, aY hw2] at hW2
    repeat (refine iV ?_)
    (refine aW rfl (hW1 _ _ aU) rfl rfl ?_; rintro _ _ _ ⟨rfl, rfl, rfl⟩; refine ⟨jD, ?_⟩)
    repeat (refine iV ?_)
    (refine aW rfl (hW2 _ _ aU) rfl rfl ?_; rintro _ _ _ ⟨rfl, rfl, rfl⟩; refine ⟨jD, ?_⟩)
    repeat (refine iV ?_)
    (refine aW rfl (hO _ _ aU aU) rfl rfl ?_; rintro _ _ _ ⟨rfl, p1, c1, p2, c2, ho1, ho2, rfl, rfl⟩; refine ⟨jD, ?_⟩)
    repeat (refine iV ?_)
    refine aM (a % k) _ _ _ (by first | omega | (simp only [List.length_append, List.length_cons, List.length_nil]; omega)) aO dG dF (⟨k, a % k, pb, p2, cb, c2, rfl, hb, by omega, ob, ho2, hg2, rfl, rfl, rfl⟩)
   ·rw [if_neg hw1, aY hw1] at hW1
    repeat (refine iV ?_)
    (refine aW rfl (hW1 _ _ aU) rfl rfl ?_; rintro _ _ _ ⟨rfl, rfl, rfl⟩; refine ⟨jD, ?_⟩)
    repeat (refine iV ?_)
    (refine aW rfl (hW2 _ _ aU) rfl rfl ?_; rintro _ _ _ ⟨rfl, rfl, rfl⟩; refine ⟨jD, ?_⟩)
    repeat (refine iV ?_)
    (refine aW rfl (hO _ _ aU aU) rfl rfl ?_; rintro _ _ _ ⟨rfl, p1, c1, p2, c2, ho1, ho2, rfl, rfl⟩; refine ⟨jD, ?_⟩)
    repeat (refine iV ?_)
    refine aM (a % k) _ _ _ (by first | omega | (simp only [List.length_append, List.length_cons, List.length_nil]; omega)) aO dG dF (⟨k, a % k, pb, p2, cb, c2, rfl, hb, by omega, ob, ho2, hg2, rfl, rfl, rfl⟩)
end
end Go.Proofs.YtgeagiikkeiioaaGreat
namespace Go.Proofs.YtgeagiikkeiioaaGreat
open Go Go.Fx
theorem aLU {y z : Int} (h : y.sign ≠ z.sign) : fJ y.sign z.sign = fJ y z := by
 unfold fJ
 rcases Int.lt_trichotomy y 0 with hy | hy | hy <;> rcases Int.lt_trichotomy z 0 with hz | hz | hz <;>
  simp_all [Int.sign_eq_one_of_pos, Int.sign_eq_neg_one_of_neg] <;> omega
theorem aSA {y z : Int} (h : y.sign = z.sign) : fJ y z = if y < 0 then -fJ y.natAbs z.natAbs else fJ y.natAbs z.natAbs := by
 have h1 : y < 0 ↔ z < 0 := by rw [← Int.sign_eq_neg_one_iff_neg, ← Int.sign_eq_neg_one_iff_neg, h]
 unfold fJ
 by_cases hy : y < 0
 ·have hz := h1.1 hy
  rw [if_pos hy]
  split <;> split <;> (try split) <;> (try split) <;> omega
 ·have hz : ¬ z < 0 := fun hz => hy (h1.2 hz)
  rw [if_neg hy]
  split <;> split <;> (try split) <;> (try split) <;> omega
section
variable {X : List Nat} {w0 : World} {M0 : List Ent} {I0 : List bA}
theorem vX {u v : Value} {y z : Int} {k m : Nat} (hk : k ≤ 1000000000000) (hm : m ≤ 1000000000000) (hu : iF u y k ∈ I0) (hv : iF v z m ∈ I0) : CD Tryz.prog 151 [u, v] X w0 M0 I0 (fun v M I => M0 = M ∧ I0 = I ∧ v = .int .i64 (fJ y z)) := by
 have hS1 := fun M0 I0 h => sG (X := X) (w0 := w0) (M0 := M0) (I0 := I0) (u := u) (z := y) hk h
 have hS2 := fun M0 I0 h => sG (X := X) (w0 := w0) (M0 := M0) (I0 := I0) (u := v) (z := z) hm h
 refine dC hu (fun q cq e hc hy => ?_)
 subst e
 refine dC (List.Mem.tail _ hv) (fun q' cq' e hc' hz => ?_)
 subst e
 have hl := fV hy hk
 have hl' := fV hz hm
 unfold iv at *
 refine fB Tryz.func151 rfl Tryz.ntmps151 rfl ?_
 refine aJ ?_
 refine aI ?_
 (refine mX rfl rfl rfl ?_; intro b; refine ⟨jD, ?_⟩)
 (refine mX rfl rfl rfl ?_; intro b2; refine ⟨jD, ?_⟩)
 repeat' (first | refine aI ?_ | refine kE ?_ | refine iN ?_ | refine fQ ?_ | refine fI ?_ | refine iO ?_ | refine iI ?_ | refine fU ?_ | refine fO ?_ | refine jX ?_ | refine jV ?_ | refine kF ?_ | refine jZ rfl ?_ | refine bC ?_ | (refine gM ?_; first | refine gP rfl rfl rfl ?_ | (refine gK rfl rfl ?_; refine fD rfl rfl rfl jD ?_) | refine gL rfl rfl (by omega) ?_ | refine gU rfl rfl (by omega) ?_ | refine qR rfl rfl (fun h => ?_) (fun h => ?_) | (fail_if_success (refine uC rfl ?_); refine pE rfl rfl (fun h => ?_) (fun h => ?_))) | (refine cB ?_; refine aG rfl (fun _ => dM rfl) rfl rfl ?_) | refine aG rfl (fun _ => bH rfl) rfl rfl ?_ | (refine gZ ?_; first | refine aG rfl (fun _ => bO rfl rfl w_) rfl rfl ?_ | refine aG rfl (fun _ => bP rfl rfl w_) rfl rfl ?_ | refine aG rfl (fun _ => eU rfl rfl w_) rfl rfl ?_ | refine aG rfl (fun _ => eT rfl rfl (by omega) q_) rfl rfl ?_ | refine aG rfl (fun _ => eX rfl rfl (by omega) rfl) rfl rfl ?_ | refine aG rfl (fun _ => dV rfl rfl) rfl rfl ?_ | refine aG rfl (fun _ => dW rfl rfl) rfl rfl ?_ | refine aG rfl (fun _ => dX rfl rfl) rfl rfl ?_) | (refine cB ?_; first | refine aG rfl (fun _ => eF rfl w_) rfl rfl ?_) | (refine gW ?_; first | refine aG rfl (fun _ => dE rfl w_) rfl rfl ?_) | (refine gX ?_; first | refine aG rfl (fun _ => bN rfl) rfl rfl ?_ | refine aG rfl (fun _ => dK rfl rfl) rfl rfl ?_ | refine aG rfl (fun _ => dS rfl rfl) rfl rfl ?_ | refine aG rfl (fun _ => dL rfl rfl rfl) rfl rfl ?_) | (refine gT ?_; first | refine gV rfl (by decide) rfl rfl ?_ | refine jF rfl (by decide) rfl rfl ?_) | (refine gQ ?_; first | refine jJ rfl rfl fE rfl rfl ?_ | refine jI lJ rfl rfl fE aU jL rfl rfl ?_ | refine jE lJ rfl rfl fE aU jL rfl rfl ?_ | refine aG rfl (fun _ => bZ rfl rfl fE) rfl rfl ?_) | (refine bI ?_; first | refine jG lJ rfl aU qH rfl rfl ?_ | refine jB lJ rfl aU qH rfl rfl ?_ | refine jH lJ rfl aU qH rfl rfl ?_ | refine gY lJ rfl aU qH rfl rfl ?_ | refine mJ lJ rfl aU jO fP rfl rfl ?_ | refine mH lJ rfl aU jO fP rfl rfl ?_ | refine mG lJ rfl aU jO fP rfl rfl ?_ | refine kL lJ rfl aU jO fP rfl rfl ?_) | (refine gN ?_; first | refine aG rfl (fun _ => bY rfl rfl) rfl rfl ?_ | refine aG rfl (fun _ => bM rfl) rfl rfl ?_) | (refine jA ?_; first | refine lI rfl rfl rfl nQ stC rfl rfl ⟨jD, ?_⟩ | refine fH rfl rfl fP tF nQ sZ rfl rfl ⟨jD, ?_⟩) | (refine iM ?_; first | refine dB rfl ?_ | refine bV rfl ?_ | refine kD rfl (by omega) ?_ | refine mU rfl (by omega) ?_ | refine tZ rfl (fun h => ?_) (fun h => ?_) | refine pI rfl (fun h => ?_) (fun h => ?_)))
 (repeat refine aJ ?_); refine dJ [0, 2, 1, 3, 4, 5] [1, 1, 0, 0, 0, 0] mixed (by kernel_rfl) ?_
 repeat (refine iV ?_)
 (refine aW rfl (hS1 _ _ aU) rfl rfl ?_; rintro _ _ _ ⟨rfl, rfl, rfl⟩; refine ⟨jD, ?_⟩)
 repeat (refine iV ?_)
 (refine aW rfl (hS2 _ _ aU) rfl rfl ?_; rintro _ _ _ ⟨rfl, rfl, rfl⟩; refine ⟨jD, ?_⟩)
 by_cases hs : y.sign = z.sign
 ·have hca := aSA hs
  repeat (refine iV ?_)
  (repeat refine aJ ?_); refine dJ [0, 2, 1, 3, 4, 5] [2, 2, 0, 0, 0, 0] mixed (by kernel_rfl) ?_
  repeat (refine iV ?_)
  (refine aW rfl (jK (c := cq) hy hk aU) rfl rfl ?_; rintro _ _ _ ⟨rfl, rfl, rfl⟩; refine ⟨jD, ?_⟩)
  repeat (refine iV ?_)
  (refine aW rfl (jK (c := cq') hz hm aU) rfl rfl ?_; rintro _ _ _ ⟨rfl, rfl, rfl⟩; refine ⟨jD, ?_⟩)
  repeat (refine iV ?_)
  (refine aW rfl (vL (by omega) (by omega) aU aU) rfl rfl ?_; rintro _ _ _ ⟨rfl, rfl, rfl⟩; refine ⟨jD, ?_⟩)
  have hcb : -1 ≤ fJ (y.natAbs : Int) z.natAbs ∧ fJ (y.natAbs : Int) z.natAbs ≤ 1 := by unfold fJ; split <;> (try split) <;> omega
  by_cases hy0 : y < 0
  ·rw [if_pos hy0] at hca
   rw [hca]
   generalize fJ (y.natAbs : Int) z.natAbs = cv at *
   repeat (refine iV ?_)
   refine aH (by first | exact .inl rfl | exact .inr rfl) rfl rfl _ _ dG dF (⟨rfl, rfl, congrArg (Value.int .i64) (by omega)⟩)
  ·rw [if_neg hy0] at hca
   rw [hca]
   generalize fJ (y.natAbs : Int) z.natAbs = cv at *
   repeat (refine iV ?_)
   refine aH (by first | exact .inl rfl | exact .inr rfl) rfl rfl _ _ dG dF (⟨rfl, rfl, rfl⟩)
 ·rw [← aLU hs]
  repeat (refine iV ?_)
  (refine aW rfl (CD.same (fun w _ => aNT _ _ _)) rfl rfl ?_; rintro _ _ _ ⟨rfl, rfl, rfl⟩; refine ⟨jD, ?_⟩)
  repeat (refine iV ?_)
  refine aH (by first | exact .inl rfl | exact .inr rfl) rfl rfl _ _ dG dF (⟨rfl, rfl, rfl⟩)
end
end Go.Proofs.YtgeagiikkeiioaaGreat
namespace Go.Proofs.YtgeagiikkeiioaaGreat
open Go Go.Fx
theorem aFI {x : Int} (h : -9223372036854775808 ≤ x ∧ x < 0) : IntKind.u64.wrap x = x + 18446744073709551616 := by
 simp [IntKind.wrap, IntKind.bits, IntKind.signed]; omega
section
variable {X : List Nat} {w0 : World} {M0 : List Ent} {I0 : List bA}
theorem Of_ok {x : Int} (hx : 0 ≤ x ∧ x ≤ 9223372036854775807) : CD Tryz.prog 131 [.int .i64 x] X w0 M0 I0 (fun v M I => M0 = M ∧ I = iF v x 63 :: I0) := by
 obtain ⟨n, rfl⟩ : ∃ n : Nat, x = (n : Int) := ⟨x.toNat, by omega⟩
 have hn : n ≤ 2 ^ 63 := by omega
 have hsg : ((n : Nat) : Int) = sg False n := by unfold sg; rw [if_neg (fun h => h)]
 refine fB Tryz.func131 rfl Tryz.ntmps131 rfl ?_
 refine aJ ?_
 refine aI ?_
 (refine aN rfl rfl ?_; intro b; refine ⟨jD, ?_⟩)
 repeat (refine iV ?_)
 (refine aW rfl (rR (n := n) (by omega)) rfl rfl ?_; rintro _ _ _ ⟨rfl, q', c', rfl, hc', rfl⟩; refine ⟨jD, ?_⟩)
 have hMd := fun M0 I0 => lL (X := X) (w0 := w0) (M0 := M0) (I0 := I0) (p := ((n : Nat) : Int) < 0) (q := q') (c := c') (k := 63) (by have := eY hn; omega) hc' hn
 have hs2 : sg (((n : Nat) : Int) < 0) n = (n : Int) := by unfold sg; rw [if_neg (by omega)]
 simp only [hs2] at hMd
 (refine aW rfl (hMd _ _ aU) rfl rfl ?_; rintro _ _ _ ⟨rfl, rfl⟩; refine ⟨jD, ?_⟩; refine aZ (List.Mem.head _) (fun q2 c2 e__ hc2 hz2 => ?_); subst e__)
 unfold iv
 repeat (refine iV ?_)
 refine bG (cs := [.bool (B (((n : Nat) : Int) < 0)), .slice q2 (gr ((n : Nat) : Int).natAbs).length c2]) (.inl rfl) rfl rfl aU rfl _ _ dG dF ⟨rfl, rfl⟩
end
end Go.Proofs.YtgeagiikkeiioaaGreat
namespace Go.Proofs.YtgeagiikkeiioaaGreat
open Go Go.Fx
abbrev vI (q : Option Addr) (c : Nat) (z : Int) : Value := .agg #[.bool (B (z < 0)), .slice q (gr z.natAbs).length c]
structure RE where
 q : Rat
 p1 : Option Addr
 c1 : Nat
 p2 : Option Addr
 c2 : Nat
instance : Inhabited RE := ⟨⟨0, none, 0, none, 0⟩⟩
abbrev eR (e : RE) : List Value := [.bool (B (e.q.num < 0)), .slice e.p1 (gr e.q.num.natAbs).length e.c1, .bool (B ((e.q.den : Int) < 0)), .slice e.p2 (gr (e.q.den : Int).natAbs).length e.c2]
abbrev rv (e : RE) : Value := .agg #[.bool (B (e.q.num < 0)), .slice e.p1 (gr e.q.num.natAbs).length e.c1, .bool (B ((e.q.den : Int) < 0)), .slice e.p2 (gr (e.q.den : Int).natAbs).length e.c2]
instance : Sized eR 4 := ⟨fun _ => rfl⟩
instance : Ones eR := ⟨fun m u hu => by
 simp only [eR, List.mem_cons, List.not_mem_nil, or_false] at hu
 rcases hu with rfl | rfl | rfl | rfl <;> rfl⟩
structure IsR (e : RE) (k : Nat) (X : List Nat) (w : World) : Prop where
 num : IsI (vI e.p1 e.c1 e.q.num) e.q.num k X w
 den : IsI (vI e.p2 e.c2 e.q.den) e.q.den k X w
abbrev eQ (e : RE) (k : Nat) : bA := IsR e k
instance (e : RE) (k : Nat) : Fx.Good (IsR e k) := ⟨fun X Y w w' h he hY => ⟨Fx.Good.go (φ := IsI _ _ _) X Y w w' h.num he hY, Fx.Good.go (φ := IsI _ _ _) X Y w w' h.den he hY⟩⟩
theorem IsR.mono {e : RE} {k m : Nat} {X : List Nat} {w : World} (h : IsR e k X w) (hk : k ≤ m) : IsR e m X w := ⟨h.num.mono hk, h.den.mono hk⟩
theorem IsI.le {u : Value} {z : Int} {k : Nat} {X : List Nat} {w : World} (h : IsI u z k X w) : z.natAbs ≤ 2 ^ k := by
 obtain ⟨q, c, h1, h2, h3, h4⟩ := h.ex
 exact h3
structure AllR (es : List RE) (k : Nat) (X : List Nat) (w : World) : Prop where
 go : ∀ e ∈ es, IsR e k X w
abbrev cK (es : List RE) (k : Nat) : bA := AllR es k
instance (es : List RE) (k : Nat) : Fx.Good (AllR es k) := ⟨fun X Y w w' h he hY => ⟨fun e hm => Fx.Good.go (φ := IsR _ _) X Y w w' (h.go e hm) he hY⟩⟩
theorem AllR.mono {es : List RE} {k m : Nat} {X : List Nat} {w : World} (h : AllR es k X w) (hk : k ≤ m) : AllR es m X w := ⟨fun e he => (h.go e he).mono hk⟩
structure Hv (I : List bA) (φ : bA) : Prop where
 go : ∀ (X : List Nat) (w : World), (∀ ψ ∈ I, ψ X w) → φ X w
theorem Hv.mem {I : List bA} {φ : bA} (h : φ ∈ I) : Hv I φ := ⟨fun _ _ hw => hw φ h⟩
theorem Hv.q {I : List bA} {e : RE} {k m : Nat} (h : eQ e k ∈ I) (hk : k ≤ m) : Hv I (eQ e m) := ⟨fun X w hw => IsR.mono (hw _ h) hk⟩
theorem cZ {α : Type} [Inhabited α] {ms : List α} {i : Int} (h : 0 ≤ i ∧ i < ms.length) : gt ms i ∈ ms := List.mem_of_getElem? (aKF h)
theorem Hv.all {I : List bA} {es : List RE} {k m : Nat} {i : Int} (h : cK es k ∈ I) (hi : 0 ≤ i ∧ i < es.length) (hk : k ≤ m) : Hv I (eQ (gt es i) m) := ⟨fun X w hw => ((hw _ h : AllR es k X w).go _ (cZ hi)).mono hk⟩
theorem Hv.inc {I I' : List bA} {φ : bA} (h : Hv I φ) (hs : ∀ ψ ∈ I, ψ ∈ I') : Hv I' φ := ⟨fun X w hw => h.go X w (fun ψ hm => hw ψ (hs ψ hm))⟩
theorem Hv.cons {I : List bA} {φ ψ : bA} (h : Hv I φ) : Hv (ψ :: I) φ := h.inc (fun _ hm => List.mem_cons_of_mem _ hm)
theorem Hv.allMono {I : List bA} {es : List RE} {k m : Nat} (h : cK es k ∈ I) (hk : k ≤ m) : Hv I (cK es m) := ⟨fun X w hw => AllR.mono (hw _ h) hk⟩
section
variable {P : Program} {n : Nat} {Q : Exit → Act → World → Prop} {G : Env} {X : List Nat} {w0 : World} {M M' : List Ent} {I I' : List bA}
theorem Mem.hv {w : World} {φ : bA} [Fx.Good φ] (h : Hv I φ) (hw : Mem X w0 M I w) : Mem X w0 M (φ :: I) w := hw.add (φ := φ) (h.go _ _ (fun ψ hm => (hw.imm ψ hm).2))
theorem bQ {f : FuncId} {vs : List Value} {K : Value → List Ent → List bA → Prop} {φ : bA} [Fx.Good φ] (h : Hv I φ) (k : CD P f vs X w0 M (φ :: I) K) : CD P f vs X w0 M I K := ⟨fun w hw => k.go w (Mem.hv h hw)⟩
theorem bL {c : Code} {φ : bA} [Fx.Good φ] (h : Hv I φ) (k : TD P n c Q G X w0 M (φ :: I)) : TD P n c Q G X w0 M I := aLK (fun _ hw => Mem.hv h hw) k
theorem iA {ops l : List Oper} {m : Fx.Mode} {φ : bA} [Fx.Good φ] (h : Hv I φ) (k : RD P n ops Q m l G X w0 M (φ :: I)) : RD P n ops Q m l G X w0 M I := gH (fun _ hw => Mem.hv h hw) k
theorem fM {ex : Exit} {φ : bA} [Fx.Good φ] (h : Hv I φ) (k : ND n Q ex G X w0 M (φ :: I)) : ND n Q ex G X w0 M I := yL (fun _ hw => Mem.hv h hw) k
theorem aTH {w : World} {e : RE} {k : Nat} (h : Hv I (eQ e k)) (hw : Mem X w0 M I w) : Mem X w0 M (iF (vI e.p1 e.c1 e.q.num) e.q.num k :: iF (vI e.p2 e.c2 e.q.den) e.q.den k :: I) w := by
 have hr : IsR e k (muts M) w := h.go _ _ (fun ψ hm => (hw.imm ψ hm).2)
 exact (hw.add (φ := iF (vI e.p2 e.c2 e.q.den) e.q.den k) hr.den).add (φ := iF (vI e.p1 e.c1 e.q.num) e.q.num k) hr.num
theorem aAI {f : FuncId} {vs : List Value} {K : Value → List Ent → List bA → Prop} {e : RE} {k : Nat} (h : Hv I (eQ e k)) (c : CD P f vs X w0 M (iF (vI e.p1 e.c1 e.q.num) e.q.num k :: iF (vI e.p2 e.c2 e.q.den) e.q.den k :: I) K) : CD P f vs X w0 M I K := ⟨fun w hw => c.go w (aTH h hw)⟩
theorem iB {ops l : List Oper} {m : Fx.Mode} {e : RE} {k : Nat} (h : Hv I (eQ e k)) (c : RD P n ops Q m l G X w0 M (iF (vI e.p1 e.c1 e.q.num) e.q.num k :: iF (vI e.p2 e.c2 e.q.den) e.q.den k :: I)) : RD P n ops Q m l G X w0 M I := gH (fun _ hw => aTH h hw) c
theorem aUE {w : World} {q : Rat} {k k1 k2 : Nat} {p1 p2 : Option Addr} {c1 c2 : Nat} (h1 : iF (vI p1 c1 q.num) q.num k1 ∈ I) (h2 : iF (vI p2 c2 q.den) q.den k2 ∈ I) (hk1 : k1 ≤ k) (hk2 : k2 ≤ k) (hw : Mem X w0 M I w) : Mem X w0 M (eQ ⟨q, p1, c1, p2, c2⟩ k :: I) w :=
 hw.add (φ := eQ ⟨q, p1, c1, p2, c2⟩ k) ⟨IsI.mono (hw.imm _ h1).2 hk1, IsI.mono (hw.imm _ h2).2 hk2⟩
theorem lM {ex : Exit} {q : Rat} {k k1 k2 : Nat} {p1 p2 : Option Addr} {c1 c2 : Nat} (h1 : iF (vI p1 c1 q.num) q.num k1 ∈ I) (h2 : iF (vI p2 c2 q.den) q.den k2 ∈ I) (hk1 : k1 ≤ k) (hk2 : k2 ≤ k) (h : ND n Q ex G X w0 M (eQ ⟨q, p1, c1, p2, c2⟩ k :: I)) : ND n Q ex G X w0 M I := yL (fun _ hw => aUE h1 h2 hk1 hk2 hw) h
theorem monoI {w : World} {u : Value} {z : Int} {k m : Nat} (h : iF u z k ∈ I) (hk : k ≤ m) (hw : Mem X w0 M I w) : Mem X w0 M (iF u z m :: I) w := hw.add (φ := iF u z m) (IsI.mono (hw.imm _ h).2 hk)
theorem aFF {ops l : List Oper} {m : Fx.Mode} {u : Value} {z : Int} {k k2 : Nat} (h : iF u z k ∈ I) (hk : k ≤ k2) (c : RD P n ops Q m l G X w0 M (iF u z k2 :: I)) : RD P n ops Q m l G X w0 M I := gH (fun _ hw => monoI h hk hw) c
theorem IsI.tight {u : Value} {z : Int} {k m : Nat} {X : List Nat} {w : World} (h : IsI u z k X w) (hk : z.natAbs ≤ 2 ^ m) : IsI u z m X w := by
 obtain ⟨q, c, h1, h2, h3, h4⟩ := h.ex
 exact ⟨q, c, h1, h2, hk, h4⟩
theorem mO {ops l : List Oper} {m : Fx.Mode} {u : Value} {z : Int} {k k2 : Nat} (h : iF u z k ∈ I) (hk : z.natAbs ≤ 2 ^ k2) (c : RD P n ops Q m l G X w0 M (iF u z k2 :: I)) : RD P n ops Q m l G X w0 M I := gH (fun _ hw => hw.add (φ := iF u z k2) (IsI.tight (hw.imm _ h).2 hk)) c
end
def RQ (q : Rat) (k : Nat) (M0 : List Ent) (I0 : List bA) (v : Value) (M : List Ent) (I : List bA) : Prop := M0 = M ∧ ∃ e : RE, v = rv e ∧ e.q = q ∧ I = eQ e k :: I0
def RQc (q : Rat) (k : Nat) (M0 : List Ent) (I0 : List bA) (v : Value) (M : List Ent) (I : List bA) : Prop := M0 = M ∧ ∃ e : RE, v = .tuple #[rv e, .int .i64 0] ∧ e.q = q ∧ I = eQ e k :: I0
end Go.Proofs.YtgeagiikkeiioaaGreat
