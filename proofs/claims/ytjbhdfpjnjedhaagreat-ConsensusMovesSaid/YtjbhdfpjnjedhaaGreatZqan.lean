/- integer: Of, sum integer: Gcd integer: Compare integer: Of Fractions in memory: records, facts, what follows from facts. -/
import Derived.Test.YtjbhdfpjnjedhaaGreatZqam
import Derived.Test.YtjbhdfpjnjedhaaGreatZqak
import Derived.Test.YtjbhdfpjnjedhaaGreatZqaf
set_option linter.unusedSimpArgs false
set_option linter.unusedVariables false
set_option maxRecDepth 100000
set_option maxHeartbeats 4000000
namespace Go.Proofs.YtjbhdfpjnjedhaaGreat
open Go Go.Fx
section
variable {X : List Nat} {w0 : World} {M0 : List Ent} {I0 : List aT}
theorem aUO {p q : Prop} [Decidable p] [Decidable q] {m n : Nat} (h : p ↔ q) : sg p (m + n) = sg p m + sg q n := by
 unfold sg
 by_cases hp : p
 ·rw [if_pos hp, if_pos hp, if_pos (h.1 hp)]; omega
 ·rw [if_neg hp, if_neg hp, if_neg (fun hq => hp (h.2 hq))]; omega
theorem aLE {p q : Prop} [Decidable p] [Decidable q] {m n : Nat} (h : ¬ (p ↔ q)) (hle : n ≤ m) : sg p (m - n) = sg p m + sg q n := by
 unfold sg
 by_cases hp : p
 ·rw [if_pos hp, if_pos hp, if_neg (fun hq => h ⟨fun _ => hq, fun _ => hp⟩)]; omega
 ·rw [if_neg hp, if_neg hp, if_pos (by rcases Classical.em q with hq | hq; exact hq; exact absurd ⟨fun h => absurd h hp, fun h => absurd h hq⟩ h)]; omega
theorem aRV {pn qn : Prop} [Decidable pn] [Decidable qn] {p q : Option Addr} {m n cp cq k : Nat} (hm : (gr m).length ≤ 50000000000) (hn : (gr n).length ≤ 50000000000) (hk : m + n ≤ 2 ^ k) (hk2 : k ≤ 1000000000000) (hp : aR p (recs eG (gr m)) ∈ I0) (hq : aR q (recs eG (gr n)) ∈ I0) :
  CD Tryz.prog 221 [.bool (B pn), .slice p (gr m).length cp, .bool (B qn), .slice q (gr n).length cq] X w0 M0 I0 (fun v M I => M0 = M ∧ I = kR v (sg pn m + sg qn n) k :: I0) := by
 have hC := fun M0 I0 => vH (X := X) (w0 := w0) (M0 := M0) (I0 := I0) (p := p) (q := q) (m := m) (n := n) (cp := cp) (cq := cq) (by omega) (by omega)
 have hP := fun M0 I0 => aMH (X := X) (w0 := w0) (M0 := M0) (I0 := I0) (p := p) (q := q) (m := m) (n := n) (cp := cp) (cq := cq) (by omega) (by omega)
 have hM := fun M0 I0 (hle : n ≤ m) => aAN (X := X) (w0 := w0) (M0 := M0) (I0 := I0) (p := p) (q := q) (m := m) (n := n) (cp := cp) (cq := cq) (by omega) hle
 have hM2 := fun M0 I0 (hle : m ≤ n) => aAN (X := X) (w0 := w0) (M0 := M0) (I0 := I0) (p := q) (q := p) (m := n) (n := m) (cp := cq) (cq := cp) (by omega) hle
 have hl1 := jU hk hk2
 refine dW Tryz.func221 rfl Tryz.ntmps221 rfl ?_
 refine aH ?_
 refine aI ?_
 (refine aF rfl rfl ?_; intro b3; refine ⟨jP, ?_⟩)
 by_cases hpq : pn ↔ qn
 ·repeat (refine jK ?_)
  (refine aS rfl (hP _ _ aP aP) rfl rfl ?_; rintro _ _ _ ⟨rfl, q3, c3, rfl, hc3, rfl⟩; refine ⟨jP, ?_⟩)
  rw [← aUO hpq]
  (refine aS rfl (mI (p := pn) (k := k) (by omega) hc3 hk aP) rfl rfl ?_; rintro _ _ _ ⟨rfl, rfl⟩; refine ⟨jP, ?_⟩; refine dR (List.Mem.head _) (fun q2 c2 e__ hc2 hz2 => ?_); subst e__)
  unfold iv
  repeat (refine jK ?_)
  refine bJ (cs := [.bool (B (sg pn (m + n) < 0)), .slice q2 (gr (sg pn (m + n)).natAbs).length c2]) (.inl rfl) rfl rfl aP rfl _ _ cO cK ⟨rfl, rfl⟩
 ·by_cases hge : n ≤ m
  ·have hcv := aLN (x := (m : Int)) (y := (n : Int)) (by omega)
   have hk3 : m - n ≤ 2 ^ k := by omega
   have hl3 := jU hk3 hk2
   repeat (refine jK ?_)
   (refine aS rfl (hC _ _ aP aP) rfl rfl ?_; rintro _ _ _ ⟨rfl, rfl, rfl⟩; refine ⟨jP, ?_⟩)
   repeat (refine jK ?_)
   (refine aS rfl (hM _ _ hge aP aP) rfl rfl ?_; rintro _ _ _ ⟨rfl, q3, c3, rfl, hc3, rfl⟩; refine ⟨jP, ?_⟩)
   rw [← aLE hpq hge]
   (refine aS rfl (mI (p := pn) (k := k) (by omega) hc3 hk3 aP) rfl rfl ?_; rintro _ _ _ ⟨rfl, rfl⟩; refine ⟨jP, ?_⟩; refine dR (List.Mem.head _) (fun q2 c2 e__ hc2 hz2 => ?_); subst e__)
   unfold iv
   repeat (refine jK ?_)
   refine bJ (cs := [.bool (B (sg pn (m - n) < 0)), .slice q2 (gr (sg pn (m - n)).natAbs).length c2]) (.inl rfl) rfl rfl aP rfl _ _ cO cK ⟨rfl, rfl⟩
  ·have hcv := aLQ (x := (m : Int)) (y := (n : Int)) (by omega)
   have hk3 : n - m ≤ 2 ^ k := by omega
   have hl3 := jU hk3 hk2
   have hs : sg pn m + sg qn n = sg qn (n - m) := by rw [Int.add_comm, ← aLE (fun h => hpq h.symm) (by omega)]
   repeat (refine jK ?_)
   (refine aS rfl (hC _ _ aP aP) rfl rfl ?_; rintro _ _ _ ⟨rfl, rfl, rfl⟩; refine ⟨jP, ?_⟩)
   repeat (refine jK ?_)
   (refine aS rfl (hM2 _ _ (by omega) aP aP) rfl rfl ?_; rintro _ _ _ ⟨rfl, q3, c3, rfl, hc3, rfl⟩; refine ⟨jP, ?_⟩)
   rw [hs]
   (refine aS rfl (mI (p := qn) (k := k) (by omega) hc3 hk3 aP) rfl rfl ?_; rintro _ _ _ ⟨rfl, rfl⟩; refine ⟨jP, ?_⟩; refine dR (List.Mem.head _) (fun q2 c2 e__ hc2 hz2 => ?_); subst e__)
   unfold iv
   repeat (refine jK ?_)
   refine bJ (cs := [.bool (B (sg qn (n - m) < 0)), .slice q2 (gr (sg qn (n - m)).natAbs).length c2]) (.inl rfl) rfl rfl aP rfl _ _ cO cK ⟨rfl, rfl⟩
theorem aPH {u v : Value} {y z : Int} {k m c : Nat} (hk : k ≤ 1000000000000) (hm : m ≤ 1000000000000) (hc0 : c ≤ 1000000000000) (hs : 2 ^ k + 2 ^ m ≤ 2 ^ c) (hu : kR u y k ∈ I0) (hv : kR v z m ∈ I0) : CD Tryz.prog 166 [u, v] X w0 M0 I0 (fun v M I => M0 = M ∧ I = kR v (y + z) c :: I0) := by
 refine iQ hu (fun q cq e hc hy => ?_)
 subst e
 refine iQ (List.Mem.tail _ hv) (fun q' cq' e hc' hz => ?_)
 subst e
 have hl := jU hy (by omega)
 have hl' := jU hz (by omega)
 unfold iv
 refine dW Tryz.func166 rfl Tryz.ntmps166 rfl ?_
 refine aH ?_
 refine aI ?_
 (refine jX rfl rfl rfl ?_; intro b; refine ⟨jP, ?_⟩)
 (refine jX rfl rfl rfl ?_; intro b2; refine ⟨jP, ?_⟩)
 (refine aF rfl rfl ?_; intro b3; refine ⟨jP, ?_⟩)
 repeat' (first | refine aI ?_ | refine jA ?_ | refine gV ?_ | refine fC ?_ | refine eQ ?_ | refine gT ?_ | refine gK ?_ | refine eY ?_ | refine fA ?_ | refine jF ?_ | refine jB ?_ | refine iZ ?_ | refine jC rfl ?_ | refine aN ?_ | (refine gI ?_; first | refine fM rfl rfl rfl ?_ | (refine fZ rfl rfl ?_; refine eF rfl rfl rfl jP ?_) | refine fK rfl rfl (by omega) ?_ | refine fU rfl rfl (by omega) ?_ | refine pI rfl rfl (fun h => ?_) (fun h => ?_) | (fail_if_success (refine rH rfl ?_); refine nR rfl rfl (fun h => ?_) (fun h => ?_))) | (refine bI ?_; refine aC rfl (fun _ => bY rfl) rfl rfl ?_) | refine aC rfl (fun _ => aY rfl) rfl rfl ?_ | (refine gB ?_; first | refine aC rfl (fun _ => bC rfl rfl w_) rfl rfl ?_ | refine aC rfl (fun _ => bE rfl rfl w_) rfl rfl ?_ | refine aC rfl (fun _ => dH rfl rfl w_) rfl rfl ?_ | refine aC rfl (fun _ => dI rfl rfl (by omega) q_) rfl rfl ?_ | refine aC rfl (fun _ => dJ rfl rfl (by omega) rfl) rfl rfl ?_ | refine aC rfl (fun _ => bW rfl rfl) rfl rfl ?_ | refine aC rfl (fun _ => dC rfl rfl) rfl rfl ?_ | refine aC rfl (fun _ => dA rfl rfl) rfl rfl ?_) | (refine bI ?_; first | refine aC rfl (fun _ => dE rfl w_) rfl rfl ?_) | (refine fV ?_; first | refine aC rfl (fun _ => bT rfl w_) rfl rfl ?_) | (refine fQ ?_; first | refine aC rfl (fun _ => bD rfl) rfl rfl ?_ | refine aC rfl (fun _ => bZ rfl rfl) rfl rfl ?_ | refine aC rfl (fun _ => bX rfl rfl) rfl rfl ?_ | refine aC rfl (fun _ => cB rfl rfl rfl) rfl rfl ?_) | (refine gF ?_; first | refine fJ rfl (by decide) rfl rfl ?_ | refine iO rfl (by decide) rfl rfl ?_) | (refine fO ?_; first | refine aC rfl (fun _ => bP rfl) rfl rfl ?_) | (refine gG ?_; first | refine iM rfl rfl iA rfl rfl ?_ | refine iP lU rfl rfl iA aP iU rfl rfl ?_ | refine iL lU rfl rfl iA aP iU rfl rfl ?_ | refine aC rfl (fun _ => bG rfl rfl iA) rfl rfl ?_) | (refine fT ?_; first | refine iR lU rfl aP oP rfl rfl ?_ | refine iK lU rfl aP oP rfl rfl ?_ | refine fH lU rfl aP oP rfl rfl ?_ | refine gH lU rfl aP oP rfl rfl ?_ | refine kW lU rfl aP iT fB rfl rfl ?_ | refine lG lU rfl aP iT fB rfl rfl ?_ | refine lI lU rfl aP iT fB rfl rfl ?_ | refine jT lU rfl aP iT fB rfl rfl ?_) | (refine fP ?_; first | refine aC rfl (fun _ => bH rfl rfl) rfl rfl ?_ | refine aC rfl (fun _ => bA rfl) rfl rfl ?_) | (refine iC ?_; first | refine jR rfl rfl rfl nJ stC rfl rfl ⟨jP, ?_⟩ | refine fD rfl rfl fB qV nJ qQ rfl rfl ⟨jP, ?_⟩) | (refine gU ?_; first | refine bM rfl ?_ | refine bB rfl ?_ | refine jE rfl (by omega) ?_ | refine lH rfl (by omega) ?_ | refine rF rfl (fun h => ?_) (fun h => ?_) | refine nQ rfl (fun h => ?_) (fun h => ?_)))
 (repeat refine aH ?_); refine cZ 3 [0, 1, 2, 4, 5, 6, 3, 7, 8, 9] [3, 2, 2, 3, 2, 2, 0, 0, 0, 0] mixed (by kernel_rfl) ?_
 repeat (refine jK ?_)
 (refine aS rfl (iV (c := cq) hy (by omega) aP) rfl rfl ?_; rintro _ _ _ ⟨rfl, rfl, rfl⟩; refine ⟨jP, ?_⟩)
 repeat (refine jK ?_)
 (refine aS rfl (iV (c := cq') hz (by omega) aP) rfl rfl ?_; rintro _ _ _ ⟨rfl, rfl, rfl⟩; refine ⟨jP, ?_⟩)
 repeat (refine jK ?_)
 have hyz : y.natAbs + z.natAbs ≤ 2 ^ c := Nat.le_trans (Nat.add_le_add hy hz) hs
 have hS := fun M0 I0 => aRV (X := X) (w0 := w0) (M0 := M0) (I0 := I0) (p := q) (q := q') (cp := cq) (cq := cq') (pn := y < 0) (qn := z < 0) (k := c) (by omega) (by omega) hyz hc0
 simp only [aLT] at hS
 (refine aS rfl (hS _ _ aP aP) rfl rfl ?_; rintro _ _ _ ⟨rfl, rfl⟩; refine ⟨jP, ?_⟩; refine dR (List.Mem.head _) (fun q2 c2 e__ hc2 hz2 => ?_); subst e__)
 unfold iv
 repeat (refine jK ?_)
 refine bJ (cs := [.bool (B (y + z < 0)), .slice q2 (gr (y + z).natAbs).length c2]) (.inl rfl) rfl rfl aP rfl _ _ cO cK ⟨rfl, rfl⟩
end
end Go.Proofs.YtjbhdfpjnjedhaaGreat
namespace Go.Proofs.YtjbhdfpjnjedhaaGreat
open Go Go.Fx
section
variable {X : List Nat} {w0 : World} {M0 : List Ent} {I0 : List aT}
theorem aFO {u v : Value} {y z : Int} {k0 m : Nat} (hk : k0 ≤ 500000000000) (hm : m ≤ 500000000000) (hu : kR u y k0 ∈ I0) (hv : kR v z m ∈ I0) : CD Tryz.prog 195 [u, v] X w0 M0 I0 (fun v M I => M0 = M ∧ I = kR v (Int.gcd y z) (k0 + m) :: I0) := by
 refine iQ hu (fun q cq e hc hy => ?_)
 subst e
 refine iQ (List.Mem.tail _ hv) (fun q' cq' e hc' hz => ?_)
 subst e
 have hy2 : y.natAbs ≤ 2 ^ (k0 + m) := Nat.le_trans hy (Nat.pow_le_pow_right (by decide) (by omega))
 have hz2 : z.natAbs ≤ 2 ^ (k0 + m) := Nat.le_trans hz (Nat.pow_le_pow_right (by decide) (by omega))
 unfold iv
 refine dW Tryz.func195 rfl Tryz.ntmps195 rfl ?_
 refine aH ?_
 refine aI ?_
 (refine jX rfl rfl rfl ?_; intro b; refine ⟨jP, ?_⟩)
 (refine jX rfl rfl rfl ?_; intro b2; refine ⟨jP, ?_⟩)
 (refine aF rfl rfl ?_; intro b3; refine ⟨jP, ?_⟩)
 repeat' (first | refine aI ?_ | refine jA ?_ | refine gV ?_ | refine fC ?_ | refine eQ ?_ | refine gT ?_ | refine gK ?_ | refine eY ?_ | refine fA ?_ | refine jF ?_ | refine jB ?_ | refine iZ ?_ | refine jC rfl ?_ | refine aN ?_ | (refine gI ?_; first | refine fM rfl rfl rfl ?_ | (refine fZ rfl rfl ?_; refine eF rfl rfl rfl jP ?_) | refine fK rfl rfl (by omega) ?_ | refine fU rfl rfl (by omega) ?_ | refine pI rfl rfl (fun h => ?_) (fun h => ?_) | (fail_if_success (refine rH rfl ?_); refine nR rfl rfl (fun h => ?_) (fun h => ?_))) | (refine bI ?_; refine aC rfl (fun _ => bY rfl) rfl rfl ?_) | refine aC rfl (fun _ => aY rfl) rfl rfl ?_ | (refine gB ?_; first | refine aC rfl (fun _ => bC rfl rfl w_) rfl rfl ?_ | refine aC rfl (fun _ => bE rfl rfl w_) rfl rfl ?_ | refine aC rfl (fun _ => dH rfl rfl w_) rfl rfl ?_ | refine aC rfl (fun _ => dI rfl rfl (by omega) q_) rfl rfl ?_ | refine aC rfl (fun _ => dJ rfl rfl (by omega) rfl) rfl rfl ?_ | refine aC rfl (fun _ => bW rfl rfl) rfl rfl ?_ | refine aC rfl (fun _ => dC rfl rfl) rfl rfl ?_ | refine aC rfl (fun _ => dA rfl rfl) rfl rfl ?_) | (refine bI ?_; first | refine aC rfl (fun _ => dE rfl w_) rfl rfl ?_) | (refine fV ?_; first | refine aC rfl (fun _ => bT rfl w_) rfl rfl ?_) | (refine fQ ?_; first | refine aC rfl (fun _ => bD rfl) rfl rfl ?_ | refine aC rfl (fun _ => bZ rfl rfl) rfl rfl ?_ | refine aC rfl (fun _ => bX rfl rfl) rfl rfl ?_ | refine aC rfl (fun _ => cB rfl rfl rfl) rfl rfl ?_) | (refine gF ?_; first | refine fJ rfl (by decide) rfl rfl ?_ | refine iO rfl (by decide) rfl rfl ?_) | (refine fO ?_; first | refine aC rfl (fun _ => bP rfl) rfl rfl ?_) | (refine gG ?_; first | refine iM rfl rfl iA rfl rfl ?_ | refine iP lU rfl rfl iA aP iU rfl rfl ?_ | refine iL lU rfl rfl iA aP iU rfl rfl ?_ | refine aC rfl (fun _ => bG rfl rfl iA) rfl rfl ?_) | (refine fT ?_; first | refine iR lU rfl aP oP rfl rfl ?_ | refine iK lU rfl aP oP rfl rfl ?_ | refine fH lU rfl aP oP rfl rfl ?_ | refine gH lU rfl aP oP rfl rfl ?_ | refine kW lU rfl aP iT fB rfl rfl ?_ | refine lG lU rfl aP iT fB rfl rfl ?_ | refine lI lU rfl aP iT fB rfl rfl ?_ | refine jT lU rfl aP iT fB rfl rfl ?_) | (refine fP ?_; first | refine aC rfl (fun _ => bH rfl rfl) rfl rfl ?_ | refine aC rfl (fun _ => bA rfl) rfl rfl ?_) | (refine iC ?_; first | refine jR rfl rfl rfl nJ stC rfl rfl ⟨jP, ?_⟩ | refine fD rfl rfl fB qV nJ qQ rfl rfl ⟨jP, ?_⟩) | (refine gU ?_; first | refine bM rfl ?_ | refine bB rfl ?_ | refine jE rfl (by omega) ?_ | refine lH rfl (by omega) ?_ | refine rF rfl (fun h => ?_) (fun h => ?_) | refine nQ rfl (fun h => ?_) (fun h => ?_)))
 (repeat refine aH ?_); refine cZ 3 [0, 2, 1, 3, 4, 5] [1, 1, 0, 0, 0, 0] mixed (by kernel_rfl) ?_
 repeat (refine jK ?_)
 (refine aS rfl (iV (c := cq) hy (by omega) aP) rfl rfl ?_; rintro _ _ _ ⟨rfl, rfl, rfl⟩; refine ⟨jP, ?_⟩)
 repeat (refine jK ?_)
 (refine aS rfl (iV (c := cq') hz (by omega) aP) rfl rfl ?_; rintro _ _ _ ⟨rfl, rfl, rfl⟩; refine ⟨jP, ?_⟩)
 repeat (refine jK ?_)
 refine aZ [4] rfl (fun k G M I => ∃ (a b : Nat) (pa pb : Option Addr) (ca cb : Nat), k = b ∧ a ≤ 2 ^ (k0 + m) ∧ b ≤ 2 ^ (k0 + m) ∧ xW pa a ca ∧ xW pb b cb ∧ Nat.gcd a b = Nat.gcd y.natAbs z.natAbs ∧ G = [(5, .slice pa (gr a).length ca), (6, .slice pb (gr b).length cb)] ∧ M = .blk b3 [.bool false, .slice none 0 0] 48 :: M0 ∧ I = aR pa (recs eG (gr a)) :: aR pb (recs eG (gr b)) :: I0) (z.natAbs) _ _ _ aL cO cK (⟨y.natAbs, z.natAbs, q, q', cq, cq', rfl, hy2, hz2, hc, hc', rfl, rfl, rfl, rfl⟩) ?_
 rintro k G M I ⟨a, b', pa, pb, ca, cb, rfl, ha, hb, oa, ob, hg, rfl, rfl, rfl⟩
 have la := gX ha
 have lb := gX hb
 have hW1 := fun M0 I0 => zO (X := X) (w0 := w0) (M0 := M0) (I0 := I0) (q := pa) (n := a) (c := ca) (by omega)
 have hW2 := fun M0 I0 => zO (X := X) (w0 := w0) (M0 := M0) (I0 := I0) (q := pb) (n := k) (c := cb) (by omega)
 by_cases hk0 : k = 0
 ·subst hk0
  have hl0 : (gr 0).length = 0 := by rw [kL]; rfl
  rw [Nat.gcd_zero_right] at hg
  have hz : (Int.gcd y z : Int) = sg False a := by unfold sg; rw [if_neg (fun h => h), hg]; rfl
  repeat (refine jK ?_)
  (refine aS rfl (xY (a := gr a) (by omega) oa.2 aP) rfl rfl ?_; rintro _ _ _ ⟨rfl, q', c', rfl, rfl⟩; refine ⟨jP, ?_⟩)
  refine vB (fun w hw => And.intro (hw.rowLe (List.Mem.head _)) ((hw.rowS (List.Mem.head _)).2.imp id And.right)) (fun hc' => ?_)
  refine jY xN ?_
  repeat (refine jK ?_)
  rw [hz]
  have hMd := fun M0 I0 => mI (X := X) (w0 := w0) (M0 := M0) (I0 := I0) (p := False) (q := q') (c := c') (k := k0 + m) (by omega) hc' ha
  simp only [dP (show ¬ False from id)] at hMd
  (refine aS rfl (hMd _ _ aP) rfl rfl ?_; rintro _ _ _ ⟨rfl, rfl⟩; refine ⟨jP, ?_⟩; refine dR (List.Mem.head _) (fun q2 c2 e__ hc2 hz2 => ?_); subst e__)
  unfold iv
  repeat (refine jK ?_)
  refine bJ (cs := [.bool (B (sg False a < 0)), .slice q2 (gr (sg False a).natAbs).length c2]) (.inl rfl) rfl rfl aP rfl _ _ cO cK ⟨rfl, rfl⟩
 ·have hlk : 0 < (gr k).length := List.length_pos_iff.2 (fun e => hk0 (uF.1 e))
  by_cases hw : (gr a).length ≤ 2 ∧ (gr k).length ≤ 2
  ·have hb9 : ∀ t : Nat, (gr t).length ≤ 2 → t < 1000000000000000000 := fun t ht => by
    have := nO (gW t)
    rw [iG] at this
    have h2 : (1000000000 : Int) ^ (gr t).length ≤ 1000000000 ^ 2 := nW ht
    omega
   have a9 := hb9 a hw.1
   have k9 := hb9 k hw.2
   rw [if_pos hw.1, bV hw.1] at hW1
   rw [if_pos hw.2, bV hw.2] at hW2
   repeat (refine jK ?_)
   (refine aS rfl (hW1 _ _ aP) rfl rfl ?_; rintro _ _ _ ⟨rfl, rfl, rfl⟩; refine ⟨jP, ?_⟩)
   repeat (refine jK ?_)
   (refine aS rfl (hW2 _ _ aP) rfl rfl ?_; rintro _ _ _ ⟨rfl, rfl, rfl⟩; refine ⟨jP, ?_⟩)
   repeat (refine jK ?_)
   refine aZ [4] rfl (fun k G M I => ∃ (x x2 : Nat), k = x2 ∧ x < 1000000000000000000 ∧ x2 < 1000000000000000000 ∧ x ≤ 2 ^ (k0 + m) ∧ x2 ≤ 2 ^ (k0 + m) ∧ Nat.gcd x x2 = Nat.gcd y.natAbs z.natAbs ∧ G = [(7, .int .u64 x), (9, .int .u64 x2)] ∧ M = .blk b3 [.bool false, .slice none 0 0] 48 :: M0 ∧ I0 = I) (k) _ _ _ aL cO cK (⟨a, k, rfl, a9, k9, ha, hb, hg, rfl, rfl, rfl⟩) ?_
   rintro k G M I ⟨x, x2, rfl, hx9, hx29, hx, hx2, hxg, rfl, rfl, rfl⟩
   by_cases hx0 : k = 0
   ·subst hx0
    rw [Nat.gcd_zero_right] at hxg
    have hz : (Int.gcd y z : Int) = sg False x := by unfold sg; rw [if_neg (fun h => h), hxg]; rfl
    repeat (refine jK ?_)
    (refine aS rfl (sP (n := x) (by omega)) rfl rfl ?_; rintro _ _ _ ⟨rfl, q', c', rfl, hc', rfl⟩; refine ⟨jP, ?_⟩)
    rw [hz]
    have hMd := fun M0 I0 => mI (X := X) (w0 := w0) (M0 := M0) (I0 := I0) (p := False) (q := q') (c := c') (k := k0 + m) (by have := gX hx; omega) hc' hx
    simp only [dP (show ¬ False from id)] at hMd
    (refine aS rfl (hMd _ _ aP) rfl rfl ?_; rintro _ _ _ ⟨rfl, rfl⟩; refine ⟨jP, ?_⟩; refine dR (List.Mem.head _) (fun q2 c2 e__ hc2 hz2 => ?_); subst e__)
    unfold iv
    repeat (refine jK ?_)
    refine bJ (cs := [.bool (B (sg False x < 0)), .slice q2 (gr (sg False x).natAbs).length c2]) (.inl rfl) rfl rfl aP rfl _ _ cO cK ⟨rfl, rfl⟩
   ·have e2 : ((x : Int)).tmod (k : Int) = ((x % k : Nat) : Int) := by rw [Int.tmod_eq_emod_of_nonneg (by omega), Int.natCast_emod]
    have hmod := Nat.mod_lt x (show k > 0 by omega)
    have hg2 : Nat.gcd k (x % k) = Nat.gcd y.natAbs z.natAbs := by rw [← hxg, Nat.gcd_comm x k, Nat.gcd_rec k x, Nat.gcd_comm]
    repeat (refine jK ?_)
    (repeat refine aH ?_); refine gY [0, 1, 2, 3, 4, 5] [0, 0, 0, 0, 0, 0] mixed (by kernel_rfl) ?_
    repeat (refine jK ?_)
    rw [e2]
    refine aK (x % k) _ _ _ (by first | omega | (simp only [List.length_append, List.length_cons, List.length_nil]; omega)) aL cO cK (⟨k, x % k, rfl, by omega, by omega, hx2, by omega, hg2, rfl, rfl, rfl⟩)
  ·have hO := fun M0 I0 => aML (X := X) (w0 := w0) (M0 := M0) (I0 := I0) (p := pa) (q := pb) (m := a) (n := k) (cp := ca) (cq := cb) (by omega) (by omega) (by omega) oa
   have hmod := Nat.mod_lt a (show k > 0 by omega)
   have hg2 : Nat.gcd k (a % k) = Nat.gcd y.natAbs z.natAbs := by rw [← hg, Nat.gcd_comm a k, Nat.gcd_rec k a, Nat.gcd_comm]
   by_cases hw1 : (gr a).length ≤ 2
   ·have hw2 : ¬ (gr k).length ≤ 2 := fun h => hw ⟨hw1, h⟩
    rw [if_pos hw1, bV hw1] at hW1
    rw [if_neg hw2, dP hw2] at hW2
    repeat (refine jK ?_)
    (refine aS rfl (hW1 _ _ aP) rfl rfl ?_; rintro _ _ _ ⟨rfl, rfl, rfl⟩; refine ⟨jP, ?_⟩)
    repeat (refine jK ?_)
    (refine aS rfl (hW2 _ _ aP) rfl rfl ?_; rintro _ _ _ ⟨rfl, rfl, rfl⟩; refine ⟨jP, ?_⟩)
    repeat (refine jK ?_)
    (refine aS rfl (hO _ _ aP aP) rfl rfl ?_; rintro _ _ _ ⟨rfl, p1, c1, p2, c2, ho1, ho2, rfl, rfl⟩; refine ⟨jP, ?_⟩)
    repeat (refine jK ?_)
    refine aK (a % k) _ _ _ (by first | omega | (simp only [List.length_append, List.length_cons, List.length_nil]; omega)) aL cO cK (⟨k, a % k, pb, p2, cb, c2, rfl, hb, by omega, ob, ho2, hg2, rfl, rfl, rfl⟩)
   ·rw [if_neg hw1, dP hw1] at hW1
    repeat (refine jK ?_)
    (refine aS rfl (hW1 _ _ aP) rfl rfl ?_; rintro _ _ _ ⟨rfl, rfl, rfl⟩; refine ⟨jP, ?_⟩)
    repeat (refine jK ?_)
    (refine aS rfl (hW2 _ _ aP) rfl rfl ?_; rintro _ _ _ ⟨rfl, rfl, rfl⟩; refine ⟨jP, ?_⟩)
    repeat (refine jK ?_)
    (refine aS rfl (hO _ _ aP aP) rfl rfl ?_; rintro _ _ _ ⟨rfl, p1, c1, p2, c2, ho1, ho2, rfl, rfl⟩; refine ⟨jP, ?_⟩)
    repeat (refine jK ?_)
    refine aK (a % k) _ _ _ (by first | omega | (simp only [List.length_append, List.length_cons, List.length_nil]; omega)) aL cO cK (⟨k, a % k, pb, p2, cb, c2, rfl, hb, by omega, ob, ho2, hg2, rfl, rfl, rfl⟩)
end
end Go.Proofs.YtjbhdfpjnjedhaaGreat
namespace Go.Proofs.YtjbhdfpjnjedhaaGreat
open Go Go.Fx
theorem aNK {y z : Int} (h : y.sign ≠ z.sign) : jO y.sign z.sign = jO y z := by
 unfold jO
 rcases Int.lt_trichotomy y 0 with hy | hy | hy <;> rcases Int.lt_trichotomy z 0 with hz | hz | hz <;>
  simp_all [Int.sign_eq_one_of_pos, Int.sign_eq_neg_one_of_neg] <;> omega
theorem aTX {y z : Int} (h : y.sign = z.sign) : jO y z = if y < 0 then -jO y.natAbs z.natAbs else jO y.natAbs z.natAbs := by
 have h1 : y < 0 ↔ z < 0 := by rw [← Int.sign_eq_neg_one_iff_neg, ← Int.sign_eq_neg_one_iff_neg, h]
 unfold jO
 by_cases hy : y < 0
 ·have hz := h1.1 hy
  rw [if_pos hy]
  split <;> split <;> (try split) <;> (try split) <;> omega
 ·have hz : ¬ z < 0 := fun hz => hy (h1.2 hz)
  rw [if_neg hy]
  split <;> split <;> (try split) <;> (try split) <;> omega
section
variable {X : List Nat} {w0 : World} {M0 : List Ent} {I0 : List aT}
theorem vV {u v : Value} {y z : Int} {k m : Nat} (hk : k ≤ 1000000000000) (hm : m ≤ 1000000000000) (hu : kR u y k ∈ I0) (hv : kR v z m ∈ I0) : CD Tryz.prog 147 [u, v] X w0 M0 I0 (fun v M I => M0 = M ∧ I0 = I ∧ v = .int .i64 (jO y z)) := by
 have hS1 := fun M0 I0 h => oO (X := X) (w0 := w0) (M0 := M0) (I0 := I0) (u := u) (z := y) hk h
 have hS2 := fun M0 I0 h => oO (X := X) (w0 := w0) (M0 := M0) (I0 := I0) (u := v) (z := z) hm h
 refine iQ hu (fun q cq e hc hy => ?_)
 subst e
 refine iQ (List.Mem.tail _ hv) (fun q' cq' e hc' hz => ?_)
 subst e
 have hl := jU hy hk
 have hl' := jU hz hm
 unfold iv at *
 refine dW Tryz.func147 rfl Tryz.ntmps147 rfl ?_
 refine aH ?_
 refine aI ?_
 (refine jX rfl rfl rfl ?_; intro b; refine ⟨jP, ?_⟩)
 (refine jX rfl rfl rfl ?_; intro b2; refine ⟨jP, ?_⟩)
 repeat' (first | refine aI ?_ | refine jA ?_ | refine gV ?_ | refine fC ?_ | refine eQ ?_ | refine gT ?_ | refine gK ?_ | refine eY ?_ | refine fA ?_ | refine jF ?_ | refine jB ?_ | refine iZ ?_ | refine jC rfl ?_ | refine aN ?_ | (refine gI ?_; first | refine fM rfl rfl rfl ?_ | (refine fZ rfl rfl ?_; refine eF rfl rfl rfl jP ?_) | refine fK rfl rfl (by omega) ?_ | refine fU rfl rfl (by omega) ?_ | refine pI rfl rfl (fun h => ?_) (fun h => ?_) | (fail_if_success (refine rH rfl ?_); refine nR rfl rfl (fun h => ?_) (fun h => ?_))) | (refine bI ?_; refine aC rfl (fun _ => bY rfl) rfl rfl ?_) | refine aC rfl (fun _ => aY rfl) rfl rfl ?_ | (refine gB ?_; first | refine aC rfl (fun _ => bC rfl rfl w_) rfl rfl ?_ | refine aC rfl (fun _ => bE rfl rfl w_) rfl rfl ?_ | refine aC rfl (fun _ => dH rfl rfl w_) rfl rfl ?_ | refine aC rfl (fun _ => dI rfl rfl (by omega) q_) rfl rfl ?_ | refine aC rfl (fun _ => dJ rfl rfl (by omega) rfl) rfl rfl ?_ | refine aC rfl (fun _ => bW rfl rfl) rfl rfl ?_ | refine aC rfl (fun _ => dC rfl rfl) rfl rfl ?_ | refine aC rfl (fun _ => dA rfl rfl) rfl rfl ?_) | (refine bI ?_; first | refine aC rfl (fun _ => dE rfl w_) rfl rfl ?_) | (refine fV ?_; first | refine aC rfl (fun _ => bT rfl w_) rfl rfl ?_) | (refine fQ ?_; first | refine aC rfl (fun _ => bD rfl) rfl rfl ?_ | refine aC rfl (fun _ => bZ rfl rfl) rfl rfl ?_ | refine aC rfl (fun _ => bX rfl rfl) rfl rfl ?_ | refine aC rfl (fun _ => cB rfl rfl rfl) rfl rfl ?_) | (refine gF ?_; first | refine fJ rfl (by decide) rfl rfl ?_ | refine iO rfl (by decide) rfl rfl ?_) | (refine fO ?_; first | refine aC rfl (fun _ => bP rfl) rfl rfl ?_) | (refine gG ?_; first | refine iM rfl rfl iA rfl rfl ?_ | refine iP lU rfl rfl iA aP iU rfl rfl ?_ | refine iL lU rfl rfl iA aP iU rfl rfl ?_ | refine aC rfl (fun _ => bG rfl rfl iA) rfl rfl ?_) | (refine fT ?_; first | refine iR lU rfl aP oP rfl rfl ?_ | refine iK lU rfl aP oP rfl rfl ?_ | refine fH lU rfl aP oP rfl rfl ?_ | refine gH lU rfl aP oP rfl rfl ?_ | refine kW lU rfl aP iT fB rfl rfl ?_ | refine lG lU rfl aP iT fB rfl rfl ?_ | refine lI lU rfl aP iT fB rfl rfl ?_ | refine jT lU rfl aP iT fB rfl rfl ?_) | (refine fP ?_; first | refine aC rfl (fun _ => bH rfl rfl) rfl rfl ?_ | refine aC rfl (fun _ => bA rfl) rfl rfl ?_) | (refine iC ?_; first | refine jR rfl rfl rfl nJ stC rfl rfl ⟨jP, ?_⟩ | refine fD rfl rfl fB qV nJ qQ rfl rfl ⟨jP, ?_⟩) | (refine gU ?_; first | refine bM rfl ?_ | refine bB rfl ?_ | refine jE rfl (by omega) ?_ | refine lH rfl (by omega) ?_ | refine rF rfl (fun h => ?_) (fun h => ?_) | refine nQ rfl (fun h => ?_) (fun h => ?_)))
 (repeat refine aH ?_); refine gY [0, 2, 1, 3, 4, 5] [1, 1, 0, 0, 0, 0] mixed (by kernel_rfl) ?_
 repeat (refine jK ?_)
 (refine aS rfl (hS1 _ _ aP) rfl rfl ?_; rintro _ _ _ ⟨rfl, rfl, rfl⟩; refine ⟨jP, ?_⟩)
 repeat (refine jK ?_)
 (refine aS rfl (hS2 _ _ aP) rfl rfl ?_; rintro _ _ _ ⟨rfl, rfl, rfl⟩; refine ⟨jP, ?_⟩)
 by_cases hs : y.sign = z.sign
 ·have hca := aTX hs
  repeat (refine jK ?_)
  (repeat refine aH ?_); refine gY [0, 2, 1, 3, 4, 5] [2, 2, 0, 0, 0, 0] mixed (by kernel_rfl) ?_
  repeat (refine jK ?_)
  (refine aS rfl (iV (c := cq) hy hk aP) rfl rfl ?_; rintro _ _ _ ⟨rfl, rfl, rfl⟩; refine ⟨jP, ?_⟩)
  repeat (refine jK ?_)
  (refine aS rfl (iV (c := cq') hz hm aP) rfl rfl ?_; rintro _ _ _ ⟨rfl, rfl, rfl⟩; refine ⟨jP, ?_⟩)
  repeat (refine jK ?_)
  (refine aS rfl (vH (by omega) (by omega) aP aP) rfl rfl ?_; rintro _ _ _ ⟨rfl, rfl, rfl⟩; refine ⟨jP, ?_⟩)
  have hcb : -1 ≤ jO (y.natAbs : Int) z.natAbs ∧ jO (y.natAbs : Int) z.natAbs ≤ 1 := by unfold jO; split <;> (try split) <;> omega
  by_cases hy0 : y < 0
  ·rw [if_pos hy0] at hca
   rw [hca]
   generalize jO (y.natAbs : Int) z.natAbs = cv at *
   repeat (refine jK ?_)
   refine aM (by first | exact .inl rfl | exact .inr rfl) rfl rfl _ _ cO cK (⟨rfl, rfl, congrArg (Value.int .i64) (by omega)⟩)
  ·rw [if_neg hy0] at hca
   rw [hca]
   generalize jO (y.natAbs : Int) z.natAbs = cv at *
   repeat (refine jK ?_)
   refine aM (by first | exact .inl rfl | exact .inr rfl) rfl rfl _ _ cO cK (⟨rfl, rfl, rfl⟩)
 ·rw [← aNK hs]
  repeat (refine jK ?_)
  (refine aS rfl (CD.same (fun w _ => aRE _ _ _)) rfl rfl ?_; rintro _ _ _ ⟨rfl, rfl, rfl⟩; refine ⟨jP, ?_⟩)
  repeat (refine jK ?_)
  refine aM (by first | exact .inl rfl | exact .inr rfl) rfl rfl _ _ cO cK (⟨rfl, rfl, rfl⟩)
end
end Go.Proofs.YtjbhdfpjnjedhaaGreat
namespace Go.Proofs.YtjbhdfpjnjedhaaGreat
open Go Go.Fx
theorem aPF {x : Int} (h : -9223372036854775808 ≤ x ∧ x < 0) : IntKind.u64.wrap x = x + 18446744073709551616 := by
 simp [IntKind.wrap, IntKind.bits, IntKind.signed]; omega
section
variable {X : List Nat} {w0 : World} {M0 : List Ent} {I0 : List aT}
theorem Of_ok {x : Int} (hx : 0 ≤ x ∧ x ≤ 9223372036854775807) : CD Tryz.prog 183 [.int .i64 x] X w0 M0 I0 (fun v M I => M0 = M ∧ I = kR v x 63 :: I0) := by
 obtain ⟨n, rfl⟩ : ∃ n : Nat, x = (n : Int) := ⟨x.toNat, by omega⟩
 have hn : n ≤ 2 ^ 63 := by omega
 have hsg : ((n : Nat) : Int) = sg False n := by unfold sg; rw [if_neg (fun h => h)]
 refine dW Tryz.func183 rfl Tryz.ntmps183 rfl ?_
 refine aH ?_
 refine aI ?_
 (refine aF rfl rfl ?_; intro b; refine ⟨jP, ?_⟩)
 repeat (refine jK ?_)
 (refine aS rfl (sP (n := n) (by omega)) rfl rfl ?_; rintro _ _ _ ⟨rfl, q', c', rfl, hc', rfl⟩; refine ⟨jP, ?_⟩)
 have hMd := fun M0 I0 => mI (X := X) (w0 := w0) (M0 := M0) (I0 := I0) (p := ((n : Nat) : Int) < 0) (q := q') (c := c') (k := 63) (by have := gX hn; omega) hc' hn
 have hs2 : sg (((n : Nat) : Int) < 0) n = (n : Int) := by unfold sg; rw [if_neg (by omega)]
 simp only [hs2] at hMd
 (refine aS rfl (hMd _ _ aP) rfl rfl ?_; rintro _ _ _ ⟨rfl, rfl⟩; refine ⟨jP, ?_⟩; refine dR (List.Mem.head _) (fun q2 c2 e__ hc2 hz2 => ?_); subst e__)
 unfold iv
 repeat (refine jK ?_)
 refine bJ (cs := [.bool (B (((n : Nat) : Int) < 0)), .slice q2 (gr ((n : Nat) : Int).natAbs).length c2]) (.inl rfl) rfl rfl aP rfl _ _ cO cK ⟨rfl, rfl⟩
end
end Go.Proofs.YtjbhdfpjnjedhaaGreat
namespace Go.Proofs.YtjbhdfpjnjedhaaGreat
open Go Go.Fx
abbrev vI (q : Option Addr) (c : Nat) (z : Int) : Value := .agg #[.bool (B (z < 0)), .slice q (gr z.natAbs).length c]
structure RE where
 q : Rat
 p1 : Option Addr
 c1 : Nat
 p2 : Option Addr
 c2 : Nat
instance : Inhabited RE := ⟨⟨0, none, 0, none, 0⟩⟩
abbrev eR (e : RE) : List Value := [.bool (B (e.q.num < 0)), .slice e.p1 (gr e.q.num.natAbs).length e.c1, .bool (B ((e.q.den : Int) < 0)), .slice e.p2 (gr (e.q.den : Int).natAbs).length e.c2]
abbrev rv (e : RE) : Value := .agg #[.bool (B (e.q.num < 0)), .slice e.p1 (gr e.q.num.natAbs).length e.c1, .bool (B ((e.q.den : Int) < 0)), .slice e.p2 (gr (e.q.den : Int).natAbs).length e.c2]
instance : Sized eR 4 := ⟨fun _ => rfl⟩
instance : Ones eR := ⟨fun m u hu => by
 simp only [eR, List.mem_cons, List.not_mem_nil, or_false] at hu
 rcases hu with rfl | rfl | rfl | rfl <;> rfl⟩
structure IsR (e : RE) (k : Nat) (X : List Nat) (w : World) : Prop where
 num : IsI (vI e.p1 e.c1 e.q.num) e.q.num k X w
 den : IsI (vI e.p2 e.c2 e.q.den) e.q.den k X w
abbrev gQ (e : RE) (k : Nat) : aT := IsR e k
instance (e : RE) (k : Nat) : Fx.Good (IsR e k) := ⟨fun X Y w w' h he hY => ⟨Fx.Good.go (φ := IsI _ _ _) X Y w w' h.num he hY, Fx.Good.go (φ := IsI _ _ _) X Y w w' h.den he hY⟩⟩
theorem IsR.mono {e : RE} {k m : Nat} {X : List Nat} {w : World} (h : IsR e k X w) (hk : k ≤ m) : IsR e m X w := ⟨h.num.mono hk, h.den.mono hk⟩
theorem IsI.le {u : Value} {z : Int} {k : Nat} {X : List Nat} {w : World} (h : IsI u z k X w) : z.natAbs ≤ 2 ^ k := by
 obtain ⟨q, c, h1, h2, h3, h4⟩ := h.ex
 exact h3
structure AllR (es : List RE) (k : Nat) (X : List Nat) (w : World) : Prop where
 go : ∀ e ∈ es, IsR e k X w
abbrev dL (es : List RE) (k : Nat) : aT := AllR es k
instance (es : List RE) (k : Nat) : Fx.Good (AllR es k) := ⟨fun X Y w w' h he hY => ⟨fun e hm => Fx.Good.go (φ := IsR _ _) X Y w w' (h.go e hm) he hY⟩⟩
theorem AllR.mono {es : List RE} {k m : Nat} {X : List Nat} {w : World} (h : AllR es k X w) (hk : k ≤ m) : AllR es m X w := ⟨fun e he => (h.go e he).mono hk⟩
structure Hv (I : List aT) (φ : aT) : Prop where
 go : ∀ (X : List Nat) (w : World), (∀ ψ ∈ I, ψ X w) → φ X w
theorem Hv.mem {I : List aT} {φ : aT} (h : φ ∈ I) : Hv I φ := ⟨fun _ _ hw => hw φ h⟩
theorem Hv.q {I : List aT} {e : RE} {k m : Nat} (h : gQ e k ∈ I) (hk : k ≤ m) : Hv I (gQ e m) := ⟨fun X w hw => IsR.mono (hw _ h) hk⟩
theorem eP {α : Type} [Inhabited α] {ms : List α} {i : Int} (h : 0 ≤ i ∧ i < ms.length) : gt ms i ∈ ms := List.mem_of_getElem? (aEY h)
theorem Hv.all {I : List aT} {es : List RE} {k m : Nat} {i : Int} (h : dL es k ∈ I) (hi : 0 ≤ i ∧ i < es.length) (hk : k ≤ m) : Hv I (gQ (gt es i) m) := ⟨fun X w hw => ((hw _ h : AllR es k X w).go _ (eP hi)).mono hk⟩
theorem Hv.inc {I I' : List aT} {φ : aT} (h : Hv I φ) (hs : ∀ ψ ∈ I, ψ ∈ I') : Hv I' φ := ⟨fun X w hw => h.go X w (fun ψ hm => hw ψ (hs ψ hm))⟩
theorem Hv.cons {I : List aT} {φ ψ : aT} (h : Hv I φ) : Hv (ψ :: I) φ := h.inc (fun _ hm => List.mem_cons_of_mem _ hm)
theorem Hv.allMono {I : List aT} {es : List RE} {k m : Nat} (h : dL es k ∈ I) (hk : k ≤ m) : Hv I (dL es m) := ⟨fun X w hw => AllR.mono (hw _ h) hk⟩
section
variable {P : Program} {n : Nat} {Q : Exit → Act → World → Prop} {G : Env} {X : List Nat} {w0 : World} {M M' : List Ent} {I I' : List aT}
theorem Mem.hv {w : World} {φ : aT} [Fx.Good φ] (h : Hv I φ) (hw : Mem X w0 M I w) : Mem X w0 M (φ :: I) w := hw.add (φ := φ) (h.go _ _ (fun ψ hm => (hw.imm ψ hm).2))
theorem bK {f : FuncId} {vs : List Value} {K : Value → List Ent → List aT → Prop} {φ : aT} [Fx.Good φ] (h : Hv I φ) (k : CD P f vs X w0 M (φ :: I) K) : CD P f vs X w0 M I K := ⟨fun w hw => k.go w (Mem.hv h hw)⟩
theorem dV {c : Code} {φ : aT} [Fx.Good φ] (h : Hv I φ) (k : TD P n c Q G X w0 M (φ :: I)) : TD P n c Q G X w0 M I := aEN (fun _ hw => Mem.hv h hw) k
theorem iX {ops l : List Oper} {m : Fx.Mode} {φ : aT} [Fx.Good φ] (h : Hv I φ) (k : RD P n ops Q m l G X w0 M (φ :: I)) : RD P n ops Q m l G X w0 M I := xJ (fun _ hw => Mem.hv h hw) k
theorem iI {ex : Exit} {φ : aT} [Fx.Good φ] (h : Hv I φ) (k : ND n Q ex G X w0 M (φ :: I)) : ND n Q ex G X w0 M I := xP (fun _ hw => Mem.hv h hw) k
theorem aWI {w : World} {e : RE} {k : Nat} (h : Hv I (gQ e k)) (hw : Mem X w0 M I w) : Mem X w0 M (kR (vI e.p1 e.c1 e.q.num) e.q.num k :: kR (vI e.p2 e.c2 e.q.den) e.q.den k :: I) w := by
 have hr : IsR e k (muts M) w := h.go _ _ (fun ψ hm => (hw.imm ψ hm).2)
 exact (hw.add (φ := kR (vI e.p2 e.c2 e.q.den) e.q.den k) hr.den).add (φ := kR (vI e.p1 e.c1 e.q.num) e.q.num k) hr.num
theorem aHJ {f : FuncId} {vs : List Value} {K : Value → List Ent → List aT → Prop} {e : RE} {k : Nat} (h : Hv I (gQ e k)) (c : CD P f vs X w0 M (kR (vI e.p1 e.c1 e.q.num) e.q.num k :: kR (vI e.p2 e.c2 e.q.den) e.q.den k :: I) K) : CD P f vs X w0 M I K := ⟨fun w hw => c.go w (aWI h hw)⟩
theorem mQ {ops l : List Oper} {m : Fx.Mode} {e : RE} {k : Nat} (h : Hv I (gQ e k)) (c : RD P n ops Q m l G X w0 M (kR (vI e.p1 e.c1 e.q.num) e.q.num k :: kR (vI e.p2 e.c2 e.q.den) e.q.den k :: I)) : RD P n ops Q m l G X w0 M I := xJ (fun _ hw => aWI h hw) c
theorem aWS {w : World} {q : Rat} {k k1 k2 : Nat} {p1 p2 : Option Addr} {c1 c2 : Nat} (h1 : kR (vI p1 c1 q.num) q.num k1 ∈ I) (h2 : kR (vI p2 c2 q.den) q.den k2 ∈ I) (hk1 : k1 ≤ k) (hk2 : k2 ≤ k) (hw : Mem X w0 M I w) : Mem X w0 M (gQ ⟨q, p1, c1, p2, c2⟩ k :: I) w :=
 hw.add (φ := gQ ⟨q, p1, c1, p2, c2⟩ k) ⟨IsI.mono (hw.imm _ h1).2 hk1, IsI.mono (hw.imm _ h2).2 hk2⟩
theorem rV {ex : Exit} {q : Rat} {k k1 k2 : Nat} {p1 p2 : Option Addr} {c1 c2 : Nat} (h1 : kR (vI p1 c1 q.num) q.num k1 ∈ I) (h2 : kR (vI p2 c2 q.den) q.den k2 ∈ I) (hk1 : k1 ≤ k) (hk2 : k2 ≤ k) (h : ND n Q ex G X w0 M (gQ ⟨q, p1, c1, p2, c2⟩ k :: I)) : ND n Q ex G X w0 M I := xP (fun _ hw => aWS h1 h2 hk1 hk2 hw) h
theorem monoI {w : World} {u : Value} {z : Int} {k m : Nat} (h : kR u z k ∈ I) (hk : k ≤ m) (hw : Mem X w0 M I w) : Mem X w0 M (kR u z m :: I) w := hw.add (φ := kR u z m) (IsI.mono (hw.imm _ h).2 hk)
theorem aOS {ops l : List Oper} {m : Fx.Mode} {u : Value} {z : Int} {k k2 : Nat} (h : kR u z k ∈ I) (hk : k ≤ k2) (c : RD P n ops Q m l G X w0 M (kR u z k2 :: I)) : RD P n ops Q m l G X w0 M I := xJ (fun _ hw => monoI h hk hw) c
theorem IsI.tight {u : Value} {z : Int} {k m : Nat} {X : List Nat} {w : World} (h : IsI u z k X w) (hk : z.natAbs ≤ 2 ^ m) : IsI u z m X w := by
 obtain ⟨q, c, h1, h2, h3, h4⟩ := h.ex
 exact ⟨q, c, h1, h2, hk, h4⟩
theorem aEF {ops l : List Oper} {m : Fx.Mode} {u : Value} {z : Int} {k k2 : Nat} (h : kR u z k ∈ I) (hk : z.natAbs ≤ 2 ^ k2) (c : RD P n ops Q m l G X w0 M (kR u z k2 :: I)) : RD P n ops Q m l G X w0 M I := xJ (fun _ hw => hw.add (φ := kR u z k2) (IsI.tight (hw.imm _ h).2 hk)) c
end
def RQ (q : Rat) (k : Nat) (M0 : List Ent) (I0 : List aT) (v : Value) (M : List Ent) (I : List aT) : Prop := M0 = M ∧ ∃ e : RE, v = rv e ∧ e.q = q ∧ I = gQ e k :: I0
def RQc (q : Rat) (k : Nat) (M0 : List Ent) (I0 : List aT) (v : Value) (M : List Ent) (I : List aT) : Prop := M0 = M ∧ ∃ e : RE, v = .tuple #[rv e, .int .i64 0] ∧ e.q = q ∧ I = gQ e k :: I0
end Go.Proofs.YtjbhdfpjnjedhaaGreat
