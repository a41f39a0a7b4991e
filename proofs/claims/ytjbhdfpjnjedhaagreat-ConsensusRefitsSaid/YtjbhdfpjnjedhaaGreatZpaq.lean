/- integer: Of, sum integer: Gcd integer: Compare integer: Of Fractions in memory: records, facts, what follows from facts. -/
import Derived.Test.YtjbhdfpjnjedhaaGreatZpap
import Derived.Test.YtjbhdfpjnjedhaaGreatZpak
import Derived.Test.YtjbhdfpjnjedhaaGreatZpao
set_option linter.unusedSimpArgs false
set_option linter.unusedVariables false
set_option maxRecDepth 100000
set_option maxHeartbeats 4000000
namespace Go.Proofs.YtjbhdfpjnjedhaaGreat
open Go Go.Fx
section
variable {X : List Nat} {w0 : World} {M0 : List Ent} {I0 : List aY}
theorem aKI {p q : Prop} [Decidable p] [Decidable q] {m n : Nat} (h : p ↔ q) : sg p (m + n) = sg p m + sg q n := by
 unfold sg
 by_cases hp : p
 ·rw [if_pos hp, if_pos hp, if_pos (h.1 hp)]; omega
 ·rw [if_neg hp, if_neg hp, if_neg (fun hq => hp (h.2 hq))]; omega
theorem zJ {p q : Prop} [Decidable p] [Decidable q] {m n : Nat} (h : ¬ (p ↔ q)) (hle : n ≤ m) : sg p (m - n) = sg p m + sg q n := by
 unfold sg
 by_cases hp : p
 ·rw [if_pos hp, if_pos hp, if_neg (fun hq => h ⟨fun _ => hq, fun _ => hp⟩)]; omega
 ·rw [if_neg hp, if_neg hp, if_pos (by rcases Classical.em q with hq | hq; exact hq; exact absurd ⟨fun h => absurd h hp, fun h => absurd h hq⟩ h)]; omega
theorem aWT {pn qn : Prop} [Decidable pn] [Decidable qn] {p q : Option Addr} {m n cp cq k : Nat} (hm : (gr m).length ≤ 50000000000) (hn : (gr n).length ≤ 50000000000) (hk : m + n ≤ 2 ^ k) (hk2 : k ≤ 1000000000000) (hp : aO p (recs eG (gr m)) ∈ I0) (hq : aO q (recs eG (gr n)) ∈ I0) :
  CD Tryz.prog 221 [.bool (B pn), .slice p (gr m).length cp, .bool (B qn), .slice q (gr n).length cq] X w0 M0 I0 (fun v M I => M0 = M ∧ I = iI v (sg pn m + sg qn n) k :: I0) := by
 have hC := fun M0 I0 => vU (X := X) (w0 := w0) (M0 := M0) (I0 := I0) (p := p) (q := q) (m := m) (n := n) (cp := cp) (cq := cq) (by omega) (by omega)
 have hP := fun M0 I0 => aLC (X := X) (w0 := w0) (M0 := M0) (I0 := I0) (p := p) (q := q) (m := m) (n := n) (cp := cp) (cq := cq) (by omega) (by omega)
 have hM := fun M0 I0 (hle : n ≤ m) => aBU (X := X) (w0 := w0) (M0 := M0) (I0 := I0) (p := p) (q := q) (m := m) (n := n) (cp := cp) (cq := cq) (by omega) hle
 have hM2 := fun M0 I0 (hle : m ≤ n) => aBU (X := X) (w0 := w0) (M0 := M0) (I0 := I0) (p := q) (q := p) (m := n) (n := m) (cp := cq) (cq := cp) (by omega) hle
 have hl1 := gF hk hk2
 refine dY Tryz.func221 rfl Tryz.ntmps221 rfl ?_
 refine aG ?_
 refine aJ ?_
 (refine aI rfl rfl ?_; intro b3; refine ⟨jO, ?_⟩)
 by_cases hpq : pn ↔ qn
 ·repeat (refine jG ?_)
  (refine aU rfl (hP _ _ aS aS) rfl rfl ?_; rintro _ _ _ ⟨rfl, q3, c3, rfl, hc3, rfl⟩; refine ⟨jO, ?_⟩)
  rw [← aKI hpq]
  (refine aU rfl (lU (p := pn) (k := k) (by omega) hc3 hk aS) rfl rfl ?_; rintro _ _ _ ⟨rfl, rfl⟩; refine ⟨jO, ?_⟩; refine aW (List.Mem.head _) (fun q2 c2 e__ hc2 hz2 => ?_); subst e__)
  unfold iv
  repeat (refine jG ?_)
  refine bD (cs := [.bool (B (sg pn (m + n) < 0)), .slice q2 (gr (sg pn (m + n)).natAbs).length c2]) (.inl rfl) rfl rfl aS rfl _ _ bV bT ⟨rfl, rfl⟩
 ·by_cases hge : n ≤ m
  ·have hcv := wN (x := (m : Int)) (y := (n : Int)) (by omega)
   have hk3 : m - n ≤ 2 ^ k := by omega
   have hl3 := gF hk3 hk2
   repeat (refine jG ?_)
   (refine aU rfl (hC _ _ aS aS) rfl rfl ?_; rintro _ _ _ ⟨rfl, rfl, rfl⟩; refine ⟨jO, ?_⟩)
   repeat (refine jG ?_)
   (refine aU rfl (hM _ _ hge aS aS) rfl rfl ?_; rintro _ _ _ ⟨rfl, q3, c3, rfl, hc3, rfl⟩; refine ⟨jO, ?_⟩)
   rw [← zJ hpq hge]
   (refine aU rfl (lU (p := pn) (k := k) (by omega) hc3 hk3 aS) rfl rfl ?_; rintro _ _ _ ⟨rfl, rfl⟩; refine ⟨jO, ?_⟩; refine aW (List.Mem.head _) (fun q2 c2 e__ hc2 hz2 => ?_); subst e__)
   unfold iv
   repeat (refine jG ?_)
   refine bD (cs := [.bool (B (sg pn (m - n) < 0)), .slice q2 (gr (sg pn (m - n)).natAbs).length c2]) (.inl rfl) rfl rfl aS rfl _ _ bV bT ⟨rfl, rfl⟩
  ·have hcv := wB (x := (m : Int)) (y := (n : Int)) (by omega)
   have hk3 : n - m ≤ 2 ^ k := by omega
   have hl3 := gF hk3 hk2
   have hs : sg pn m + sg qn n = sg qn (n - m) := by rw [Int.add_comm, ← zJ (fun h => hpq h.symm) (by omega)]
   repeat (refine jG ?_)
   (refine aU rfl (hC _ _ aS aS) rfl rfl ?_; rintro _ _ _ ⟨rfl, rfl, rfl⟩; refine ⟨jO, ?_⟩)
   repeat (refine jG ?_)
   (refine aU rfl (hM2 _ _ (by omega) aS aS) rfl rfl ?_; rintro _ _ _ ⟨rfl, q3, c3, rfl, hc3, rfl⟩; refine ⟨jO, ?_⟩)
   rw [hs]
   (refine aU rfl (lU (p := qn) (k := k) (by omega) hc3 hk3 aS) rfl rfl ?_; rintro _ _ _ ⟨rfl, rfl⟩; refine ⟨jO, ?_⟩; refine aW (List.Mem.head _) (fun q2 c2 e__ hc2 hz2 => ?_); subst e__)
   unfold iv
   repeat (refine jG ?_)
   refine bD (cs := [.bool (B (sg qn (n - m) < 0)), .slice q2 (gr (sg qn (n - m)).natAbs).length c2]) (.inl rfl) rfl rfl aS rfl _ _ bV bT ⟨rfl, rfl⟩
theorem aWV {u v : Value} {y z : Int} {k m c : Nat} (hk : k ≤ 1000000000000) (hm : m ≤ 1000000000000) (hc0 : c ≤ 1000000000000) (hs : 2 ^ k + 2 ^ m ≤ 2 ^ c) (hu : iI u y k ∈ I0) (hv : iI v z m ∈ I0) : CD Tryz.prog 166 [u, v] X w0 M0 I0 (fun v M I => M0 = M ∧ I = iI v (y + z) c :: I0) := by
 refine dE hu (fun q cq e hc hy => ?_)
 subst e
 refine dE (List.Mem.tail _ hv) (fun q' cq' e hc' hz => ?_)
 subst e
 have hl := gF hy (by omega)
 have hl' := gF hz (by omega)
 unfold iv
 refine dY Tryz.func166 rfl Tryz.ntmps166 rfl ?_
 refine aG ?_
 refine aJ ?_
 (refine kP rfl rfl rfl ?_; intro b; refine ⟨jO, ?_⟩)
 (refine kP rfl rfl rfl ?_; intro b2; refine ⟨jO, ?_⟩)
 (refine aI rfl rfl ?_; intro b3; refine ⟨jO, ?_⟩)
 repeat' (first | refine aJ ?_ | refine jL ?_ | refine iD ?_ | refine fK ?_ | refine fG ?_ | refine iE ?_ | refine gW ?_ | refine fJ ?_ | refine fH ?_ | refine jP ?_ | refine jM ?_ | refine jQ ?_ | refine jN rfl ?_ | refine bH ?_ | (refine gI ?_; first | refine gU rfl rfl rfl ?_ | (refine gM rfl rfl ?_; refine fC rfl rfl rfl jO ?_) | refine gD rfl rfl (by omega) ?_ | refine gP rfl rfl (by omega) ?_ | refine qI rfl rfl (fun h => ?_) (fun h => ?_) | (fail_if_success (refine sU rfl ?_); refine oQ rfl rfl (fun h => ?_) (fun h => ?_))) | (refine bR ?_; refine aF rfl (fun _ => dH rfl) rfl rfl ?_) | refine aF rfl (fun _ => bF rfl) rfl rfl ?_ | (refine gL ?_; first | refine aF rfl (fun _ => bM rfl rfl w_) rfl rfl ?_ | refine aF rfl (fun _ => bK rfl rfl w_) rfl rfl ?_ | refine aF rfl (fun _ => eO rfl rfl w_) rfl rfl ?_ | refine aF rfl (fun _ => eF rfl rfl (by omega) q_) rfl rfl ?_ | refine aF rfl (fun _ => dZ rfl rfl (by omega) rfl) rfl rfl ?_ | refine aF rfl (fun _ => dK rfl rfl) rfl rfl ?_ | refine aF rfl (fun _ => dV rfl rfl) rfl rfl ?_ | refine aF rfl (fun _ => dW rfl rfl) rfl rfl ?_) | (refine bR ?_; first | refine aF rfl (fun _ => dX rfl w_) rfl rfl ?_) | (refine gJ ?_; first | refine aF rfl (fun _ => dC rfl w_) rfl rfl ?_) | (refine gG ?_; first | refine aF rfl (fun _ => bL rfl) rfl rfl ?_ | refine aF rfl (fun _ => dJ rfl rfl) rfl rfl ?_ | refine aF rfl (fun _ => dL rfl rfl) rfl rfl ?_ | refine aF rfl (fun _ => dM rfl rfl rfl) rfl rfl ?_) | (refine gN ?_; first | refine fZ rfl (by decide) rfl rfl ?_ | refine iY rfl (by decide) rfl rfl ?_) | (refine gK ?_; first | refine aF rfl (fun _ => dB rfl) rfl rfl ?_) | (refine gH ?_; first | refine jA rfl rfl iK rfl rfl ?_ | refine iX lQ rfl rfl iK aS jD rfl rfl ?_ | refine iV lQ rfl rfl iK aS jD rfl rfl ?_ | refine aF rfl (fun _ => bP rfl rfl iK) rfl rfl ?_) | (refine gT ?_; first | refine iW lQ rfl aS oK rfl rfl ?_ | refine iU lQ rfl aS oK rfl rfl ?_ | refine fU lQ rfl aS oK rfl rfl ?_ | refine gQ lQ rfl aS oK rfl rfl ?_ | refine kZ lQ rfl aS iN fE rfl rfl ?_ | refine kV lQ rfl aS iN fE rfl rfl ?_ | refine kT lQ rfl aS iN fE rfl rfl ?_ | refine jX lQ rfl aS iN fE rfl rfl ?_) | (refine fV ?_; first | refine aF rfl (fun _ => bQ rfl rfl) rfl rfl ?_ | refine aF rfl (fun _ => bI rfl) rfl rfl ?_) | (refine iO ?_; first | refine kI rfl rfl rfl mV stC rfl rfl ⟨jO, ?_⟩ | refine iC rfl rfl fE rE mV qP rfl rfl ⟨jO, ?_⟩) | (refine iF ?_; first | refine cK rfl ?_ | refine bN rfl ?_ | refine jR rfl (by omega) ?_ | refine mD rfl (by omega) ?_ | refine tO rfl (fun h => ?_) (fun h => ?_) | refine oP rfl (fun h => ?_) (fun h => ?_)))
 (repeat refine aG ?_); refine bG 3 [0, 1, 2, 4, 5, 6, 3, 7, 8, 9] [3, 2, 2, 3, 2, 2, 0, 0, 0, 0] mixed (by kernel_rfl) ?_
 repeat (refine jG ?_)
 (refine aU rfl (jT (c := cq) hy (by omega) aS) rfl rfl ?_; rintro _ _ _ ⟨rfl, rfl, rfl⟩; refine ⟨jO, ?_⟩)
 repeat (refine jG ?_)
 (refine aU rfl (jT (c := cq') hz (by omega) aS) rfl rfl ?_; rintro _ _ _ ⟨rfl, rfl, rfl⟩; refine ⟨jO, ?_⟩)
 repeat (refine jG ?_)
 have hyz : y.natAbs + z.natAbs ≤ 2 ^ c := Nat.le_trans (Nat.add_le_add hy hz) hs
 have hS := fun M0 I0 => aWT (X := X) (w0 := w0) (M0 := M0) (I0 := I0) (p := q) (q := q') (cp := cq) (cq := cq') (pn := y < 0) (qn := z < 0) (k := c) (by omega) (by omega) hyz hc0
 simp only [qH] at hS
 (refine aU rfl (hS _ _ aS aS) rfl rfl ?_; rintro _ _ _ ⟨rfl, rfl⟩; refine ⟨jO, ?_⟩; refine aW (List.Mem.head _) (fun q2 c2 e__ hc2 hz2 => ?_); subst e__)
 unfold iv
 repeat (refine jG ?_)
 refine bD (cs := [.bool (B (y + z < 0)), .slice q2 (gr (y + z).natAbs).length c2]) (.inl rfl) rfl rfl aS rfl _ _ bV bT ⟨rfl, rfl⟩
end
end Go.Proofs.YtjbhdfpjnjedhaaGreat
namespace Go.Proofs.YtjbhdfpjnjedhaaGreat
open Go Go.Fx
section
variable {X : List Nat} {w0 : World} {M0 : List Ent} {I0 : List aY}
theorem aIJ {u v : Value} {y z : Int} {k0 m : Nat} (hk : k0 ≤ 500000000000) (hm : m ≤ 500000000000) (hu : iI u y k0 ∈ I0) (hv : iI v z m ∈ I0) : CD Tryz.prog 195 [u, v] X w0 M0 I0 (fun v M I => M0 = M ∧ I = iI v (Int.gcd y z) (k0 + m) :: I0) := by
 refine dE hu (fun q cq e hc hy => ?_)
 subst e
 refine dE (List.Mem.tail _ hv) (fun q' cq' e hc' hz => ?_)
 subst e
 have hy2 : y.natAbs ≤ 2 ^ (k0 + m) := Nat.le_trans hy (Nat.pow_le_pow_right (by decide) (by omega))
 have hz2 : z.natAbs ≤ 2 ^ (k0 + m) := Nat.le_trans hz (Nat.pow_le_pow_right (by decide) (by omega))
 unfold iv
 refine dY Tryz.func195 rfl Tryz.ntmps195 rfl ?_
 refine aG ?_
 refine aJ ?_
 (refine kP rfl rfl rfl ?_; intro b; refine ⟨jO, ?_⟩)
 (refine kP rfl rfl rfl ?_; intro b2; refine ⟨jO, ?_⟩)
 (refine aI rfl rfl ?_; intro b3; refine ⟨jO, ?_⟩)
 repeat' (first | refine aJ ?_ | refine jL ?_ | refine iD ?_ | refine fK ?_ | refine fG ?_ | refine iE ?_ | refine gW ?_ | refine fJ ?_ | refine fH ?_ | refine jP ?_ | refine jM ?_ | refine jQ ?_ | refine jN rfl ?_ | refine bH ?_ | (refine gI ?_; first | refine gU rfl rfl rfl ?_ | (refine gM rfl rfl ?_; refine fC rfl rfl rfl jO ?_) | refine gD rfl rfl (by omega) ?_ | refine gP rfl rfl (by omega) ?_ | refine qI rfl rfl (fun h => ?_) (fun h => ?_) | (fail_if_success (refine sU rfl ?_); refine oQ rfl rfl (fun h => ?_) (fun h => ?_))) | (refine bR ?_; refine aF rfl (fun _ => dH rfl) rfl rfl ?_) | refine aF rfl (fun _ => bF rfl) rfl rfl ?_ | (refine gL ?_; first | refine aF rfl (fun _ => bM rfl rfl w_) rfl rfl ?_ | refine aF rfl (fun _ => bK rfl rfl w_) rfl rfl ?_ | refine aF rfl (fun _ => eO rfl rfl w_) rfl rfl ?_ | refine aF rfl (fun _ => eF rfl rfl (by omega) q_) rfl rfl ?_ | refine aF rfl (fun _ => dZ rfl rfl (by omega) rfl) rfl rfl ?_ | refine aF rfl (fun _ => dK rfl rfl) rfl rfl ?_ | refine aF rfl (fun _ => dV rfl rfl) rfl rfl ?_ | refine aF rfl (fun _ => dW rfl rfl) rfl rfl ?_) | (refine bR ?_; first | refine aF rfl (fun _ => dX rfl w_) rfl rfl ?_) | (refine gJ ?_; first | refine aF rfl (fun _ => dC rfl w_) rfl rfl ?_) | (refine gG ?_; first | refine aF rfl (fun _ => bL rfl) rfl rfl ?_ | refine aF rfl (fun _ => dJ rfl rfl) rfl rfl ?_ | refine aF rfl (fun _ => dL rfl rfl) rfl rfl ?_ | refine aF rfl (fun _ => dM rfl rfl rfl) rfl rfl ?_) | (refine gN ?_; first | refine fZ rfl (by decide) rfl rfl ?_ | refine iY rfl (by decide) rfl rfl ?_) | (refine gK ?_; first | refine aF rfl (fun _ => dB rfl) rfl rfl ?_) | (refine gH ?_; first | refine jA rfl rfl iK rfl rfl ?_ | refine iX lQ rfl rfl iK aS jD rfl rfl ?_ | refine iV lQ rfl rfl iK aS jD rfl rfl ?_ | refine aF rfl (fun _ => bP rfl rfl iK) rfl rfl ?_) | (refine gT ?_; first | refine iW lQ rfl aS oK rfl rfl ?_ | refine iU lQ rfl aS oK rfl rfl ?_ | refine fU lQ rfl aS oK rfl rfl ?_ | refine gQ lQ rfl aS oK rfl rfl ?_ | refine kZ lQ rfl aS iN fE rfl rfl ?_ | refine kV lQ rfl aS iN fE rfl rfl ?_ | refine kT lQ rfl aS iN fE rfl rfl ?_ | refine jX lQ rfl aS iN fE rfl rfl ?_) | (refine fV ?_; first | refine aF rfl (fun _ => bQ rfl rfl) rfl rfl ?_ | refine aF rfl (fun _ => bI rfl) rfl rfl ?_) | (refine iO ?_; first | refine kI rfl rfl rfl mV stC rfl rfl ⟨jO, ?_⟩ | refine iC rfl rfl fE rE mV qP rfl rfl ⟨jO, ?_⟩) | (refine iF ?_; first | refine cK rfl ?_ | refine bN rfl ?_ | refine jR rfl (by omega) ?_ | refine mD rfl (by omega) ?_ | refine tO rfl (fun h => ?_) (fun h => ?_) | refine oP rfl (fun h => ?_) (fun h => ?_)))
 (repeat refine aG ?_); refine bG 3 [0, 2, 1, 3, 4, 5] [1, 1, 0, 0, 0, 0] mixed (by kernel_rfl) ?_
 repeat (refine jG ?_)
 (refine aU rfl (jT (c := cq) hy (by omega) aS) rfl rfl ?_; rintro _ _ _ ⟨rfl, rfl, rfl⟩; refine ⟨jO, ?_⟩)
 repeat (refine jG ?_)
 (refine aU rfl (jT (c := cq') hz (by omega) aS) rfl rfl ?_; rintro _ _ _ ⟨rfl, rfl, rfl⟩; refine ⟨jO, ?_⟩)
 repeat (refine jG ?_)
 refine aT [4] rfl (fun k G M I => ∃ (a b : Nat) (pa pb : Option Addr) (ca cb : Nat), k = b ∧ a ≤ 2 ^ (k0 + m) ∧ b ≤ 2 ^ (k0 + m) ∧ pW pa a ca ∧ pW pb b cb ∧ Nat.gcd a b = Nat.gcd y.natAbs z.natAbs ∧ G = [(5, .slice pa (gr a).length ca), (6, .slice pb (gr b).length cb)] ∧ M = .blk b3 [.bool false, .slice none 0 0] 48 :: M0 ∧ I = aO pa (recs eG (gr a)) :: aO pb (recs eG (gr b)) :: I0) (z.natAbs) _ _ _ aP bV bT (⟨y.natAbs, z.natAbs, q, q', cq, cq', rfl, hy2, hz2, hc, hc', rfl, rfl, rfl, rfl⟩) ?_
 rintro k G M I ⟨a, b', pa, pb, ca, cb, rfl, ha, hb, oa, ob, hg, rfl, rfl, rfl⟩
 have la := eY ha
 have lb := eY hb
 have hW1 := fun M0 I0 => zL (X := X) (w0 := w0) (M0 := M0) (I0 := I0) (q := pa) (n := a) (c := ca) (by omega)
 have hW2 := fun M0 I0 => zL (X := X) (w0 := w0) (M0 := M0) (I0 := I0) (q := pb) (n := k) (c := cb) (by omega)
 by_cases hk0 : k = 0
 ·subst hk0
  have hl0 : (gr 0).length = 0 := by rw [gX]; rfl
  rw [Nat.gcd_zero_right] at hg
  have hz : (Int.gcd y z : Int) = sg False a := by unfold sg; rw [if_neg (fun h => h), hg]; rfl
  repeat (refine jG ?_)
  (refine aU rfl (xL (a := gr a) (by omega) oa.2 aS) rfl rfl ?_; rintro _ _ _ ⟨rfl, q', c', rfl, rfl⟩; refine ⟨jO, ?_⟩)
  refine mR (fun w hw => And.intro (hw.rowLe (List.Mem.head _)) ((hw.rowS (List.Mem.head _)).2.imp id And.right)) (fun hc' => ?_)
  refine eU vM ?_
  repeat (refine jG ?_)
  rw [hz]
  have hMd := fun M0 I0 => lU (X := X) (w0 := w0) (M0 := M0) (I0 := I0) (p := False) (q := q') (c := c') (k := k0 + m) (by omega) hc' ha
  simp only [bB (show ¬ False from id)] at hMd
  (refine aU rfl (hMd _ _ aS) rfl rfl ?_; rintro _ _ _ ⟨rfl, rfl⟩; refine ⟨jO, ?_⟩; refine aW (List.Mem.head _) (fun q2 c2 e__ hc2 hz2 => ?_); subst e__)
  unfold iv
  repeat (refine jG ?_)
  refine bD (cs := [.bool (B (sg False a < 0)), .slice q2 (gr (sg False a).natAbs).length c2]) (.inl rfl) rfl rfl aS rfl _ _ bV bT ⟨rfl, rfl⟩
 ·have hlk : 0 < (gr k).length := List.length_pos_iff.2 (fun e => hk0 (nU.1 e))
  by_cases hw : (gr a).length ≤ 2 ∧ (gr k).length ≤ 2
  ·have hb9 : ∀ t : Nat, (gr t).length ≤ 2 → t < 1000000000000000000 := fun t ht => by
    have := jY (bY t)
    rw [dD] at this
    have h2 : (1000000000 : Int) ^ (gr t).length ≤ 1000000000 ^ 2 := mX ht
    omega
   have a9 := hb9 a hw.1
   have k9 := hb9 k hw.2
   rw [if_pos hw.1, bJ hw.1] at hW1
   rw [if_pos hw.2, bJ hw.2] at hW2
   repeat (refine jG ?_)
   (refine aU rfl (hW1 _ _ aS) rfl rfl ?_; rintro _ _ _ ⟨rfl, rfl, rfl⟩; refine ⟨jO, ?_⟩)
   repeat (refine jG ?_)
   (refine aU rfl (hW2 _ _ aS) rfl rfl ?_; rintro _ _ _ ⟨rfl, rfl, rfl⟩; refine ⟨jO, ?_⟩)
   repeat (refine jG ?_)
   refine aT [4] rfl (fun k G M I => ∃ (x x2 : Nat), k = x2 ∧ x < 1000000000000000000 ∧ x2 < 1000000000000000000 ∧ x ≤ 2 ^ (k0 + m) ∧ x2 ≤ 2 ^ (k0 + m) ∧ Nat.gcd x x2 = Nat.gcd y.natAbs z.natAbs ∧ G = [(7, .int .u64 x), (9, .int .u64 x2)] ∧ M = .blk b3 [.bool false, .slice none 0 0] 48 :: M0 ∧ I0 = I) (k) _ _ _ aP bV bT (⟨a, k, rfl, a9, k9, ha, hb, hg, rfl, rfl, rfl⟩) ?_
   rintro k G M I ⟨x, x2, rfl, hx9, hx29, hx, hx2, hxg, rfl, rfl, rfl⟩
   by_cases hx0 : k = 0
   ·subst hx0
    rw [Nat.gcd_zero_right] at hxg
    have hz : (Int.gcd y z : Int) = sg False x := by unfold sg; rw [if_neg (fun h => h), hxg]; rfl
    repeat (refine jG ?_)
    (refine aU rfl (rV (n := x) (by omega)) rfl rfl ?_; rintro _ _ _ ⟨rfl, q', c', rfl, hc', rfl⟩; refine ⟨jO, ?_⟩)
    rw [hz]
    have hMd := fun M0 I0 => lU (X := X) (w0 := w0) (M0 := M0) (I0 := I0) (p := False) (q := q') (c := c') (k := k0 + m) (by have := eY hx; omega) hc' hx
    simp only [bB (show ¬ False from id)] at hMd
    (refine aU rfl (hMd _ _ aS) rfl rfl ?_; rintro _ _ _ ⟨rfl, rfl⟩; refine ⟨jO, ?_⟩; refine aW (List.Mem.head _) (fun q2 c2 e__ hc2 hz2 => ?_); subst e__)
    unfold iv
    repeat (refine jG ?_)
    refine bD (cs := [.bool (B (sg False x < 0)), .slice q2 (gr (sg False x).natAbs).length c2]) (.inl rfl) rfl rfl aS rfl _ _ bV bT ⟨rfl, rfl⟩
   ·have e2 : ((x : Int)).tmod (k : Int) = ((x % k : Nat) : Int) := by rw [Int.tmod_eq_emod_of_nonneg (by omega), Int.natCast_emod]
    have hmod := Nat.mod_lt x (show k > 0 by omega)
    have hg2 : Nat.gcd k (x % k) = Nat.gcd y.natAbs z.natAbs := by rw [← hxg, Nat.gcd_comm x k, Nat.gcd_rec k x, Nat.gcd_comm]
    repeat (refine jG ?_)
    (repeat refine aG ?_); refine dS [0, 1, 2, 3, 4, 5] [0, 0, 0, 0, 0, 0] mixed (by kernel_rfl) ?_
    repeat (refine jG ?_)
    rw [e2]
    refine aL (x % k) _ _ _ (by first | omega | (simp only [List.length_append, List.length_cons, List.length_nil]; omega)) aP bV bT (⟨k, x % k, rfl, by omega, by omega, hx2, by omega, hg2, rfl, rfl, rfl⟩)
  ·have hO := fun M0 I0 => aKV (X := X) (w0 := w0) (M0 := M0) (I0 := I0) (p := pa) (q := pb) (m := a) (n := k) (cp := ca) (cq := cb) (by omega) (by omega) (by omega) oa
   have hmod := Nat.mod_lt a (show k > 0 by omega)
   have hg2 : Nat.gcd k (a % k) = Nat.gcd y.natAbs z.natAbs := by rw [← hg, Nat.gcd_comm a k, Nat.gcd_rec k a, Nat.gcd_comm]
   by_cases hw1 : (gr a).length ≤ 2
   ·have hw2 : ¬ (gr k).length ≤ 2 := fun h => hw ⟨hw1, h⟩
    rw [if_pos hw1, bJ hw1] at hW1
    rw [if_neg hw2, bB hw2] at hW2
    repeat (refine jG ?_)
    (refine aU rfl (hW1 _ _ aS) rfl rfl ?_; rintro _ _ _ ⟨rfl, rfl, rfl⟩; refine ⟨jO, ?_⟩)
    repeat (refine jG ?_)
    (refine aU rfl (hW2 _ _ aS) rfl rfl ?_; rintro _ _ _ ⟨rfl, rfl, rfl⟩; refine ⟨jO, ?_⟩)
    repeat (refine jG ?_)
    (refine aU rfl (hO _ _ aS aS) rfl rfl ?_; rintro _ _ _ ⟨rfl, p1, c1, p2, c2, ho1, ho2, rfl, rfl⟩; refine ⟨jO, ?_⟩)
    repeat (refine jG ?_)
    refine aL (a % k) _ _ _ (by first | omega | (simp only [List.length_append, List.length_cons, List.length_nil]; omega)) aP bV bT (⟨k, a % k, pb, p2, cb, c2, rfl, hb, by omega, ob, ho2, hg2, rfl, rfl, rfl⟩)
   ·rw [if_neg hw1, bB hw1] at hW1
    repeat (refine jG ?_)
    (refine aU rfl (hW1 _ _ aS) rfl rfl ?_; rintro _ _ _ ⟨rfl, rfl, rfl⟩; refine ⟨jO, ?_⟩)
    repeat (refine jG ?_)
    (refine aU rfl (hW2 _ _ aS) rfl rfl ?_; rintro _ _ _ ⟨rfl, rfl, rfl⟩; refine ⟨jO, ?_⟩)
    repeat (refine jG ?_)
    (refine aU rfl (hO _ _ aS aS) rfl rfl ?_; rintro _ _ _ ⟨rfl, p1, c1, p2, c2, ho1, ho2, rfl, rfl⟩; refine ⟨jO, ?_⟩)
    repeat (refine jG ?_)
    refine aL (a % k) _ _ _ (by first | omega | (simp only [List.length_append, List.length_cons, List.length_nil]; omega)) aP bV bT (⟨k, a % k, pb, p2, cb, c2, rfl, hb, by omega, ob, ho2, hg2, rfl, rfl, rfl⟩)
end
end Go.Proofs.YtjbhdfpjnjedhaaGreat
namespace Go.Proofs.YtjbhdfpjnjedhaaGreat
open Go Go.Fx
theorem aLQ {y z : Int} (h : y.sign ≠ z.sign) : fP y.sign z.sign = fP y z := by
 unfold fP
 rcases Int.lt_trichotomy y 0 with hy | hy | hy <;> rcases Int.lt_trichotomy z 0 with hz | hz | hz <;>
  simp_all [Int.sign_eq_one_of_pos, Int.sign_eq_neg_one_of_neg] <;> omega
theorem aTW {y z : Int} (h : y.sign = z.sign) : fP y z = if y < 0 then -fP y.natAbs z.natAbs else fP y.natAbs z.natAbs := by
 have h1 : y < 0 ↔ z < 0 := by rw [← Int.sign_eq_neg_one_iff_neg, ← Int.sign_eq_neg_one_iff_neg, h]
 unfold fP
 by_cases hy : y < 0
 ·have hz := h1.1 hy
  rw [if_pos hy]
  split <;> split <;> (try split) <;> (try split) <;> omega
 ·have hz : ¬ z < 0 := fun hz => hy (h1.2 hz)
  rw [if_neg hy]
  split <;> split <;> (try split) <;> (try split) <;> omega
section
variable {X : List Nat} {w0 : World} {M0 : List Ent} {I0 : List aY}
theorem vL {u v : Value} {y z : Int} {k m : Nat} (hk : k ≤ 1000000000000) (hm : m ≤ 1000000000000) (hu : iI u y k ∈ I0) (hv : iI v z m ∈ I0) : CD Tryz.prog 147 [u, v] X w0 M0 I0 (fun v M I => M0 = M ∧ I0 = I ∧ v = .int .i64 (fP y z)) := by
 have hS1 := fun M0 I0 h => sP (X := X) (w0 := w0) (M0 := M0) (I0 := I0) (u := u) (z := y) hk h
 have hS2 := fun M0 I0 h => sP (X := X) (w0 := w0) (M0 := M0) (I0 := I0) (u := v) (z := z) hm h
 refine dE hu (fun q cq e hc hy => ?_)
 subst e
 refine dE (List.Mem.tail _ hv) (fun q' cq' e hc' hz => ?_)
 subst e
 have hl := gF hy hk
 have hl' := gF hz hm
 unfold iv at *
 refine dY Tryz.func147 rfl Tryz.ntmps147 rfl ?_
 refine aG ?_
 refine aJ ?_
 (refine kP rfl rfl rfl ?_; intro b; refine ⟨jO, ?_⟩)
 (refine kP rfl rfl rfl ?_; intro b2; refine ⟨jO, ?_⟩)
 repeat' (first | refine aJ ?_ | refine jL ?_ | refine iD ?_ | refine fK ?_ | refine fG ?_ | refine iE ?_ | refine gW ?_ | refine fJ ?_ | refine fH ?_ | refine jP ?_ | refine jM ?_ | refine jQ ?_ | refine jN rfl ?_ | refine bH ?_ | (refine gI ?_; first | refine gU rfl rfl rfl ?_ | (refine gM rfl rfl ?_; refine fC rfl rfl rfl jO ?_) | refine gD rfl rfl (by omega) ?_ | refine gP rfl rfl (by omega) ?_ | refine qI rfl rfl (fun h => ?_) (fun h => ?_) | (fail_if_success (refine sU rfl ?_); refine oQ rfl rfl (fun h => ?_) (fun h => ?_))) | (refine bR ?_; refine aF rfl (fun _ => dH rfl) rfl rfl ?_) | refine aF rfl (fun _ => bF rfl) rfl rfl ?_ | (refine gL ?_; first | refine aF rfl (fun _ => bM rfl rfl w_) rfl rfl ?_ | refine aF rfl (fun _ => bK rfl rfl w_) rfl rfl ?_ | refine aF rfl (fun _ => eO rfl rfl w_) rfl rfl ?_ | refine aF rfl (fun _ => eF rfl rfl (by omega) q_) rfl rfl ?_ | refine aF rfl (fun _ => dZ rfl rfl (by omega) rfl) rfl rfl ?_ | refine aF rfl (fun _ => dK rfl rfl) rfl rfl ?_ | refine aF rfl (fun _ => dV rfl rfl) rfl rfl ?_ | refine aF rfl (fun _ => dW rfl rfl) rfl rfl ?_) | (refine bR ?_; first | refine aF rfl (fun _ => dX rfl w_) rfl rfl ?_) | (refine gJ ?_; first | refine aF rfl (fun _ => dC rfl w_) rfl rfl ?_) | (refine gG ?_; first | refine aF rfl (fun _ => bL rfl) rfl rfl ?_ | refine aF rfl (fun _ => dJ rfl rfl) rfl rfl ?_ | refine aF rfl (fun _ => dL rfl rfl) rfl rfl ?_ | refine aF rfl (fun _ => dM rfl rfl rfl) rfl rfl ?_) | (refine gN ?_; first | refine fZ rfl (by decide) rfl rfl ?_ | refine iY rfl (by decide) rfl rfl ?_) | (refine gK ?_; first | refine aF rfl (fun _ => dB rfl) rfl rfl ?_) | (refine gH ?_; first | refine jA rfl rfl iK rfl rfl ?_ | refine iX lQ rfl rfl iK aS jD rfl rfl ?_ | refine iV lQ rfl rfl iK aS jD rfl rfl ?_ | refine aF rfl (fun _ => bP rfl rfl iK) rfl rfl ?_) | (refine gT ?_; first | refine iW lQ rfl aS oK rfl rfl ?_ | refine iU lQ rfl aS oK rfl rfl ?_ | refine fU lQ rfl aS oK rfl rfl ?_ | refine gQ lQ rfl aS oK rfl rfl ?_ | refine kZ lQ rfl aS iN fE rfl rfl ?_ | refine kV lQ rfl aS iN fE rfl rfl ?_ | refine kT lQ rfl aS iN fE rfl rfl ?_ | refine jX lQ rfl aS iN fE rfl rfl ?_) | (refine fV ?_; first | refine aF rfl (fun _ => bQ rfl rfl) rfl rfl ?_ | refine aF rfl (fun _ => bI rfl) rfl rfl ?_) | (refine iO ?_; first | refine kI rfl rfl rfl mV stC rfl rfl ⟨jO, ?_⟩ | refine iC rfl rfl fE rE mV qP rfl rfl ⟨jO, ?_⟩) | (refine iF ?_; first | refine cK rfl ?_ | refine bN rfl ?_ | refine jR rfl (by omega) ?_ | refine mD rfl (by omega) ?_ | refine tO rfl (fun h => ?_) (fun h => ?_) | refine oP rfl (fun h => ?_) (fun h => ?_)))
 (repeat refine aG ?_); refine dS [0, 2, 1, 3, 4, 5] [1, 1, 0, 0, 0, 0] mixed (by kernel_rfl) ?_
 repeat (refine jG ?_)
 (refine aU rfl (hS1 _ _ aS) rfl rfl ?_; rintro _ _ _ ⟨rfl, rfl, rfl⟩; refine ⟨jO, ?_⟩)
 repeat (refine jG ?_)
 (refine aU rfl (hS2 _ _ aS) rfl rfl ?_; rintro _ _ _ ⟨rfl, rfl, rfl⟩; refine ⟨jO, ?_⟩)
 by_cases hs : y.sign = z.sign
 ·have hca := aTW hs
  repeat (refine jG ?_)
  (repeat refine aG ?_); refine dS [0, 2, 1, 3, 4, 5] [2, 2, 0, 0, 0, 0] mixed (by kernel_rfl) ?_
  repeat (refine jG ?_)
  (refine aU rfl (jT (c := cq) hy hk aS) rfl rfl ?_; rintro _ _ _ ⟨rfl, rfl, rfl⟩; refine ⟨jO, ?_⟩)
  repeat (refine jG ?_)
  (refine aU rfl (jT (c := cq') hz hm aS) rfl rfl ?_; rintro _ _ _ ⟨rfl, rfl, rfl⟩; refine ⟨jO, ?_⟩)
  repeat (refine jG ?_)
  (refine aU rfl (vU (by omega) (by omega) aS aS) rfl rfl ?_; rintro _ _ _ ⟨rfl, rfl, rfl⟩; refine ⟨jO, ?_⟩)
  have hcb : -1 ≤ fP (y.natAbs : Int) z.natAbs ∧ fP (y.natAbs : Int) z.natAbs ≤ 1 := by unfold fP; split <;> (try split) <;> omega
  by_cases hy0 : y < 0
  ·rw [if_pos hy0] at hca
   rw [hca]
   generalize fP (y.natAbs : Int) z.natAbs = cv at *
   repeat (refine jG ?_)
   refine aH (by first | exact .inl rfl | exact .inr rfl) rfl rfl _ _ bV bT (⟨rfl, rfl, congrArg (Value.int .i64) (by omega)⟩)
  ·rw [if_neg hy0] at hca
   rw [hca]
   generalize fP (y.natAbs : Int) z.natAbs = cv at *
   repeat (refine jG ?_)
   refine aH (by first | exact .inl rfl | exact .inr rfl) rfl rfl _ _ bV bT (⟨rfl, rfl, rfl⟩)
 ·rw [← aLQ hs]
  repeat (refine jG ?_)
  (refine aU rfl (CD.same (fun w _ => aOY _ _ _)) rfl rfl ?_; rintro _ _ _ ⟨rfl, rfl, rfl⟩; refine ⟨jO, ?_⟩)
  repeat (refine jG ?_)
  refine aH (by first | exact .inl rfl | exact .inr rfl) rfl rfl _ _ bV bT (⟨rfl, rfl, rfl⟩)
end
end Go.Proofs.YtjbhdfpjnjedhaaGreat
namespace Go.Proofs.YtjbhdfpjnjedhaaGreat
open Go Go.Fx
theorem aGZ {x : Int} (h : -9223372036854775808 ≤ x ∧ x < 0) : IntKind.u64.wrap x = x + 18446744073709551616 := by
 simp [IntKind.wrap, IntKind.bits, IntKind.signed]; omega
section
variable {X : List Nat} {w0 : World} {M0 : List Ent} {I0 : List aY}
theorem Of_ok {x : Int} (hx : 0 ≤ x ∧ x ≤ 9223372036854775807) : CD Tryz.prog 183 [.int .i64 x] X w0 M0 I0 (fun v M I => M0 = M ∧ I = iI v x 63 :: I0) := by
 obtain ⟨n, rfl⟩ : ∃ n : Nat, x = (n : Int) := ⟨x.toNat, by omega⟩
 have hn : n ≤ 2 ^ 63 := by omega
 have hsg : ((n : Nat) : Int) = sg False n := by unfold sg; rw [if_neg (fun h => h)]
 refine dY Tryz.func183 rfl Tryz.ntmps183 rfl ?_
 refine aG ?_
 refine aJ ?_
 (refine aI rfl rfl ?_; intro b; refine ⟨jO, ?_⟩)
 repeat (refine jG ?_)
 (refine aU rfl (rV (n := n) (by omega)) rfl rfl ?_; rintro _ _ _ ⟨rfl, q', c', rfl, hc', rfl⟩; refine ⟨jO, ?_⟩)
 have hMd := fun M0 I0 => lU (X := X) (w0 := w0) (M0 := M0) (I0 := I0) (p := ((n : Nat) : Int) < 0) (q := q') (c := c') (k := 63) (by have := eY hn; omega) hc' hn
 have hs2 : sg (((n : Nat) : Int) < 0) n = (n : Int) := by unfold sg; rw [if_neg (by omega)]
 simp only [hs2] at hMd
 (refine aU rfl (hMd _ _ aS) rfl rfl ?_; rintro _ _ _ ⟨rfl, rfl⟩; refine ⟨jO, ?_⟩; refine aW (List.Mem.head _) (fun q2 c2 e__ hc2 hz2 => ?_); subst e__)
 unfold iv
 repeat (refine jG ?_)
 refine bD (cs := [.bool (B (((n : Nat) : Int) < 0)), .slice q2 (gr ((n : Nat) : Int).natAbs).length c2]) (.inl rfl) rfl rfl aS rfl _ _ bV bT ⟨rfl, rfl⟩
end
end Go.Proofs.YtjbhdfpjnjedhaaGreat
namespace Go.Proofs.YtjbhdfpjnjedhaaGreat
open Go Go.Fx
abbrev vI (q : Option Addr) (c : Nat) (z : Int) : Value := .agg #[.bool (B (z < 0)), .slice q (gr z.natAbs).length c]
structure RE where
 q : Rat
 p1 : Option Addr
 c1 : Nat
 p2 : Option Addr
 c2 : Nat
instance : Inhabited RE := ⟨⟨0, none, 0, none, 0⟩⟩
abbrev eR (e : RE) : List Value := [.bool (B (e.q.num < 0)), .slice e.p1 (gr e.q.num.natAbs).length e.c1, .bool (B ((e.q.den : Int) < 0)), .slice e.p2 (gr (e.q.den : Int).natAbs).length e.c2]
abbrev rv (e : RE) : Value := .agg #[.bool (B (e.q.num < 0)), .slice e.p1 (gr e.q.num.natAbs).length e.c1, .bool (B ((e.q.den : Int) < 0)), .slice e.p2 (gr (e.q.den : Int).natAbs).length e.c2]
instance : Sized eR 4 := ⟨fun _ => rfl⟩
instance : Ones eR := ⟨fun m u hu => by
 simp only [eR, List.mem_cons, List.not_mem_nil, or_false] at hu
 rcases hu with rfl | rfl | rfl | rfl <;> rfl⟩
structure IsR (e : RE) (k : Nat) (X : List Nat) (w : World) : Prop where
 num : IsI (vI e.p1 e.c1 e.q.num) e.q.num k X w
 den : IsI (vI e.p2 e.c2 e.q.den) e.q.den k X w
abbrev bS (e : RE) (k : Nat) : aY := IsR e k
instance (e : RE) (k : Nat) : Fx.Good (IsR e k) := ⟨fun X Y w w' h he hY => ⟨Fx.Good.go (φ := IsI _ _ _) X Y w w' h.num he hY, Fx.Good.go (φ := IsI _ _ _) X Y w w' h.den he hY⟩⟩
theorem IsR.mono {e : RE} {k m : Nat} {X : List Nat} {w : World} (h : IsR e k X w) (hk : k ≤ m) : IsR e m X w := ⟨h.num.mono hk, h.den.mono hk⟩
theorem IsI.le {u : Value} {z : Int} {k : Nat} {X : List Nat} {w : World} (h : IsI u z k X w) : z.natAbs ≤ 2 ^ k := by
 obtain ⟨q, c, h1, h2, h3, h4⟩ := h.ex
 exact h3
structure AllR (es : List RE) (k : Nat) (X : List Nat) (w : World) : Prop where
 go : ∀ e ∈ es, IsR e k X w
abbrev cO (es : List RE) (k : Nat) : aY := AllR es k
instance (es : List RE) (k : Nat) : Fx.Good (AllR es k) := ⟨fun X Y w w' h he hY => ⟨fun e hm => Fx.Good.go (φ := IsR _ _) X Y w w' (h.go e hm) he hY⟩⟩
theorem AllR.mono {es : List RE} {k m : Nat} {X : List Nat} {w : World} (h : AllR es k X w) (hk : k ≤ m) : AllR es m X w := ⟨fun e he => (h.go e he).mono hk⟩
structure Hv (I : List aY) (φ : aY) : Prop where
 go : ∀ (X : List Nat) (w : World), (∀ ψ ∈ I, ψ X w) → φ X w
theorem Hv.mem {I : List aY} {φ : aY} (h : φ ∈ I) : Hv I φ := ⟨fun _ _ hw => hw φ h⟩
theorem Hv.q {I : List aY} {e : RE} {k m : Nat} (h : bS e k ∈ I) (hk : k ≤ m) : Hv I (bS e m) := ⟨fun X w hw => IsR.mono (hw _ h) hk⟩
theorem dF {α : Type} [Inhabited α] {ms : List α} {i : Int} (h : 0 ≤ i ∧ i < ms.length) : gt ms i ∈ ms := List.mem_of_getElem? (aKH h)
theorem Hv.all {I : List aY} {es : List RE} {k m : Nat} {i : Int} (h : cO es k ∈ I) (hi : 0 ≤ i ∧ i < es.length) (hk : k ≤ m) : Hv I (bS (gt es i) m) := ⟨fun X w hw => ((hw _ h : AllR es k X w).go _ (dF hi)).mono hk⟩
theorem Hv.inc {I I' : List aY} {φ : aY} (h : Hv I φ) (hs : ∀ ψ ∈ I, ψ ∈ I') : Hv I' φ := ⟨fun X w hw => h.go X w (fun ψ hm => hw ψ (hs ψ hm))⟩
theorem Hv.cons {I : List aY} {φ ψ : aY} (h : Hv I φ) : Hv (ψ :: I) φ := h.inc (fun _ hm => List.mem_cons_of_mem _ hm)
theorem Hv.allMono {I : List aY} {es : List RE} {k m : Nat} (h : cO es k ∈ I) (hk : k ≤ m) : Hv I (cO es m) := ⟨fun X w hw => AllR.mono (hw _ h) hk⟩
section
variable {P : Program} {n : Nat} {Q : Exit → Act → World → Prop} {G : Env} {X : List Nat} {w0 : World} {M M' : List Ent} {I I' : List aY}
theorem Mem.hv {w : World} {φ : aY} [Fx.Good φ] (h : Hv I φ) (hw : Mem X w0 M I w) : Mem X w0 M (φ :: I) w := hw.add (φ := φ) (h.go _ _ (fun ψ hm => (hw.imm ψ hm).2))
theorem cZ {f : FuncId} {vs : List Value} {K : Value → List Ent → List aY → Prop} {φ : aY} [Fx.Good φ] (h : Hv I φ) (k : CD P f vs X w0 M (φ :: I) K) : CD P f vs X w0 M I K := ⟨fun w hw => k.go w (Mem.hv h hw)⟩
theorem iB {c : Code} {φ : aY} [Fx.Good φ] (h : Hv I φ) (k : TD P n c Q G X w0 M (φ :: I)) : TD P n c Q G X w0 M I := yT (fun _ hw => Mem.hv h hw) k
theorem dP {ops l : List Oper} {m : Fx.Mode} {φ : aY} [Fx.Good φ] (h : Hv I φ) (k : RD P n ops Q m l G X w0 M (φ :: I)) : RD P n ops Q m l G X w0 M I := sW (fun _ hw => Mem.hv h hw) k
theorem gV {ex : Exit} {φ : aY} [Fx.Good φ] (h : Hv I φ) (k : ND n Q ex G X w0 M (φ :: I)) : ND n Q ex G X w0 M I := yY (fun _ hw => Mem.hv h hw) k
theorem aUS {w : World} {e : RE} {k : Nat} (h : Hv I (bS e k)) (hw : Mem X w0 M I w) : Mem X w0 M (iI (vI e.p1 e.c1 e.q.num) e.q.num k :: iI (vI e.p2 e.c2 e.q.den) e.q.den k :: I) w := by
 have hr : IsR e k (muts M) w := h.go _ _ (fun ψ hm => (hw.imm ψ hm).2)
 exact (hw.add (φ := iI (vI e.p2 e.c2 e.q.den) e.q.den k) hr.den).add (φ := iI (vI e.p1 e.c1 e.q.num) e.q.num k) hr.num
theorem aAM {f : FuncId} {vs : List Value} {K : Value → List Ent → List aY → Prop} {e : RE} {k : Nat} (h : Hv I (bS e k)) (c : CD P f vs X w0 M (iI (vI e.p1 e.c1 e.q.num) e.q.num k :: iI (vI e.p2 e.c2 e.q.den) e.q.den k :: I) K) : CD P f vs X w0 M I K := ⟨fun w hw => c.go w (aUS h hw)⟩
theorem iH {ops l : List Oper} {m : Fx.Mode} {e : RE} {k : Nat} (h : Hv I (bS e k)) (c : RD P n ops Q m l G X w0 M (iI (vI e.p1 e.c1 e.q.num) e.q.num k :: iI (vI e.p2 e.c2 e.q.den) e.q.den k :: I)) : RD P n ops Q m l G X w0 M I := sW (fun _ hw => aUS h hw) c
theorem aVU {w : World} {q : Rat} {k k1 k2 : Nat} {p1 p2 : Option Addr} {c1 c2 : Nat} (h1 : iI (vI p1 c1 q.num) q.num k1 ∈ I) (h2 : iI (vI p2 c2 q.den) q.den k2 ∈ I) (hk1 : k1 ≤ k) (hk2 : k2 ≤ k) (hw : Mem X w0 M I w) : Mem X w0 M (bS ⟨q, p1, c1, p2, c2⟩ k :: I) w :=
 hw.add (φ := bS ⟨q, p1, c1, p2, c2⟩ k) ⟨IsI.mono (hw.imm _ h1).2 hk1, IsI.mono (hw.imm _ h2).2 hk2⟩
theorem lZ {ex : Exit} {q : Rat} {k k1 k2 : Nat} {p1 p2 : Option Addr} {c1 c2 : Nat} (h1 : iI (vI p1 c1 q.num) q.num k1 ∈ I) (h2 : iI (vI p2 c2 q.den) q.den k2 ∈ I) (hk1 : k1 ≤ k) (hk2 : k2 ≤ k) (h : ND n Q ex G X w0 M (bS ⟨q, p1, c1, p2, c2⟩ k :: I)) : ND n Q ex G X w0 M I := yY (fun _ hw => aVU h1 h2 hk1 hk2 hw) h
theorem monoI {w : World} {u : Value} {z : Int} {k m : Nat} (h : iI u z k ∈ I) (hk : k ≤ m) (hw : Mem X w0 M I w) : Mem X w0 M (iI u z m :: I) w := hw.add (φ := iI u z m) (IsI.mono (hw.imm _ h).2 hk)
theorem aFZ {ops l : List Oper} {m : Fx.Mode} {u : Value} {z : Int} {k k2 : Nat} (h : iI u z k ∈ I) (hk : k ≤ k2) (c : RD P n ops Q m l G X w0 M (iI u z k2 :: I)) : RD P n ops Q m l G X w0 M I := sW (fun _ hw => monoI h hk hw) c
theorem IsI.tight {u : Value} {z : Int} {k m : Nat} {X : List Nat} {w : World} (h : IsI u z k X w) (hk : z.natAbs ≤ 2 ^ m) : IsI u z m X w := by
 obtain ⟨q, c, h1, h2, h3, h4⟩ := h.ex
 exact ⟨q, c, h1, h2, hk, h4⟩
theorem nA {ops l : List Oper} {m : Fx.Mode} {u : Value} {z : Int} {k k2 : Nat} (h : iI u z k ∈ I) (hk : z.natAbs ≤ 2 ^ k2) (c : RD P n ops Q m l G X w0 M (iI u z k2 :: I)) : RD P n ops Q m l G X w0 M I := sW (fun _ hw => hw.add (φ := iI u z k2) (IsI.tight (hw.imm _ h).2 hk)) c
end
def RQ (q : Rat) (k : Nat) (M0 : List Ent) (I0 : List aY) (v : Value) (M : List Ent) (I : List aY) : Prop := M0 = M ∧ ∃ e : RE, v = rv e ∧ e.q = q ∧ I = bS e k :: I0
def RQc (q : Rat) (k : Nat) (M0 : List Ent) (I0 : List aY) (v : Value) (M : List Ent) (I : List aY) : Prop := M0 = M ∧ ∃ e : RE, v = .tuple #[rv e, .int .i64 0] ∧ e.q = q ∧ I = bS e k :: I0
end Go.Proofs.YtjbhdfpjnjedhaaGreat
