/- integer: Of, sum integer: Gcd integer: Compare integer: Of Fractions in memory: records, facts, what follows from facts. -/
import Derived.Test.YtjbhdfpjnjedhaaGreatZmao
import Derived.Test.YtjbhdfpjnjedhaaGreatZmaj
import Derived.Test.YtjbhdfpjnjedhaaGreatZman
set_option linter.unusedSimpArgs false
set_option linter.unusedVariables false
set_option maxRecDepth 100000
set_option maxHeartbeats 4000000
namespace Go.Proofs.YtjbhdfpjnjedhaaGreat
open Go Go.Fx
section
variable {X : List Nat} {w0 : World} {M0 : List Ent} {I0 : List aX}
theorem aJJ {p q : Prop} [Decidable p] [Decidable q] {m n : Nat} (h : p ↔ q) : sg p (m + n) = sg p m + sg q n := by
 unfold sg
 by_cases hp : p
 ·rw [if_pos hp, if_pos hp, if_pos (h.1 hp)]; omega
 ·rw [if_neg hp, if_neg hp, if_neg (fun hq => hp (h.2 hq))]; omega
theorem xZ {p q : Prop} [Decidable p] [Decidable q] {m n : Nat} (h : ¬ (p ↔ q)) (hle : n ≤ m) : sg p (m - n) = sg p m + sg q n := by
 unfold sg
 by_cases hp : p
 ·rw [if_pos hp, if_pos hp, if_neg (fun hq => h ⟨fun _ => hq, fun _ => hp⟩)]; omega
 ·rw [if_neg hp, if_neg hp, if_pos (by rcases Classical.em q with hq | hq; exact hq; exact absurd ⟨fun h => absurd h hp, fun h => absurd h hq⟩ h)]; omega
theorem aTR {pn qn : Prop} [Decidable pn] [Decidable qn] {p q : Option Addr} {m n cp cq k : Nat} (hm : (gr m).length ≤ 50000000000) (hn : (gr n).length ≤ 50000000000) (hk : m + n ≤ 2 ^ k) (hk2 : k ≤ 1000000000000) (hp : aQ p (recs eG (gr m)) ∈ I0) (hq : aQ q (recs eG (gr n)) ∈ I0) :
  CD Tryz.prog 221 [.bool (B pn), .slice p (gr m).length cp, .bool (B qn), .slice q (gr n).length cq] X w0 M0 I0 (fun v M I => M0 = M ∧ I = iA v (sg pn m + sg qn n) k :: I0) := by
 have hC := fun M0 I0 => uJ (X := X) (w0 := w0) (M0 := M0) (I0 := I0) (p := p) (q := q) (m := m) (n := n) (cp := cp) (cq := cq) (by omega) (by omega)
 have hP := fun M0 I0 => aIR (X := X) (w0 := w0) (M0 := M0) (I0 := I0) (p := p) (q := q) (m := m) (n := n) (cp := cp) (cq := cq) (by omega) (by omega)
 have hM := fun M0 I0 (hle : n ≤ m) => zT (X := X) (w0 := w0) (M0 := M0) (I0 := I0) (p := p) (q := q) (m := m) (n := n) (cp := cp) (cq := cq) (by omega) hle
 have hM2 := fun M0 I0 (hle : m ≤ n) => zT (X := X) (w0 := w0) (M0 := M0) (I0 := I0) (p := q) (q := p) (m := n) (n := m) (cp := cq) (cq := cp) (by omega) hle
 have hl1 := fM hk hk2
 refine dS Tryz.func221 rfl Tryz.ntmps221 rfl ?_
 refine aG ?_
 refine aH ?_
 (refine aI rfl rfl ?_; intro b3; refine ⟨jC, ?_⟩)
 by_cases hpq : pn ↔ qn
 ·repeat (refine iX ?_)
  (refine aP rfl (hP _ _ aO aO) rfl rfl ?_; rintro _ _ _ ⟨rfl, q3, c3, rfl, hc3, rfl⟩; refine ⟨jC, ?_⟩)
  rw [← aJJ hpq]
  (refine aP rfl (lF (p := pn) (k := k) (by omega) hc3 hk aO) rfl rfl ?_; rintro _ _ _ ⟨rfl, rfl⟩; refine ⟨jC, ?_⟩; refine aV (List.Mem.head _) (fun q2 c2 e__ hc2 hz2 => ?_); subst e__)
  unfold iv
  repeat (refine iX ?_)
  refine bC (cs := [.bool (B (sg pn (m + n) < 0)), .slice q2 (gr (sg pn (m + n)).natAbs).length c2]) (.inl rfl) rfl rfl aO rfl _ _ bW bT ⟨rfl, rfl⟩
 ·by_cases hge : n ≤ m
  ·have hcv := vQ (x := (m : Int)) (y := (n : Int)) (by omega)
   have hk3 : m - n ≤ 2 ^ k := by omega
   have hl3 := fM hk3 hk2
   repeat (refine iX ?_)
   (refine aP rfl (hC _ _ aO aO) rfl rfl ?_; rintro _ _ _ ⟨rfl, rfl, rfl⟩; refine ⟨jC, ?_⟩)
   repeat (refine iX ?_)
   (refine aP rfl (hM _ _ hge aO aO) rfl rfl ?_; rintro _ _ _ ⟨rfl, q3, c3, rfl, hc3, rfl⟩; refine ⟨jC, ?_⟩)
   rw [← xZ hpq hge]
   (refine aP rfl (lF (p := pn) (k := k) (by omega) hc3 hk3 aO) rfl rfl ?_; rintro _ _ _ ⟨rfl, rfl⟩; refine ⟨jC, ?_⟩; refine aV (List.Mem.head _) (fun q2 c2 e__ hc2 hz2 => ?_); subst e__)
   unfold iv
   repeat (refine iX ?_)
   refine bC (cs := [.bool (B (sg pn (m - n) < 0)), .slice q2 (gr (sg pn (m - n)).natAbs).length c2]) (.inl rfl) rfl rfl aO rfl _ _ bW bT ⟨rfl, rfl⟩
  ·have hcv := vG (x := (m : Int)) (y := (n : Int)) (by omega)
   have hk3 : n - m ≤ 2 ^ k := by omega
   have hl3 := fM hk3 hk2
   have hs : sg pn m + sg qn n = sg qn (n - m) := by rw [Int.add_comm, ← xZ (fun h => hpq h.symm) (by omega)]
   repeat (refine iX ?_)
   (refine aP rfl (hC _ _ aO aO) rfl rfl ?_; rintro _ _ _ ⟨rfl, rfl, rfl⟩; refine ⟨jC, ?_⟩)
   repeat (refine iX ?_)
   (refine aP rfl (hM2 _ _ (by omega) aO aO) rfl rfl ?_; rintro _ _ _ ⟨rfl, q3, c3, rfl, hc3, rfl⟩; refine ⟨jC, ?_⟩)
   rw [hs]
   (refine aP rfl (lF (p := qn) (k := k) (by omega) hc3 hk3 aO) rfl rfl ?_; rintro _ _ _ ⟨rfl, rfl⟩; refine ⟨jC, ?_⟩; refine aV (List.Mem.head _) (fun q2 c2 e__ hc2 hz2 => ?_); subst e__)
   unfold iv
   repeat (refine iX ?_)
   refine bC (cs := [.bool (B (sg qn (n - m) < 0)), .slice q2 (gr (sg qn (n - m)).natAbs).length c2]) (.inl rfl) rfl rfl aO rfl _ _ bW bT ⟨rfl, rfl⟩
theorem aSV {u v : Value} {y z : Int} {k m c : Nat} (hk : k ≤ 1000000000000) (hm : m ≤ 1000000000000) (hc0 : c ≤ 1000000000000) (hs : 2 ^ k + 2 ^ m ≤ 2 ^ c) (hu : iA u y k ∈ I0) (hv : iA v z m ∈ I0) : CD Tryz.prog 166 [u, v] X w0 M0 I0 (fun v M I => M0 = M ∧ I = iA v (y + z) c :: I0) := by
 refine dE hu (fun q cq e hc hy => ?_)
 subst e
 refine dE (List.Mem.tail _ hv) (fun q' cq' e hc' hz => ?_)
 subst e
 have hl := fM hy (by omega)
 have hl' := fM hz (by omega)
 unfold iv
 refine dS Tryz.func166 rfl Tryz.ntmps166 rfl ?_
 refine aG ?_
 refine aH ?_
 (refine jW rfl rfl rfl ?_; intro b; refine ⟨jC, ?_⟩)
 (refine jW rfl rfl rfl ?_; intro b2; refine ⟨jC, ?_⟩)
 (refine aI rfl rfl ?_; intro b3; refine ⟨jC, ?_⟩)
 repeat' (first | refine aH ?_ | refine jD ?_ | refine gU ?_ | refine fD ?_ | refine fA ?_ | refine gV ?_ | refine gM ?_ | refine fE ?_ | refine fC ?_ | refine jF ?_ | refine jG ?_ | refine jB ?_ | refine jE rfl ?_ | refine bX ?_ | (refine gG ?_; first | refine fV rfl rfl rfl ?_ | (refine fT rfl rfl ?_; refine eQ rfl rfl rfl jC ?_) | refine fQ rfl rfl (by omega) ?_ | refine gL rfl rfl (by omega) ?_ | refine pM rfl rfl (fun h => ?_) (fun h => ?_) | (fail_if_success (refine rW rfl ?_); refine oG rfl rfl (fun h => ?_) (fun h => ?_))) | (refine bN ?_; refine aC rfl (fun _ => dD rfl) rfl rfl ?_) | refine aC rfl (fun _ => aY rfl) rfl rfl ?_ | (refine fZ ?_; first | refine aC rfl (fun _ => bH rfl rfl w_) rfl rfl ?_ | refine aC rfl (fun _ => bF rfl rfl w_) rfl rfl ?_ | refine aC rfl (fun _ => dL rfl rfl w_) rfl rfl ?_ | refine aC rfl (fun _ => dK rfl rfl (by omega) q_) rfl rfl ?_ | refine aC rfl (fun _ => dJ rfl rfl (by omega) rfl) rfl rfl ?_ | refine aC rfl (fun _ => dC rfl rfl) rfl rfl ?_ | refine aC rfl (fun _ => dF rfl rfl) rfl rfl ?_ | refine aC rfl (fun _ => dG rfl rfl) rfl rfl ?_) | (refine bN ?_; first | refine aC rfl (fun _ => dH rfl w_) rfl rfl ?_) | (refine gH ?_; first | refine aC rfl (fun _ => bY rfl w_) rfl rfl ?_) | (refine gK ?_; first | refine aC rfl (fun _ => bG rfl) rfl rfl ?_ | refine aC rfl (fun _ => cO rfl rfl) rfl rfl ?_ | refine aC rfl (fun _ => cK rfl rfl) rfl rfl ?_ | refine aC rfl (fun _ => dB rfl rfl rfl) rfl rfl ?_) | (refine fU ?_; first | refine gD rfl (by decide) rfl rfl ?_ | refine iK rfl (by decide) rfl rfl ?_) | (refine gF ?_; first | refine aC rfl (fun _ => bV rfl) rfl rfl ?_) | (refine gI ?_; first | refine iL rfl rfl iB rfl rfl ?_ | refine iQ kV rfl rfl iB aO iW rfl rfl ?_ | refine iN kV rfl rfl iB aO iW rfl rfl ?_ | refine aC rfl (fun _ => bM rfl rfl iB) rfl rfl ?_) | (refine gJ ?_; first | refine iO kV rfl aO nW rfl rfl ?_ | refine iM kV rfl aO nW rfl rfl ?_ | refine fK kV rfl aO nW rfl rfl ?_ | refine fO kV rfl aO nW rfl rfl ?_ | refine kG kV rfl aO iF eX rfl rfl ?_ | refine kI kV rfl aO iF eX rfl rfl ?_ | refine kH kV rfl aO iF eX rfl rfl ?_ | refine jL kV rfl aO iF eX rfl rfl ?_) | (refine fP ?_; first | refine aC rfl (fun _ => bK rfl rfl) rfl rfl ?_ | refine aC rfl (fun _ => bD rfl) rfl rfl ?_) | (refine iG ?_; first | refine jV rfl rfl rfl mD stC rfl rfl ⟨jC, ?_⟩ | refine gX rfl rfl eX qV mD qX rfl rfl ⟨jC, ?_⟩) | (refine gT ?_; first | refine bS rfl ?_ | refine bI rfl ?_ | refine jH rfl (by omega) ?_ | refine lL rfl (by omega) ?_ | refine sK rfl (fun h => ?_) (fun h => ?_) | refine oD rfl (fun h => ?_) (fun h => ?_)))
 (repeat refine aG ?_); refine bJ 3 [0, 1, 2, 4, 5, 6, 3, 7, 8, 9] [3, 2, 2, 3, 2, 2, 0, 0, 0, 0] mixed (by kernel_rfl) ?_
 repeat (refine iX ?_)
 (refine aP rfl (jJ (c := cq) hy (by omega) aO) rfl rfl ?_; rintro _ _ _ ⟨rfl, rfl, rfl⟩; refine ⟨jC, ?_⟩)
 repeat (refine iX ?_)
 (refine aP rfl (jJ (c := cq') hz (by omega) aO) rfl rfl ?_; rintro _ _ _ ⟨rfl, rfl, rfl⟩; refine ⟨jC, ?_⟩)
 repeat (refine iX ?_)
 have hyz : y.natAbs + z.natAbs ≤ 2 ^ c := Nat.le_trans (Nat.add_le_add hy hz) hs
 have hS := fun M0 I0 => aTR (X := X) (w0 := w0) (M0 := M0) (I0 := I0) (p := q) (q := q') (cp := cq) (cq := cq') (pn := y < 0) (qn := z < 0) (k := c) (by omega) (by omega) hyz hc0
 simp only [pI] at hS
 (refine aP rfl (hS _ _ aO aO) rfl rfl ?_; rintro _ _ _ ⟨rfl, rfl⟩; refine ⟨jC, ?_⟩; refine aV (List.Mem.head _) (fun q2 c2 e__ hc2 hz2 => ?_); subst e__)
 unfold iv
 repeat (refine iX ?_)
 refine bC (cs := [.bool (B (y + z < 0)), .slice q2 (gr (y + z).natAbs).length c2]) (.inl rfl) rfl rfl aO rfl _ _ bW bT ⟨rfl, rfl⟩
end
end Go.Proofs.YtjbhdfpjnjedhaaGreat
namespace Go.Proofs.YtjbhdfpjnjedhaaGreat
open Go Go.Fx
section
variable {X : List Nat} {w0 : World} {M0 : List Ent} {I0 : List aX}
theorem aFZ {u v : Value} {y z : Int} {k0 m : Nat} (hk : k0 ≤ 500000000000) (hm : m ≤ 500000000000) (hu : iA u y k0 ∈ I0) (hv : iA v z m ∈ I0) : CD Tryz.prog 195 [u, v] X w0 M0 I0 (fun v M I => M0 = M ∧ I = iA v (Int.gcd y z) (k0 + m) :: I0) := by
 refine dE hu (fun q cq e hc hy => ?_)
 subst e
 refine dE (List.Mem.tail _ hv) (fun q' cq' e hc' hz => ?_)
 subst e
 have hy2 : y.natAbs ≤ 2 ^ (k0 + m) := Nat.le_trans hy (Nat.pow_le_pow_right (by decide) (by omega))
 have hz2 : z.natAbs ≤ 2 ^ (k0 + m) := Nat.le_trans hz (Nat.pow_le_pow_right (by decide) (by omega))
 unfold iv
 refine dS Tryz.func195 rfl Tryz.ntmps195 rfl ?_
 refine aG ?_
 refine aH ?_
 (refine jW rfl rfl rfl ?_; intro b; refine ⟨jC, ?_⟩)
 (refine jW rfl rfl rfl ?_; intro b2; refine ⟨jC, ?_⟩)
 (refine aI rfl rfl ?_; intro b3; refine ⟨jC, ?_⟩)
 repeat' (first | refine aH ?_ | refine jD ?_ | refine gU ?_ | refine fD ?_ | refine fA ?_ | refine gV ?_ | refine gM ?_ | refine fE ?_ | refine fC ?_ | refine jF ?_ | refine jG ?_ | refine jB ?_ | refine jE rfl ?_ | refine bX ?_ | (refine gG ?_; first | refine fV rfl rfl rfl ?_ | (refine fT rfl rfl ?_; refine eQ rfl rfl rfl jC ?_) | refine fQ rfl rfl (by omega) ?_ | refine gL rfl rfl (by omega) ?_ | refine pM rfl rfl (fun h => ?_) (fun h => ?_) | (fail_if_success (refine rW rfl ?_); refine oG rfl rfl (fun h => ?_) (fun h => ?_))) | (refine bN ?_; refine aC rfl (fun _ => dD rfl) rfl rfl ?_) | refine aC rfl (fun _ => aY rfl) rfl rfl ?_ | (refine fZ ?_; first | refine aC rfl (fun _ => bH rfl rfl w_) rfl rfl ?_ | refine aC rfl (fun _ => bF rfl rfl w_) rfl rfl ?_ | refine aC rfl (fun _ => dL rfl rfl w_) rfl rfl ?_ | refine aC rfl (fun _ => dK rfl rfl (by omega) q_) rfl rfl ?_ | refine aC rfl (fun _ => dJ rfl rfl (by omega) rfl) rfl rfl ?_ | refine aC rfl (fun _ => dC rfl rfl) rfl rfl ?_ | refine aC rfl (fun _ => dF rfl rfl) rfl rfl ?_ | refine aC rfl (fun _ => dG rfl rfl) rfl rfl ?_) | (refine bN ?_; first | refine aC rfl (fun _ => dH rfl w_) rfl rfl ?_) | (refine gH ?_; first | refine aC rfl (fun _ => bY rfl w_) rfl rfl ?_) | (refine gK ?_; first | refine aC rfl (fun _ => bG rfl) rfl rfl ?_ | refine aC rfl (fun _ => cO rfl rfl) rfl rfl ?_ | refine aC rfl (fun _ => cK rfl rfl) rfl rfl ?_ | refine aC rfl (fun _ => dB rfl rfl rfl) rfl rfl ?_) | (refine fU ?_; first | refine gD rfl (by decide) rfl rfl ?_ | refine iK rfl (by decide) rfl rfl ?_) | (refine gF ?_; first | refine aC rfl (fun _ => bV rfl) rfl rfl ?_) | (refine gI ?_; first | refine iL rfl rfl iB rfl rfl ?_ | refine iQ kV rfl rfl iB aO iW rfl rfl ?_ | refine iN kV rfl rfl iB aO iW rfl rfl ?_ | refine aC rfl (fun _ => bM rfl rfl iB) rfl rfl ?_) | (refine gJ ?_; first | refine iO kV rfl aO nW rfl rfl ?_ | refine iM kV rfl aO nW rfl rfl ?_ | refine fK kV rfl aO nW rfl rfl ?_ | refine fO kV rfl aO nW rfl rfl ?_ | refine kG kV rfl aO iF eX rfl rfl ?_ | refine kI kV rfl aO iF eX rfl rfl ?_ | refine kH kV rfl aO iF eX rfl rfl ?_ | refine jL kV rfl aO iF eX rfl rfl ?_) | (refine fP ?_; first | refine aC rfl (fun _ => bK rfl rfl) rfl rfl ?_ | refine aC rfl (fun _ => bD rfl) rfl rfl ?_) | (refine iG ?_; first | refine jV rfl rfl rfl mD stC rfl rfl ⟨jC, ?_⟩ | refine gX rfl rfl eX qV mD qX rfl rfl ⟨jC, ?_⟩) | (refine gT ?_; first | refine bS rfl ?_ | refine bI rfl ?_ | refine jH rfl (by omega) ?_ | refine lL rfl (by omega) ?_ | refine sK rfl (fun h => ?_) (fun h => ?_) | refine oD rfl (fun h => ?_) (fun h => ?_)))
 (repeat refine aG ?_); refine bJ 3 [0, 2, 1, 3, 4, 5] [1, 1, 0, 0, 0, 0] mixed (by kernel_rfl) ?_
 repeat (refine iX ?_)
 (refine aP rfl (jJ (c := cq) hy (by omega) aO) rfl rfl ?_; rintro _ _ _ ⟨rfl, rfl, rfl⟩; refine ⟨jC, ?_⟩)
 repeat (refine iX ?_)
 (refine aP rfl (jJ (c := cq') hz (by omega) aO) rfl rfl ?_; rintro _ _ _ ⟨rfl, rfl, rfl⟩; refine ⟨jC, ?_⟩)
 repeat (refine iX ?_)
 refine aW [4] rfl (fun k G M I => ∃ (a b : Nat) (pa pb : Option Addr) (ca cb : Nat), k = b ∧ a ≤ 2 ^ (k0 + m) ∧ b ≤ 2 ^ (k0 + m) ∧ oV pa a ca ∧ oV pb b cb ∧ Nat.gcd a b = Nat.gcd y.natAbs z.natAbs ∧ G = [(5, .slice pa (gr a).length ca), (6, .slice pb (gr b).length cb)] ∧ M = .blk b3 [.bool false, .slice none 0 0] 48 :: M0 ∧ I = aQ pa (recs eG (gr a)) :: aQ pb (recs eG (gr b)) :: I0) (z.natAbs) _ _ _ aS bW bT (⟨y.natAbs, z.natAbs, q, q', cq, cq', rfl, hy2, hz2, hc, hc', rfl, rfl, rfl, rfl⟩) ?_
 rintro k G M I ⟨a, b', pa, pb, ca, cb, rfl, ha, hb, oa, ob, hg, rfl, rfl, rfl⟩
 have la := dY ha
 have lb := dY hb
 have hW1 := fun M0 I0 => yB (X := X) (w0 := w0) (M0 := M0) (I0 := I0) (q := pa) (n := a) (c := ca) (by omega)
 have hW2 := fun M0 I0 => yB (X := X) (w0 := w0) (M0 := M0) (I0 := I0) (q := pb) (n := k) (c := cb) (by omega)
 by_cases hk0 : k = 0
 ·subst hk0
  have hl0 : (gr 0).length = 0 := by rw [gN]; rfl
  rw [Nat.gcd_zero_right] at hg
  have hz : (Int.gcd y z : Int) = sg False a := by unfold sg; rw [if_neg (fun h => h), hg]; rfl
  repeat (refine iX ?_)
  (refine aP rfl (wL (a := gr a) (by omega) oa.2 aO) rfl rfl ?_; rintro _ _ _ ⟨rfl, q', c', rfl, rfl⟩; refine ⟨jC, ?_⟩)
  refine lZ (fun w hw => And.intro (hw.rowLe (List.Mem.head _)) ((hw.rowS (List.Mem.head _)).2.imp id And.right)) (fun hc' => ?_)
  refine eP uV ?_
  repeat (refine iX ?_)
  rw [hz]
  have hMd := fun M0 I0 => lF (X := X) (w0 := w0) (M0 := M0) (I0 := I0) (p := False) (q := q') (c := c') (k := k0 + m) (by omega) hc' ha
  simp only [bE (show ¬ False from id)] at hMd
  (refine aP rfl (hMd _ _ aO) rfl rfl ?_; rintro _ _ _ ⟨rfl, rfl⟩; refine ⟨jC, ?_⟩; refine aV (List.Mem.head _) (fun q2 c2 e__ hc2 hz2 => ?_); subst e__)
  unfold iv
  repeat (refine iX ?_)
  refine bC (cs := [.bool (B (sg False a < 0)), .slice q2 (gr (sg False a).natAbs).length c2]) (.inl rfl) rfl rfl aO rfl _ _ bW bT ⟨rfl, rfl⟩
 ·have hlk : 0 < (gr k).length := List.length_pos_iff.2 (fun e => hk0 (nJ.1 e))
  by_cases hw : (gr a).length ≤ 2 ∧ (gr k).length ≤ 2
  ·have hb9 : ∀ t : Nat, (gr t).length ≤ 2 → t < 1000000000000000000 := fun t ht => by
    have := jO (bQ t)
    rw [bZ] at this
    have h2 : (1000000000 : Int) ^ (gr t).length ≤ 1000000000 ^ 2 := mE ht
    omega
   have a9 := hb9 a hw.1
   have k9 := hb9 k hw.2
   rw [if_pos hw.1, cB hw.1] at hW1
   rw [if_pos hw.2, cB hw.2] at hW2
   repeat (refine iX ?_)
   (refine aP rfl (hW1 _ _ aO) rfl rfl ?_; rintro _ _ _ ⟨rfl, rfl, rfl⟩; refine ⟨jC, ?_⟩)
   repeat (refine iX ?_)
   (refine aP rfl (hW2 _ _ aO) rfl rfl ?_; rintro _ _ _ ⟨rfl, rfl, rfl⟩; refine ⟨jC, ?_⟩)
   repeat (refine iX ?_)
   refine aW [4] rfl (fun k G M I => ∃ (x x2 : Nat), k = x2 ∧ x < 1000000000000000000 ∧ x2 < 1000000000000000000 ∧ x ≤ 2 ^ (k0 + m) ∧ x2 ≤ 2 ^ (k0 + m) ∧ Nat.gcd x x2 = Nat.gcd y.natAbs z.natAbs ∧ G = [(7, .int .u64 x), (9, .int .u64 x2)] ∧ M = .blk b3 [.bool false, .slice none 0 0] 48 :: M0 ∧ I0 = I) (k) _ _ _ aS bW bT (⟨a, k, rfl, a9, k9, ha, hb, hg, rfl, rfl, rfl⟩) ?_
   rintro k G M I ⟨x, x2, rfl, hx9, hx29, hx, hx2, hxg, rfl, rfl, rfl⟩
   by_cases hx0 : k = 0
   ·subst hx0
    rw [Nat.gcd_zero_right] at hxg
    have hz : (Int.gcd y z : Int) = sg False x := by unfold sg; rw [if_neg (fun h => h), hxg]; rfl
    repeat (refine iX ?_)
    (refine aP rfl (pY (n := x) (by omega)) rfl rfl ?_; rintro _ _ _ ⟨rfl, q', c', rfl, hc', rfl⟩; refine ⟨jC, ?_⟩)
    rw [hz]
    have hMd := fun M0 I0 => lF (X := X) (w0 := w0) (M0 := M0) (I0 := I0) (p := False) (q := q') (c := c') (k := k0 + m) (by have := dY hx; omega) hc' hx
    simp only [bE (show ¬ False from id)] at hMd
    (refine aP rfl (hMd _ _ aO) rfl rfl ?_; rintro _ _ _ ⟨rfl, rfl⟩; refine ⟨jC, ?_⟩; refine aV (List.Mem.head _) (fun q2 c2 e__ hc2 hz2 => ?_); subst e__)
    unfold iv
    repeat (refine iX ?_)
    refine bC (cs := [.bool (B (sg False x < 0)), .slice q2 (gr (sg False x).natAbs).length c2]) (.inl rfl) rfl rfl aO rfl _ _ bW bT ⟨rfl, rfl⟩
   ·have e2 : ((x : Int)).tmod (k : Int) = ((x % k : Nat) : Int) := by rw [Int.tmod_eq_emod_of_nonneg (by omega), Int.natCast_emod]
    have hmod := Nat.mod_lt x (show k > 0 by omega)
    have hg2 : Nat.gcd k (x % k) = Nat.gcd y.natAbs z.natAbs := by rw [← hxg, Nat.gcd_comm x k, Nat.gcd_rec k x, Nat.gcd_comm]
    repeat (refine iX ?_)
    (repeat refine aG ?_); refine eO [0, 1, 2, 3, 4, 5] [0, 0, 0, 0, 0, 0] mixed (by kernel_rfl) ?_
    repeat (refine iX ?_)
    rw [e2]
    refine aK (x % k) _ _ _ (by first | omega | (simp only [List.length_append, List.length_cons, List.length_nil]; omega)) aS bW bT (⟨k, x % k, rfl, by omega, by omega, hx2, by omega, hg2, rfl, rfl, rfl⟩)
  ·have hO := fun M0 I0 => aHW (X := X) (w0 := w0) (M0 := M0) (I0 := I0) (p := pa) (q := pb) (m := a) (n := k) (cp := ca) (cq := cb) (by omega) (by omega) (by omega) oa
   have hmod := Nat.mod_lt a (show k > 0 by omega)
   have hg2 : Nat.gcd k (a % k) = Nat.gcd y.natAbs z.natAbs := by rw [← hg, Nat.gcd_comm a k, Nat.gcd_rec k a, Nat.gcd_comm]
   by_cases hw1 : (gr a).length ≤ 2
   ·have hw2 : ¬ (gr k).length ≤ 2 := fun h => hw ⟨hw1, h⟩
    rw [if_pos hw1, cB hw1] at hW1
    rw [if_neg hw2, bE hw2] at hW2
    repeat (refine iX ?_)
    (refine aP rfl (hW1 _ _ aO) rfl rfl ?_; rintro _ _ _ ⟨rfl, rfl, rfl⟩; refine ⟨jC, ?_⟩)
    repeat (refine iX ?_)
    (refine aP rfl (hW2 _ _ aO) rfl rfl ?_; rintro _ _ _ ⟨rfl, rfl, rfl⟩; refine ⟨jC, ?_⟩)
    repeat (refine iX ?_)
    (refine aP rfl (hO _ _ aO aO) rfl rfl ?_; rintro _ _ _ ⟨rfl, p1, c1, p2, c2, ho1, ho2, rfl, rfl⟩; refine ⟨jC, ?_⟩)
    repeat (refine iX ?_)
    refine aK (a % k) _ _ _ (by first | omega | (simp only [List.length_append, List.length_cons, List.length_nil]; omega)) aS bW bT (⟨k, a % k, pb, p2, cb, c2, rfl, hb, by omega, ob, ho2, hg2, rfl, rfl, rfl⟩)
   ·rw [if_neg hw1, bE hw1] at hW1
    repeat (refine iX ?_)
    (refine aP rfl (hW1 _ _ aO) rfl rfl ?_; rintro _ _ _ ⟨rfl, rfl, rfl⟩; refine ⟨jC, ?_⟩)
    repeat (refine iX ?_)
    (refine aP rfl (hW2 _ _ aO) rfl rfl ?_; rintro _ _ _ ⟨rfl, rfl, rfl⟩; refine ⟨jC, ?_⟩)
    repeat (refine iX ?_)
    (refine aP rfl (hO _ _ aO aO) rfl rfl ?_; rintro _ _ _ ⟨rfl, p1, c1, p2, c2, ho1, ho2, rfl, rfl⟩; refine ⟨jC, ?_⟩)
    repeat (refine iX ?_)
    refine aK (a % k) _ _ _ (by first | omega | (simp only [List.length_append, List.length_cons, List.length_nil]; omega)) aS bW bT (⟨k, a % k, pb, p2, cb, c2, rfl, hb, by omega, ob, ho2, hg2, rfl, rfl, rfl⟩)
end
end Go.Proofs.YtjbhdfpjnjedhaaGreat
namespace Go.Proofs.YtjbhdfpjnjedhaaGreat
open Go Go.Fx
theorem aKQ {y z : Int} (h : y.sign ≠ z.sign) : fH y.sign z.sign = fH y z := by
 unfold fH
 rcases Int.lt_trichotomy y 0 with hy | hy | hy <;> rcases Int.lt_trichotomy z 0 with hz | hz | hz <;>
  simp_all [Int.sign_eq_one_of_pos, Int.sign_eq_neg_one_of_neg] <;> omega
theorem aQJ {y z : Int} (h : y.sign = z.sign) : fH y z = if y < 0 then -fH y.natAbs z.natAbs else fH y.natAbs z.natAbs := by
 have h1 : y < 0 ↔ z < 0 := by rw [← Int.sign_eq_neg_one_iff_neg, ← Int.sign_eq_neg_one_iff_neg, h]
 unfold fH
 by_cases hy : y < 0
 ·have hz := h1.1 hy
  rw [if_pos hy]
  split <;> split <;> (try split) <;> (try split) <;> omega
 ·have hz : ¬ z < 0 := fun hz => hy (h1.2 hz)
  rw [if_neg hy]
  split <;> split <;> (try split) <;> (try split) <;> omega
section
variable {X : List Nat} {w0 : World} {M0 : List Ent} {I0 : List aX}
theorem uU {u v : Value} {y z : Int} {k m : Nat} (hk : k ≤ 1000000000000) (hm : m ≤ 1000000000000) (hu : iA u y k ∈ I0) (hv : iA v z m ∈ I0) : CD Tryz.prog 147 [u, v] X w0 M0 I0 (fun v M I => M0 = M ∧ I0 = I ∧ v = .int .i64 (fH y z)) := by
 have hS1 := fun M0 I0 h => rJ (X := X) (w0 := w0) (M0 := M0) (I0 := I0) (u := u) (z := y) hk h
 have hS2 := fun M0 I0 h => rJ (X := X) (w0 := w0) (M0 := M0) (I0 := I0) (u := v) (z := z) hm h
 refine dE hu (fun q cq e hc hy => ?_)
 subst e
 refine dE (List.Mem.tail _ hv) (fun q' cq' e hc' hz => ?_)
 subst e
 have hl := fM hy hk
 have hl' := fM hz hm
 unfold iv at *
 refine dS Tryz.func147 rfl Tryz.ntmps147 rfl ?_
 refine aG ?_
 refine aH ?_
 (refine jW rfl rfl rfl ?_; intro b; refine ⟨jC, ?_⟩)
 (refine jW rfl rfl rfl ?_; intro b2; refine ⟨jC, ?_⟩)
 repeat' (first | refine aH ?_ | refine jD ?_ | refine gU ?_ | refine fD ?_ | refine fA ?_ | refine gV ?_ | refine gM ?_ | refine fE ?_ | refine fC ?_ | refine jF ?_ | refine jG ?_ | refine jB ?_ | refine jE rfl ?_ | refine bX ?_ | (refine gG ?_; first | refine fV rfl rfl rfl ?_ | (refine fT rfl rfl ?_; refine eQ rfl rfl rfl jC ?_) | refine fQ rfl rfl (by omega) ?_ | refine gL rfl rfl (by omega) ?_ | refine pM rfl rfl (fun h => ?_) (fun h => ?_) | (fail_if_success (refine rW rfl ?_); refine oG rfl rfl (fun h => ?_) (fun h => ?_))) | (refine bN ?_; refine aC rfl (fun _ => dD rfl) rfl rfl ?_) | refine aC rfl (fun _ => aY rfl) rfl rfl ?_ | (refine fZ ?_; first | refine aC rfl (fun _ => bH rfl rfl w_) rfl rfl ?_ | refine aC rfl (fun _ => bF rfl rfl w_) rfl rfl ?_ | refine aC rfl (fun _ => dL rfl rfl w_) rfl rfl ?_ | refine aC rfl (fun _ => dK rfl rfl (by omega) q_) rfl rfl ?_ | refine aC rfl (fun _ => dJ rfl rfl (by omega) rfl) rfl rfl ?_ | refine aC rfl (fun _ => dC rfl rfl) rfl rfl ?_ | refine aC rfl (fun _ => dF rfl rfl) rfl rfl ?_ | refine aC rfl (fun _ => dG rfl rfl) rfl rfl ?_) | (refine bN ?_; first | refine aC rfl (fun _ => dH rfl w_) rfl rfl ?_) | (refine gH ?_; first | refine aC rfl (fun _ => bY rfl w_) rfl rfl ?_) | (refine gK ?_; first | refine aC rfl (fun _ => bG rfl) rfl rfl ?_ | refine aC rfl (fun _ => cO rfl rfl) rfl rfl ?_ | refine aC rfl (fun _ => cK rfl rfl) rfl rfl ?_ | refine aC rfl (fun _ => dB rfl rfl rfl) rfl rfl ?_) | (refine fU ?_; first | refine gD rfl (by decide) rfl rfl ?_ | refine iK rfl (by decide) rfl rfl ?_) | (refine gF ?_; first | refine aC rfl (fun _ => bV rfl) rfl rfl ?_) | (refine gI ?_; first | refine iL rfl rfl iB rfl rfl ?_ | refine iQ kV rfl rfl iB aO iW rfl rfl ?_ | refine iN kV rfl rfl iB aO iW rfl rfl ?_ | refine aC rfl (fun _ => bM rfl rfl iB) rfl rfl ?_) | (refine gJ ?_; first | refine iO kV rfl aO nW rfl rfl ?_ | refine iM kV rfl aO nW rfl rfl ?_ | refine fK kV rfl aO nW rfl rfl ?_ | refine fO kV rfl aO nW rfl rfl ?_ | refine kG kV rfl aO iF eX rfl rfl ?_ | refine kI kV rfl aO iF eX rfl rfl ?_ | refine kH kV rfl aO iF eX rfl rfl ?_ | refine jL kV rfl aO iF eX rfl rfl ?_) | (refine fP ?_; first | refine aC rfl (fun _ => bK rfl rfl) rfl rfl ?_ | refine aC rfl (fun _ => bD rfl) rfl rfl ?_) | (refine iG ?_; first | refine jV rfl rfl rfl mD stC rfl rfl ⟨jC, ?_⟩ | refine gX rfl rfl eX qV mD qX rfl rfl ⟨jC, ?_⟩) | (refine gT ?_; first | refine bS rfl ?_ | refine bI rfl ?_ | refine jH rfl (by omega) ?_ | refine lL rfl (by omega) ?_ | refine sK rfl (fun h => ?_) (fun h => ?_) | refine oD rfl (fun h => ?_) (fun h => ?_)))
 (repeat refine aG ?_); refine eO [0, 2, 1, 3, 4, 5] [1, 1, 0, 0, 0, 0] mixed (by kernel_rfl) ?_
 repeat (refine iX ?_)
 (refine aP rfl (hS1 _ _ aO) rfl rfl ?_; rintro _ _ _ ⟨rfl, rfl, rfl⟩; refine ⟨jC, ?_⟩)
 repeat (refine iX ?_)
 (refine aP rfl (hS2 _ _ aO) rfl rfl ?_; rintro _ _ _ ⟨rfl, rfl, rfl⟩; refine ⟨jC, ?_⟩)
 by_cases hs : y.sign = z.sign
 ·have hca := aQJ hs
  repeat (refine iX ?_)
  (repeat refine aG ?_); refine eO [0, 2, 1, 3, 4, 5] [2, 2, 0, 0, 0, 0] mixed (by kernel_rfl) ?_
  repeat (refine iX ?_)
  (refine aP rfl (jJ (c := cq) hy hk aO) rfl rfl ?_; rintro _ _ _ ⟨rfl, rfl, rfl⟩; refine ⟨jC, ?_⟩)
  repeat (refine iX ?_)
  (refine aP rfl (jJ (c := cq') hz hm aO) rfl rfl ?_; rintro _ _ _ ⟨rfl, rfl, rfl⟩; refine ⟨jC, ?_⟩)
  repeat (refine iX ?_)
  (refine aP rfl (uJ (by omega) (by omega) aO aO) rfl rfl ?_; rintro _ _ _ ⟨rfl, rfl, rfl⟩; refine ⟨jC, ?_⟩)
  have hcb : -1 ≤ fH (y.natAbs : Int) z.natAbs ∧ fH (y.natAbs : Int) z.natAbs ≤ 1 := by unfold fH; split <;> (try split) <;> omega
  by_cases hy0 : y < 0
  ·rw [if_pos hy0] at hca
   rw [hca]
   generalize fH (y.natAbs : Int) z.natAbs = cv at *
   repeat (refine iX ?_)
   refine aJ (by first | exact .inl rfl | exact .inr rfl) rfl rfl _ _ bW bT (⟨rfl, rfl, congrArg (Value.int .i64) (by omega)⟩)
  ·rw [if_neg hy0] at hca
   rw [hca]
   generalize fH (y.natAbs : Int) z.natAbs = cv at *
   repeat (refine iX ?_)
   refine aJ (by first | exact .inl rfl | exact .inr rfl) rfl rfl _ _ bW bT (⟨rfl, rfl, rfl⟩)
 ·rw [← aKQ hs]
  repeat (refine iX ?_)
  (refine aP rfl (CD.same (fun w _ => aPB _ _ _)) rfl rfl ?_; rintro _ _ _ ⟨rfl, rfl, rfl⟩; refine ⟨jC, ?_⟩)
  repeat (refine iX ?_)
  refine aJ (by first | exact .inl rfl | exact .inr rfl) rfl rfl _ _ bW bT (⟨rfl, rfl, rfl⟩)
end
end Go.Proofs.YtjbhdfpjnjedhaaGreat
namespace Go.Proofs.YtjbhdfpjnjedhaaGreat
open Go Go.Fx
theorem aFB {x : Int} (h : -9223372036854775808 ≤ x ∧ x < 0) : IntKind.u64.wrap x = x + 18446744073709551616 := by
 simp [IntKind.wrap, IntKind.bits, IntKind.signed]; omega
section
variable {X : List Nat} {w0 : World} {M0 : List Ent} {I0 : List aX}
theorem Of_ok {x : Int} (hx : 0 ≤ x ∧ x ≤ 9223372036854775807) : CD Tryz.prog 183 [.int .i64 x] X w0 M0 I0 (fun v M I => M0 = M ∧ I = iA v x 63 :: I0) := by
 obtain ⟨n, rfl⟩ : ∃ n : Nat, x = (n : Int) := ⟨x.toNat, by omega⟩
 have hn : n ≤ 2 ^ 63 := by omega
 have hsg : ((n : Nat) : Int) = sg False n := by unfold sg; rw [if_neg (fun h => h)]
 refine dS Tryz.func183 rfl Tryz.ntmps183 rfl ?_
 refine aG ?_
 refine aH ?_
 (refine aI rfl rfl ?_; intro b; refine ⟨jC, ?_⟩)
 repeat (refine iX ?_)
 (refine aP rfl (pY (n := n) (by omega)) rfl rfl ?_; rintro _ _ _ ⟨rfl, q', c', rfl, hc', rfl⟩; refine ⟨jC, ?_⟩)
 have hMd := fun M0 I0 => lF (X := X) (w0 := w0) (M0 := M0) (I0 := I0) (p := ((n : Nat) : Int) < 0) (q := q') (c := c') (k := 63) (by have := dY hn; omega) hc' hn
 have hs2 : sg (((n : Nat) : Int) < 0) n = (n : Int) := by unfold sg; rw [if_neg (by omega)]
 simp only [hs2] at hMd
 (refine aP rfl (hMd _ _ aO) rfl rfl ?_; rintro _ _ _ ⟨rfl, rfl⟩; refine ⟨jC, ?_⟩; refine aV (List.Mem.head _) (fun q2 c2 e__ hc2 hz2 => ?_); subst e__)
 unfold iv
 repeat (refine iX ?_)
 refine bC (cs := [.bool (B (((n : Nat) : Int) < 0)), .slice q2 (gr ((n : Nat) : Int).natAbs).length c2]) (.inl rfl) rfl rfl aO rfl _ _ bW bT ⟨rfl, rfl⟩
end
end Go.Proofs.YtjbhdfpjnjedhaaGreat
namespace Go.Proofs.YtjbhdfpjnjedhaaGreat
open Go Go.Fx
abbrev vI (q : Option Addr) (c : Nat) (z : Int) : Value := .agg #[.bool (B (z < 0)), .slice q (gr z.natAbs).length c]
structure RE where
 q : Rat
 p1 : Option Addr
 c1 : Nat
 p2 : Option Addr
 c2 : Nat
instance : Inhabited RE := ⟨⟨0, none, 0, none, 0⟩⟩
abbrev eR (e : RE) : List Value := [.bool (B (e.q.num < 0)), .slice e.p1 (gr e.q.num.natAbs).length e.c1, .bool (B ((e.q.den : Int) < 0)), .slice e.p2 (gr (e.q.den : Int).natAbs).length e.c2]
abbrev rv (e : RE) : Value := .agg #[.bool (B (e.q.num < 0)), .slice e.p1 (gr e.q.num.natAbs).length e.c1, .bool (B ((e.q.den : Int) < 0)), .slice e.p2 (gr (e.q.den : Int).natAbs).length e.c2]
instance : Sized eR 4 := ⟨fun _ => rfl⟩
instance : Ones eR := ⟨fun m u hu => by
 simp only [eR, List.mem_cons, List.not_mem_nil, or_false] at hu
 rcases hu with rfl | rfl | rfl | rfl <;> rfl⟩
structure IsR (e : RE) (k : Nat) (X : List Nat) (w : World) : Prop where
 num : IsI (vI e.p1 e.c1 e.q.num) e.q.num k X w
 den : IsI (vI e.p2 e.c2 e.q.den) e.q.den k X w
abbrev dM (e : RE) (k : Nat) : aX := IsR e k
instance (e : RE) (k : Nat) : Fx.Good (IsR e k) := ⟨fun X Y w w' h he hY => ⟨Fx.Good.go (φ := IsI _ _ _) X Y w w' h.num he hY, Fx.Good.go (φ := IsI _ _ _) X Y w w' h.den he hY⟩⟩
theorem IsR.mono {e : RE} {k m : Nat} {X : List Nat} {w : World} (h : IsR e k X w) (hk : k ≤ m) : IsR e m X w := ⟨h.num.mono hk, h.den.mono hk⟩
theorem IsI.le {u : Value} {z : Int} {k : Nat} {X : List Nat} {w : World} (h : IsI u z k X w) : z.natAbs ≤ 2 ^ k := by
 obtain ⟨q, c, h1, h2, h3, h4⟩ := h.ex
 exact h3
structure AllR (es : List RE) (k : Nat) (X : List Nat) (w : World) : Prop where
 go : ∀ e ∈ es, IsR e k X w
abbrev dP (es : List RE) (k : Nat) : aX := AllR es k
instance (es : List RE) (k : Nat) : Fx.Good (AllR es k) := ⟨fun X Y w w' h he hY => ⟨fun e hm => Fx.Good.go (φ := IsR _ _) X Y w w' (h.go e hm) he hY⟩⟩
theorem AllR.mono {es : List RE} {k m : Nat} {X : List Nat} {w : World} (h : AllR es k X w) (hk : k ≤ m) : AllR es m X w := ⟨fun e he => (h.go e he).mono hk⟩
structure Hv (I : List aX) (φ : aX) : Prop where
 go : ∀ (X : List Nat) (w : World), (∀ ψ ∈ I, ψ X w) → φ X w
theorem Hv.mem {I : List aX} {φ : aX} (h : φ ∈ I) : Hv I φ := ⟨fun _ _ hw => hw φ h⟩
theorem Hv.q {I : List aX} {e : RE} {k m : Nat} (h : dM e k ∈ I) (hk : k ≤ m) : Hv I (dM e m) := ⟨fun X w hw => IsR.mono (hw _ h) hk⟩
theorem dX {α : Type} [Inhabited α] {ms : List α} {i : Int} (h : 0 ≤ i ∧ i < ms.length) : gt ms i ∈ ms := List.mem_of_getElem? (aJC h)
theorem Hv.all {I : List aX} {es : List RE} {k m : Nat} {i : Int} (h : dP es k ∈ I) (hi : 0 ≤ i ∧ i < es.length) (hk : k ≤ m) : Hv I (dM (gt es i) m) := ⟨fun X w hw => ((hw _ h : AllR es k X w).go _ (dX hi)).mono hk⟩
theorem Hv.inc {I I' : List aX} {φ : aX} (h : Hv I φ) (hs : ∀ ψ ∈ I, ψ ∈ I') : Hv I' φ := ⟨fun X w hw => h.go X w (fun ψ hm => hw ψ (hs ψ hm))⟩
theorem Hv.cons {I : List aX} {φ ψ : aX} (h : Hv I φ) : Hv (ψ :: I) φ := h.inc (fun _ hm => List.mem_cons_of_mem _ hm)
theorem Hv.allMono {I : List aX} {es : List RE} {k m : Nat} (h : dP es k ∈ I) (hk : k ≤ m) : Hv I (dP es m) := ⟨fun X w hw => AllR.mono (hw _ h) hk⟩
section
variable {P : Program} {n : Nat} {Q : Exit → Act → World → Prop} {G : Env} {X : List Nat} {w0 : World} {M M' : List Ent} {I I' : List aX}
theorem Mem.hv {w : World} {φ : aX} [Fx.Good φ] (h : Hv I φ) (hw : Mem X w0 M I w) : Mem X w0 M (φ :: I) w := hw.add (φ := φ) (h.go _ _ (fun ψ hm => (hw.imm ψ hm).2))
theorem dW {f : FuncId} {vs : List Value} {K : Value → List Ent → List aX → Prop} {φ : aX} [Fx.Good φ] (h : Hv I φ) (k : CD P f vs X w0 M (φ :: I) K) : CD P f vs X w0 M I K := ⟨fun w hw => k.go w (Mem.hv h hw)⟩
theorem mO {c : Code} {φ : aX} [Fx.Good φ] (h : Hv I φ) (k : TD P n c Q G X w0 M (φ :: I)) : TD P n c Q G X w0 M I := aCO (fun _ hw => Mem.hv h hw) k
theorem jP {ops l : List Oper} {m : Fx.Mode} {φ : aX} [Fx.Good φ] (h : Hv I φ) (k : RD P n ops Q m l G X w0 M (φ :: I)) : RD P n ops Q m l G X w0 M I := uC (fun _ hw => Mem.hv h hw) k
theorem jR {ex : Exit} {φ : aX} [Fx.Good φ] (h : Hv I φ) (k : ND n Q ex G X w0 M (φ :: I)) : ND n Q ex G X w0 M I := xN (fun _ hw => Mem.hv h hw) k
theorem aSB {w : World} {e : RE} {k : Nat} (h : Hv I (dM e k)) (hw : Mem X w0 M I w) : Mem X w0 M (iA (vI e.p1 e.c1 e.q.num) e.q.num k :: iA (vI e.p2 e.c2 e.q.den) e.q.den k :: I) w := by
 have hr : IsR e k (muts M) w := h.go _ _ (fun ψ hm => (hw.imm ψ hm).2)
 exact (hw.add (φ := iA (vI e.p2 e.c2 e.q.den) e.q.den k) hr.den).add (φ := iA (vI e.p1 e.c1 e.q.num) e.q.num k) hr.num
theorem zQ {f : FuncId} {vs : List Value} {K : Value → List Ent → List aX → Prop} {e : RE} {k : Nat} (h : Hv I (dM e k)) (c : CD P f vs X w0 M (iA (vI e.p1 e.c1 e.q.num) e.q.num k :: iA (vI e.p2 e.c2 e.q.den) e.q.den k :: I) K) : CD P f vs X w0 M I K := ⟨fun w hw => c.go w (aSB h hw)⟩
theorem jK {ops l : List Oper} {m : Fx.Mode} {e : RE} {k : Nat} (h : Hv I (dM e k)) (c : RD P n ops Q m l G X w0 M (iA (vI e.p1 e.c1 e.q.num) e.q.num k :: iA (vI e.p2 e.c2 e.q.den) e.q.den k :: I)) : RD P n ops Q m l G X w0 M I := uC (fun _ hw => aSB h hw) c
theorem aSR {w : World} {q : Rat} {k k1 k2 : Nat} {p1 p2 : Option Addr} {c1 c2 : Nat} (h1 : iA (vI p1 c1 q.num) q.num k1 ∈ I) (h2 : iA (vI p2 c2 q.den) q.den k2 ∈ I) (hk1 : k1 ≤ k) (hk2 : k2 ≤ k) (hw : Mem X w0 M I w) : Mem X w0 M (dM ⟨q, p1, c1, p2, c2⟩ k :: I) w :=
 hw.add (φ := dM ⟨q, p1, c1, p2, c2⟩ k) ⟨IsI.mono (hw.imm _ h1).2 hk1, IsI.mono (hw.imm _ h2).2 hk2⟩
theorem lI {ex : Exit} {q : Rat} {k k1 k2 : Nat} {p1 p2 : Option Addr} {c1 c2 : Nat} (h1 : iA (vI p1 c1 q.num) q.num k1 ∈ I) (h2 : iA (vI p2 c2 q.den) q.den k2 ∈ I) (hk1 : k1 ≤ k) (hk2 : k2 ≤ k) (h : ND n Q ex G X w0 M (dM ⟨q, p1, c1, p2, c2⟩ k :: I)) : ND n Q ex G X w0 M I := xN (fun _ hw => aSR h1 h2 hk1 hk2 hw) h
theorem monoI {w : World} {u : Value} {z : Int} {k m : Nat} (h : iA u z k ∈ I) (hk : k ≤ m) (hw : Mem X w0 M I w) : Mem X w0 M (iA u z m :: I) w := hw.add (φ := iA u z m) (IsI.mono (hw.imm _ h).2 hk)
theorem aFN {ops l : List Oper} {m : Fx.Mode} {u : Value} {z : Int} {k k2 : Nat} (h : iA u z k ∈ I) (hk : k ≤ k2) (c : RD P n ops Q m l G X w0 M (iA u z k2 :: I)) : RD P n ops Q m l G X w0 M I := uC (fun _ hw => monoI h hk hw) c
theorem IsI.tight {u : Value} {z : Int} {k m : Nat} {X : List Nat} {w : World} (h : IsI u z k X w) (hk : z.natAbs ≤ 2 ^ m) : IsI u z m X w := by
 obtain ⟨q, c, h1, h2, h3, h4⟩ := h.ex
 exact ⟨q, c, h1, h2, hk, h4⟩
theorem mF {ops l : List Oper} {m : Fx.Mode} {u : Value} {z : Int} {k k2 : Nat} (h : iA u z k ∈ I) (hk : z.natAbs ≤ 2 ^ k2) (c : RD P n ops Q m l G X w0 M (iA u z k2 :: I)) : RD P n ops Q m l G X w0 M I := uC (fun _ hw => hw.add (φ := iA u z k2) (IsI.tight (hw.imm _ h).2 hk)) c
end
def RQ (q : Rat) (k : Nat) (M0 : List Ent) (I0 : List aX) (v : Value) (M : List Ent) (I : List aX) : Prop := M0 = M ∧ ∃ e : RE, v = rv e ∧ e.q = q ∧ I = dM e k :: I0
def RQc (q : Rat) (k : Nat) (M0 : List Ent) (I0 : List aX) (v : Value) (M : List Ent) (I : List aX) : Prop := M0 = M ∧ ∃ e : RE, v = .tuple #[rv e, .int .i64 0] ∧ e.q = q ∧ I = dM e k :: I0
end Go.Proofs.YtjbhdfpjnjedhaaGreat
