/- integer: Of, sum integer: Gcd integer: Compare integer: Of Fractions in memory: records, facts, what follows from facts. -/
import Derived.Test.YtjbhdfpjnjedhaaGreatZnap
import Derived.Test.YtjbhdfpjnjedhaaGreatZnak
import Derived.Test.YtjbhdfpjnjedhaaGreatZnao
set_option linter.unusedSimpArgs false
set_option linter.unusedVariables false
set_option maxRecDepth 100000
set_option maxHeartbeats 4000000
namespace Go.Proofs.YtjbhdfpjnjedhaaGreat
open Go Go.Fx
section
variable {X : List Nat} {w0 : World} {M0 : List Ent} {I0 : List bA}
theorem aIV {p q : Prop} [Decidable p] [Decidable q] {m n : Nat} (h : p ↔ q) : sg p (m + n) = sg p m + sg q n := by
 unfold sg
 by_cases hp : p
 ·rw [if_pos hp, if_pos hp, if_pos (h.1 hp)]; omega
 ·rw [if_neg hp, if_neg hp, if_neg (fun hq => hp (h.2 hq))]; omega
theorem yX {p q : Prop} [Decidable p] [Decidable q] {m n : Nat} (h : ¬ (p ↔ q)) (hle : n ≤ m) : sg p (m - n) = sg p m + sg q n := by
 unfold sg
 by_cases hp : p
 ·rw [if_pos hp, if_pos hp, if_neg (fun hq => h ⟨fun _ => hq, fun _ => hp⟩)]; omega
 ·rw [if_neg hp, if_neg hp, if_pos (by rcases Classical.em q with hq | hq; exact hq; exact absurd ⟨fun h => absurd h hp, fun h => absurd h hq⟩ h)]; omega
theorem aUW {pn qn : Prop} [Decidable pn] [Decidable qn] {p q : Option Addr} {m n cp cq k : Nat} (hm : (gr m).length ≤ 50000000000) (hn : (gr n).length ≤ 50000000000) (hk : m + n ≤ 2 ^ k) (hk2 : k ≤ 1000000000000) (hp : aP p (recs eG (gr m)) ∈ I0) (hq : aP q (recs eG (gr n)) ∈ I0) :
  CD Tryz.prog 221 [.bool (B pn), .slice p (gr m).length cp, .bool (B qn), .slice q (gr n).length cq] X w0 M0 I0 (fun v M I => M0 = M ∧ I = iF v (sg pn m + sg qn n) k :: I0) := by
 have hC := fun M0 I0 => vQ (X := X) (w0 := w0) (M0 := M0) (I0 := I0) (p := p) (q := q) (m := m) (n := n) (cp := cp) (cq := cq) (by omega) (by omega)
 have hP := fun M0 I0 => aIW (X := X) (w0 := w0) (M0 := M0) (I0 := I0) (p := p) (q := q) (m := m) (n := n) (cp := cp) (cq := cq) (by omega) (by omega)
 have hM := fun M0 I0 (hle : n ≤ m) => aBE (X := X) (w0 := w0) (M0 := M0) (I0 := I0) (p := p) (q := q) (m := m) (n := n) (cp := cp) (cq := cq) (by omega) hle
 have hM2 := fun M0 I0 (hle : m ≤ n) => aBE (X := X) (w0 := w0) (M0 := M0) (I0 := I0) (p := q) (q := p) (m := n) (n := m) (cp := cq) (cq := cp) (by omega) hle
 have hl1 := gI hk hk2
 refine dZ Tryz.func221 rfl Tryz.ntmps221 rfl ?_
 refine aH ?_
 refine aJ ?_
 (refine aG rfl rfl ?_; intro b3; refine ⟨jL, ?_⟩)
 by_cases hpq : pn ↔ qn
 ·repeat (refine jE ?_)
  (refine aT rfl (hP _ _ aR aR) rfl rfl ?_; rintro _ _ _ ⟨rfl, q3, c3, rfl, hc3, rfl⟩; refine ⟨jL, ?_⟩)
  rw [← aIV hpq]
  (refine aT rfl (lU (p := pn) (k := k) (by omega) hc3 hk aR) rfl rfl ?_; rintro _ _ _ ⟨rfl, rfl⟩; refine ⟨jL, ?_⟩; refine aW (List.Mem.head _) (fun q2 c2 e__ hc2 hz2 => ?_); subst e__)
  unfold iv
  repeat (refine jE ?_)
  refine bD (cs := [.bool (B (sg pn (m + n) < 0)), .slice q2 (gr (sg pn (m + n)).natAbs).length c2]) (.inl rfl) rfl rfl aR rfl _ _ bZ bX ⟨rfl, rfl⟩
 ·by_cases hge : n ≤ m
  ·have hcv := wO (x := (m : Int)) (y := (n : Int)) (by omega)
   have hk3 : m - n ≤ 2 ^ k := by omega
   have hl3 := gI hk3 hk2
   repeat (refine jE ?_)
   (refine aT rfl (hC _ _ aR aR) rfl rfl ?_; rintro _ _ _ ⟨rfl, rfl, rfl⟩; refine ⟨jL, ?_⟩)
   repeat (refine jE ?_)
   (refine aT rfl (hM _ _ hge aR aR) rfl rfl ?_; rintro _ _ _ ⟨rfl, q3, c3, rfl, hc3, rfl⟩; refine ⟨jL, ?_⟩)
   rw [← yX hpq hge]
   (refine aT rfl (lU (p := pn) (k := k) (by omega) hc3 hk3 aR) rfl rfl ?_; rintro _ _ _ ⟨rfl, rfl⟩; refine ⟨jL, ?_⟩; refine aW (List.Mem.head _) (fun q2 c2 e__ hc2 hz2 => ?_); subst e__)
   unfold iv
   repeat (refine jE ?_)
   refine bD (cs := [.bool (B (sg pn (m - n) < 0)), .slice q2 (gr (sg pn (m - n)).natAbs).length c2]) (.inl rfl) rfl rfl aR rfl _ _ bZ bX ⟨rfl, rfl⟩
  ·have hcv := wZ (x := (m : Int)) (y := (n : Int)) (by omega)
   have hk3 : n - m ≤ 2 ^ k := by omega
   have hl3 := gI hk3 hk2
   have hs : sg pn m + sg qn n = sg qn (n - m) := by rw [Int.add_comm, ← yX (fun h => hpq h.symm) (by omega)]
   repeat (refine jE ?_)
   (refine aT rfl (hC _ _ aR aR) rfl rfl ?_; rintro _ _ _ ⟨rfl, rfl, rfl⟩; refine ⟨jL, ?_⟩)
   repeat (refine jE ?_)
   (refine aT rfl (hM2 _ _ (by omega) aR aR) rfl rfl ?_; rintro _ _ _ ⟨rfl, q3, c3, rfl, hc3, rfl⟩; refine ⟨jL, ?_⟩)
   rw [hs]
   (refine aT rfl (lU (p := qn) (k := k) (by omega) hc3 hk3 aR) rfl rfl ?_; rintro _ _ _ ⟨rfl, rfl⟩; refine ⟨jL, ?_⟩; refine aW (List.Mem.head _) (fun q2 c2 e__ hc2 hz2 => ?_); subst e__)
   unfold iv
   repeat (refine jE ?_)
   refine bD (cs := [.bool (B (sg qn (n - m) < 0)), .slice q2 (gr (sg qn (n - m)).natAbs).length c2]) (.inl rfl) rfl rfl aR rfl _ _ bZ bX ⟨rfl, rfl⟩
theorem aVF {u v : Value} {y z : Int} {k m c : Nat} (hk : k ≤ 1000000000000) (hm : m ≤ 1000000000000) (hc0 : c ≤ 1000000000000) (hs : 2 ^ k + 2 ^ m ≤ 2 ^ c) (hu : iF u y k ∈ I0) (hv : iF v z m ∈ I0) : CD Tryz.prog 166 [u, v] X w0 M0 I0 (fun v M I => M0 = M ∧ I = iF v (y + z) c :: I0) := by
 refine cZ hu (fun q cq e hc hy => ?_)
 subst e
 refine cZ (List.Mem.tail _ hv) (fun q' cq' e hc' hz => ?_)
 subst e
 have hl := gI hy (by omega)
 have hl' := gI hz (by omega)
 unfold iv
 refine dZ Tryz.func166 rfl Tryz.ntmps166 rfl ?_
 refine aH ?_
 refine aJ ?_
 (refine kL rfl rfl rfl ?_; intro b; refine ⟨jL, ?_⟩)
 (refine kL rfl rfl rfl ?_; intro b2; refine ⟨jL, ?_⟩)
 (refine aG rfl rfl ?_; intro b3; refine ⟨jL, ?_⟩)
 repeat' (first | refine aJ ?_ | refine jM ?_ | refine gZ ?_ | refine fG ?_ | refine fD ?_ | refine iA ?_ | refine gT ?_ | refine fF ?_ | refine fE ?_ | refine jK ?_ | refine jP ?_ | refine jO ?_ | refine jI rfl ?_ | refine bP ?_ | (refine gD ?_; first | refine gP rfl rfl rfl ?_ | (refine gF rfl rfl ?_; refine eX rfl rfl rfl jL ?_) | refine fQ rfl rfl (by omega) ?_ | refine gN rfl rfl (by omega) ?_ | refine qB rfl rfl (fun h => ?_) (fun h => ?_) | (fail_if_success (refine sN rfl ?_); refine oO rfl rfl (fun h => ?_) (fun h => ?_))) | (refine bR ?_; refine aF rfl (fun _ => dF rfl) rfl rfl ?_) | refine aF rfl (fun _ => bC rfl) rfl rfl ?_ | (refine gL ?_; first | refine aF rfl (fun _ => bJ rfl rfl w_) rfl rfl ?_ | refine aF rfl (fun _ => bI rfl rfl w_) rfl rfl ?_ | refine aF rfl (fun _ => dW rfl rfl w_) rfl rfl ?_ | refine aF rfl (fun _ => dY rfl rfl (by omega) q_) rfl rfl ?_ | refine aF rfl (fun _ => dX rfl rfl (by omega) rfl) rfl rfl ?_ | refine aF rfl (fun _ => dG rfl rfl) rfl rfl ?_ | refine aF rfl (fun _ => dM rfl rfl) rfl rfl ?_ | refine aF rfl (fun _ => dL rfl rfl) rfl rfl ?_) | (refine bR ?_; first | refine aF rfl (fun _ => dS rfl w_) rfl rfl ?_) | (refine gK ?_; first | refine aF rfl (fun _ => cB rfl w_) rfl rfl ?_) | (refine fV ?_; first | refine aF rfl (fun _ => bK rfl) rfl rfl ?_ | refine aF rfl (fun _ => dE rfl rfl) rfl rfl ?_ | refine aF rfl (fun _ => dC rfl rfl) rfl rfl ?_ | refine aF rfl (fun _ => dH rfl rfl rfl) rfl rfl ?_) | (refine gG ?_; first | refine fZ rfl (by decide) rfl rfl ?_ | refine iR rfl (by decide) rfl rfl ?_) | (refine gH ?_; first | refine aF rfl (fun _ => bY rfl) rfl rfl ?_) | (refine gM ?_; first | refine iU rfl rfl iG rfl rfl ?_ | refine iW lM rfl rfl iG aR jC rfl rfl ?_ | refine iV lM rfl rfl iG aR jC rfl rfl ?_ | refine aF rfl (fun _ => bM rfl rfl iG) rfl rfl ?_) | (refine fT ?_; first | refine iT lM rfl aR oD rfl rfl ?_ | refine iX lM rfl aR oD rfl rfl ?_ | refine fP lM rfl aR oD rfl rfl ?_ | refine gJ lM rfl aR oD rfl rfl ?_ | refine kT lM rfl aR iK fB rfl rfl ?_ | refine kS lM rfl aR iK fB rfl rfl ?_ | refine kU lM rfl aR iK fB rfl rfl ?_ | refine jS lM rfl aR iK fB rfl rfl ?_) | (refine fU ?_; first | refine aF rfl (fun _ => bN rfl rfl) rfl rfl ?_ | refine aF rfl (fun _ => bF rfl) rfl rfl ?_) | (refine iN ?_; first | refine kH rfl rfl rfl mO stC rfl rfl ⟨jL, ?_⟩ | refine gY rfl rfl fB rD mO rC rfl rfl ⟨jL, ?_⟩) | (refine iB ?_; first | refine bW rfl ?_ | refine bL rfl ?_ | refine jN rfl (by omega) ?_ | refine lY rfl (by omega) ?_ | refine tK rfl (fun h => ?_) (fun h => ?_) | refine oK rfl (fun h => ?_) (fun h => ?_)))
 (repeat refine aH ?_); refine bG 3 [0, 1, 2, 4, 5, 6, 3, 7, 8, 9] [3, 2, 2, 3, 2, 2, 0, 0, 0, 0] mixed (by kernel_rfl) ?_
 repeat (refine jE ?_)
 (refine aT rfl (jR (c := cq) hy (by omega) aR) rfl rfl ?_; rintro _ _ _ ⟨rfl, rfl, rfl⟩; refine ⟨jL, ?_⟩)
 repeat (refine jE ?_)
 (refine aT rfl (jR (c := cq') hz (by omega) aR) rfl rfl ?_; rintro _ _ _ ⟨rfl, rfl, rfl⟩; refine ⟨jL, ?_⟩)
 repeat (refine jE ?_)
 have hyz : y.natAbs + z.natAbs ≤ 2 ^ c := Nat.le_trans (Nat.add_le_add hy hz) hs
 have hS := fun M0 I0 => aUW (X := X) (w0 := w0) (M0 := M0) (I0 := I0) (p := q) (q := q') (cp := cq) (cq := cq') (pn := y < 0) (qn := z < 0) (k := c) (by omega) (by omega) hyz hc0
 simp only [pR] at hS
 (refine aT rfl (hS _ _ aR aR) rfl rfl ?_; rintro _ _ _ ⟨rfl, rfl⟩; refine ⟨jL, ?_⟩; refine aW (List.Mem.head _) (fun q2 c2 e__ hc2 hz2 => ?_); subst e__)
 unfold iv
 repeat (refine jE ?_)
 refine bD (cs := [.bool (B (y + z < 0)), .slice q2 (gr (y + z).natAbs).length c2]) (.inl rfl) rfl rfl aR rfl _ _ bZ bX ⟨rfl, rfl⟩
end
end Go.Proofs.YtjbhdfpjnjedhaaGreat
namespace Go.Proofs.YtjbhdfpjnjedhaaGreat
open Go Go.Fx
section
variable {X : List Nat} {w0 : World} {M0 : List Ent} {I0 : List bA}
theorem aHX {u v : Value} {y z : Int} {k0 m : Nat} (hk : k0 ≤ 500000000000) (hm : m ≤ 500000000000) (hu : iF u y k0 ∈ I0) (hv : iF v z m ∈ I0) : CD Tryz.prog 195 [u, v] X w0 M0 I0 (fun v M I => M0 = M ∧ I = iF v (Int.gcd y z) (k0 + m) :: I0) := by
 refine cZ hu (fun q cq e hc hy => ?_)
 subst e
 refine cZ (List.Mem.tail _ hv) (fun q' cq' e hc' hz => ?_)
 subst e
 have hy2 : y.natAbs ≤ 2 ^ (k0 + m) := Nat.le_trans hy (Nat.pow_le_pow_right (by decide) (by omega))
 have hz2 : z.natAbs ≤ 2 ^ (k0 + m) := Nat.le_trans hz (Nat.pow_le_pow_right (by decide) (by omega))
 unfold iv
 refine dZ Tryz.func195 rfl Tryz.ntmps195 rfl ?_
 refine aH ?_
 refine aJ ?_
 (refine kL rfl rfl rfl ?_; intro b; refine ⟨jL, ?_⟩)
 (refine kL rfl rfl rfl ?_; intro b2; refine ⟨jL, ?_⟩)
 (refine aG rfl rfl ?_; intro b3; refine ⟨jL, ?_⟩)
 repeat' (first | refine aJ ?_ | refine jM ?_ | refine gZ ?_ | refine fG ?_ | refine fD ?_ | refine iA ?_ | refine gT ?_ | refine fF ?_ | refine fE ?_ | refine jK ?_ | refine jP ?_ | refine jO ?_ | refine jI rfl ?_ | refine bP ?_ | (refine gD ?_; first | refine gP rfl rfl rfl ?_ | (refine gF rfl rfl ?_; refine eX rfl rfl rfl jL ?_) | refine fQ rfl rfl (by omega) ?_ | refine gN rfl rfl (by omega) ?_ | refine qB rfl rfl (fun h => ?_) (fun h => ?_) | (fail_if_success (refine sN rfl ?_); refine oO rfl rfl (fun h => ?_) (fun h => ?_))) | (refine bR ?_; refine aF rfl (fun _ => dF rfl) rfl rfl ?_) | refine aF rfl (fun _ => bC rfl) rfl rfl ?_ | (refine gL ?_; first | refine aF rfl (fun _ => bJ rfl rfl w_) rfl rfl ?_ | refine aF rfl (fun _ => bI rfl rfl w_) rfl rfl ?_ | refine aF rfl (fun _ => dW rfl rfl w_) rfl rfl ?_ | refine aF rfl (fun _ => dY rfl rfl (by omega) q_) rfl rfl ?_ | refine aF rfl (fun _ => dX rfl rfl (by omega) rfl) rfl rfl ?_ | refine aF rfl (fun _ => dG rfl rfl) rfl rfl ?_ | refine aF rfl (fun _ => dM rfl rfl) rfl rfl ?_ | refine aF rfl (fun _ => dL rfl rfl) rfl rfl ?_) | (refine bR ?_; first | refine aF rfl (fun _ => dS rfl w_) rfl rfl ?_) | (refine gK ?_; first | refine aF rfl (fun _ => cB rfl w_) rfl rfl ?_) | (refine fV ?_; first | refine aF rfl (fun _ => bK rfl) rfl rfl ?_ | refine aF rfl (fun _ => dE rfl rfl) rfl rfl ?_ | refine aF rfl (fun _ => dC rfl rfl) rfl rfl ?_ | refine aF rfl (fun _ => dH rfl rfl rfl) rfl rfl ?_) | (refine gG ?_; first | refine fZ rfl (by decide) rfl rfl ?_ | refine iR rfl (by decide) rfl rfl ?_) | (refine gH ?_; first | refine aF rfl (fun _ => bY rfl) rfl rfl ?_) | (refine gM ?_; first | refine iU rfl rfl iG rfl rfl ?_ | refine iW lM rfl rfl iG aR jC rfl rfl ?_ | refine iV lM rfl rfl iG aR jC rfl rfl ?_ | refine aF rfl (fun _ => bM rfl rfl iG) rfl rfl ?_) | (refine fT ?_; first | refine iT lM rfl aR oD rfl rfl ?_ | refine iX lM rfl aR oD rfl rfl ?_ | refine fP lM rfl aR oD rfl rfl ?_ | refine gJ lM rfl aR oD rfl rfl ?_ | refine kT lM rfl aR iK fB rfl rfl ?_ | refine kS lM rfl aR iK fB rfl rfl ?_ | refine kU lM rfl aR iK fB rfl rfl ?_ | refine jS lM rfl aR iK fB rfl rfl ?_) | (refine fU ?_; first | refine aF rfl (fun _ => bN rfl rfl) rfl rfl ?_ | refine aF rfl (fun _ => bF rfl) rfl rfl ?_) | (refine iN ?_; first | refine kH rfl rfl rfl mO stC rfl rfl ⟨jL, ?_⟩ | refine gY rfl rfl fB rD mO rC rfl rfl ⟨jL, ?_⟩) | (refine iB ?_; first | refine bW rfl ?_ | refine bL rfl ?_ | refine jN rfl (by omega) ?_ | refine lY rfl (by omega) ?_ | refine tK rfl (fun h => ?_) (fun h => ?_) | refine oK rfl (fun h => ?_) (fun h => ?_)))
 (repeat refine aH ?_); refine bG 3 [0, 2, 1, 3, 4, 5] [1, 1, 0, 0, 0, 0] mixed (by kernel_rfl) ?_
 repeat (refine jE ?_)
 (refine aT rfl (jR (c := cq) hy (by omega) aR) rfl rfl ?_; rintro _ _ _ ⟨rfl, rfl, rfl⟩; refine ⟨jL, ?_⟩)
 repeat (refine jE ?_)
 (refine aT rfl (jR (c := cq') hz (by omega) aR) rfl rfl ?_; rintro _ _ _ ⟨rfl, rfl, rfl⟩; refine ⟨jL, ?_⟩)
 repeat (refine jE ?_)
 refine aS [4] rfl (fun k G M I => ∃ (a b : Nat) (pa pb : Option Addr) (ca cb : Nat), k = b ∧ a ≤ 2 ^ (k0 + m) ∧ b ≤ 2 ^ (k0 + m) ∧ pO pa a ca ∧ pO pb b cb ∧ Nat.gcd a b = Nat.gcd y.natAbs z.natAbs ∧ G = [(5, .slice pa (gr a).length ca), (6, .slice pb (gr b).length cb)] ∧ M = .blk b3 [.bool false, .slice none 0 0] 48 :: M0 ∧ I = aP pa (recs eG (gr a)) :: aP pb (recs eG (gr b)) :: I0) (z.natAbs) _ _ _ aM bZ bX (⟨y.natAbs, z.natAbs, q, q', cq, cq', rfl, hy2, hz2, hc, hc', rfl, rfl, rfl, rfl⟩) ?_
 rintro k G M I ⟨a, b', pa, pb, ca, cb, rfl, ha, hb, oa, ob, hg, rfl, rfl, rfl⟩
 have la := eP ha
 have lb := eP hb
 have hW1 := fun M0 I0 => yT (X := X) (w0 := w0) (M0 := M0) (I0 := I0) (q := pa) (n := a) (c := ca) (by omega)
 have hW2 := fun M0 I0 => yT (X := X) (w0 := w0) (M0 := M0) (I0 := I0) (q := pb) (n := k) (c := cb) (by omega)
 by_cases hk0 : k = 0
 ·subst hk0
  have hl0 : (gr 0).length = 0 := by rw [gQ]; rfl
  rw [Nat.gcd_zero_right] at hg
  have hz : (Int.gcd y z : Int) = sg False a := by unfold sg; rw [if_neg (fun h => h), hg]; rfl
  repeat (refine jE ?_)
  (refine aT rfl (xO (a := gr a) (by omega) oa.2 aR) rfl rfl ?_; rintro _ _ _ ⟨rfl, q', c', rfl, rfl⟩; refine ⟨jL, ?_⟩)
  refine mI (fun w hw => And.intro (hw.rowLe (List.Mem.head _)) ((hw.rowS (List.Mem.head _)).2.imp id And.right)) (fun hc' => ?_)
  refine eU vM ?_
  repeat (refine jE ?_)
  rw [hz]
  have hMd := fun M0 I0 => lU (X := X) (w0 := w0) (M0 := M0) (I0 := I0) (p := False) (q := q') (c := c') (k := k0 + m) (by omega) hc' ha
  simp only [aZ (show ¬ False from id)] at hMd
  (refine aT rfl (hMd _ _ aR) rfl rfl ?_; rintro _ _ _ ⟨rfl, rfl⟩; refine ⟨jL, ?_⟩; refine aW (List.Mem.head _) (fun q2 c2 e__ hc2 hz2 => ?_); subst e__)
  unfold iv
  repeat (refine jE ?_)
  refine bD (cs := [.bool (B (sg False a < 0)), .slice q2 (gr (sg False a).natAbs).length c2]) (.inl rfl) rfl rfl aR rfl _ _ bZ bX ⟨rfl, rfl⟩
 ·have hlk : 0 < (gr k).length := List.length_pos_iff.2 (fun e => hk0 (nS.1 e))
  by_cases hw : (gr a).length ≤ 2 ∧ (gr k).length ≤ 2
  ·have hb9 : ∀ t : Nat, (gr t).length ≤ 2 → t < 1000000000000000000 := fun t ht => by
    have := jV (bT t)
    rw [cO] at this
    have h2 : (1000000000 : Int) ^ (gr t).length ≤ 1000000000 ^ 2 := mQ ht
    omega
   have a9 := hb9 a hw.1
   have k9 := hb9 k hw.2
   rw [if_pos hw.1, bH hw.1] at hW1
   rw [if_pos hw.2, bH hw.2] at hW2
   repeat (refine jE ?_)
   (refine aT rfl (hW1 _ _ aR) rfl rfl ?_; rintro _ _ _ ⟨rfl, rfl, rfl⟩; refine ⟨jL, ?_⟩)
   repeat (refine jE ?_)
   (refine aT rfl (hW2 _ _ aR) rfl rfl ?_; rintro _ _ _ ⟨rfl, rfl, rfl⟩; refine ⟨jL, ?_⟩)
   repeat (refine jE ?_)
   refine aS [4] rfl (fun k G M I => ∃ (x x2 : Nat), k = x2 ∧ x < 1000000000000000000 ∧ x2 < 1000000000000000000 ∧ x ≤ 2 ^ (k0 + m) ∧ x2 ≤ 2 ^ (k0 + m) ∧ Nat.gcd x x2 = Nat.gcd y.natAbs z.natAbs ∧ G = [(7, .int .u64 x), (9, .int .u64 x2)] ∧ M = .blk b3 [.bool false, .slice none 0 0] 48 :: M0 ∧ I0 = I) (k) _ _ _ aM bZ bX (⟨a, k, rfl, a9, k9, ha, hb, hg, rfl, rfl, rfl⟩) ?_
   rintro k G M I ⟨x, x2, rfl, hx9, hx29, hx, hx2, hxg, rfl, rfl, rfl⟩
   by_cases hx0 : k = 0
   ·subst hx0
    rw [Nat.gcd_zero_right] at hxg
    have hz : (Int.gcd y z : Int) = sg False x := by unfold sg; rw [if_neg (fun h => h), hxg]; rfl
    repeat (refine jE ?_)
    (refine aT rfl (rT (n := x) (by omega)) rfl rfl ?_; rintro _ _ _ ⟨rfl, q', c', rfl, hc', rfl⟩; refine ⟨jL, ?_⟩)
    rw [hz]
    have hMd := fun M0 I0 => lU (X := X) (w0 := w0) (M0 := M0) (I0 := I0) (p := False) (q := q') (c := c') (k := k0 + m) (by have := eP hx; omega) hc' hx
    simp only [aZ (show ¬ False from id)] at hMd
    (refine aT rfl (hMd _ _ aR) rfl rfl ?_; rintro _ _ _ ⟨rfl, rfl⟩; refine ⟨jL, ?_⟩; refine aW (List.Mem.head _) (fun q2 c2 e__ hc2 hz2 => ?_); subst e__)
    unfold iv
    repeat (refine jE ?_)
    refine bD (cs := [.bool (B (sg False x < 0)), .slice q2 (gr (sg False x).natAbs).length c2]) (.inl rfl) rfl rfl aR rfl _ _ bZ bX ⟨rfl, rfl⟩
   ·have e2 : ((x : Int)).tmod (k : Int) = ((x % k : Nat) : Int) := by rw [Int.tmod_eq_emod_of_nonneg (by omega), Int.natCast_emod]
    have hmod := Nat.mod_lt x (show k > 0 by omega)
    have hg2 : Nat.gcd k (x % k) = Nat.gcd y.natAbs z.natAbs := by rw [← hxg, Nat.gcd_comm x k, Nat.gcd_rec k x, Nat.gcd_comm]
    repeat (refine jE ?_)
    (repeat refine aH ?_); refine dV [0, 1, 2, 3, 4, 5] [0, 0, 0, 0, 0, 0] mixed (by kernel_rfl) ?_
    repeat (refine jE ?_)
    rw [e2]
    refine aL (x % k) _ _ _ (by first | omega | (simp only [List.length_append, List.length_cons, List.length_nil]; omega)) aM bZ bX (⟨k, x % k, rfl, by omega, by omega, hx2, by omega, hg2, rfl, rfl, rfl⟩)
  ·have hO := fun M0 I0 => aJT (X := X) (w0 := w0) (M0 := M0) (I0 := I0) (p := pa) (q := pb) (m := a) (n := k) (cp := ca) (cq := cb) (by omega) (by omega) (by omega) oa
   have hmod := Nat.mod_lt a (show k > 0 by omega)
   have hg2 : Nat.gcd k (a % k) = Nat.gcd y.natAbs z.natAbs := by rw [← hg, Nat.gcd_comm a k, Nat.gcd_rec k a, Nat.gcd_comm]
   by_cases hw1 : (gr a).length ≤ 2
   ·have hw2 : ¬ (gr k).length ≤ 2 := fun h => hw ⟨hw1, h⟩
    rw [if_pos hw1, bH hw1] at hW1
    rw [if_neg hw2, aZ hw2] at hW2
    repeat (refine jE ?_)
    (refine aT rfl (hW1 _ _ aR) rfl rfl ?_; rintro _ _ _ ⟨rfl, rfl, rfl⟩; refine ⟨jL, ?_⟩)
    repeat (refine jE ?_)
    (refine aT rfl (hW2 _ _ aR) rfl rfl ?_; rintro _ _ _ ⟨rfl, rfl, rfl⟩; refine ⟨jL, ?_⟩)
    repeat (refine jE ?_)
    (refine aT rfl (hO _ _ aR aR) rfl rfl ?_; rintro _ _ _ ⟨rfl, p1, c1, p2, c2, ho1, ho2, rfl, rfl⟩; refine ⟨jL, ?_⟩)
    repeat (refine jE ?_)
    refine aL (a % k) _ _ _ (by first | omega | (simp only [List.length_append, List.length_cons, List.length_nil]; omega)) aM bZ bX (⟨k, a % k, pb, p2, cb, c2, rfl, hb, by omega, ob, ho2, hg2, rfl, rfl, rfl⟩)
   ·rw [if_neg hw1, aZ hw1] at hW1
    repeat (refine jE ?_)
    (refine aT rfl (hW1 _ _ aR) rfl rfl ?_; rintro _ _ _ ⟨rfl, rfl, rfl⟩; refine ⟨jL, ?_⟩)
    repeat (refine jE ?_)
    (refine aT rfl (hW2 _ _ aR) rfl rfl ?_; rintro _ _ _ ⟨rfl, rfl, rfl⟩; refine ⟨jL, ?_⟩)
    repeat (refine jE ?_)
    (refine aT rfl (hO _ _ aR aR) rfl rfl ?_; rintro _ _ _ ⟨rfl, p1, c1, p2, c2, ho1, ho2, rfl, rfl⟩; refine ⟨jL, ?_⟩)
    repeat (refine jE ?_)
    refine aL (a % k) _ _ _ (by first | omega | (simp only [List.length_append, List.length_cons, List.length_nil]; omega)) aM bZ bX (⟨k, a % k, pb, p2, cb, c2, rfl, hb, by omega, ob, ho2, hg2, rfl, rfl, rfl⟩)
end
end Go.Proofs.YtjbhdfpjnjedhaaGreat
namespace Go.Proofs.YtjbhdfpjnjedhaaGreat
open Go Go.Fx
theorem aLF {y z : Int} (h : y.sign ≠ z.sign) : fM y.sign z.sign = fM y z := by
 unfold fM
 rcases Int.lt_trichotomy y 0 with hy | hy | hy <;> rcases Int.lt_trichotomy z 0 with hz | hz | hz <;>
  simp_all [Int.sign_eq_one_of_pos, Int.sign_eq_neg_one_of_neg] <;> omega
theorem aSA {y z : Int} (h : y.sign = z.sign) : fM y z = if y < 0 then -fM y.natAbs z.natAbs else fM y.natAbs z.natAbs := by
 have h1 : y < 0 ↔ z < 0 := by rw [← Int.sign_eq_neg_one_iff_neg, ← Int.sign_eq_neg_one_iff_neg, h]
 unfold fM
 by_cases hy : y < 0
 ·have hz := h1.1 hy
  rw [if_pos hy]
  split <;> split <;> (try split) <;> (try split) <;> omega
 ·have hz : ¬ z < 0 := fun hz => hy (h1.2 hz)
  rw [if_neg hy]
  split <;> split <;> (try split) <;> (try split) <;> omega
section
variable {X : List Nat} {w0 : World} {M0 : List Ent} {I0 : List bA}
theorem vF {u v : Value} {y z : Int} {k m : Nat} (hk : k ≤ 1000000000000) (hm : m ≤ 1000000000000) (hu : iF u y k ∈ I0) (hv : iF v z m ∈ I0) : CD Tryz.prog 147 [u, v] X w0 M0 I0 (fun v M I => M0 = M ∧ I0 = I ∧ v = .int .i64 (fM y z)) := by
 have hS1 := fun M0 I0 h => sH (X := X) (w0 := w0) (M0 := M0) (I0 := I0) (u := u) (z := y) hk h
 have hS2 := fun M0 I0 h => sH (X := X) (w0 := w0) (M0 := M0) (I0 := I0) (u := v) (z := z) hm h
 refine cZ hu (fun q cq e hc hy => ?_)
 subst e
 refine cZ (List.Mem.tail _ hv) (fun q' cq' e hc' hz => ?_)
 subst e
 have hl := gI hy hk
 have hl' := gI hz hm
 unfold iv at *
 refine dZ Tryz.func147 rfl Tryz.ntmps147 rfl ?_
 refine aH ?_
 refine aJ ?_
 (refine kL rfl rfl rfl ?_; intro b; refine ⟨jL, ?_⟩)
 (refine kL rfl rfl rfl ?_; intro b2; refine ⟨jL, ?_⟩)
 repeat' (first | refine aJ ?_ | refine jM ?_ | refine gZ ?_ | refine fG ?_ | refine fD ?_ | refine iA ?_ | refine gT ?_ | refine fF ?_ | refine fE ?_ | refine jK ?_ | refine jP ?_ | refine jO ?_ | refine jI rfl ?_ | refine bP ?_ | (refine gD ?_; first | refine gP rfl rfl rfl ?_ | (refine gF rfl rfl ?_; refine eX rfl rfl rfl jL ?_) | refine fQ rfl rfl (by omega) ?_ | refine gN rfl rfl (by omega) ?_ | refine qB rfl rfl (fun h => ?_) (fun h => ?_) | (fail_if_success (refine sN rfl ?_); refine oO rfl rfl (fun h => ?_) (fun h => ?_))) | (refine bR ?_; refine aF rfl (fun _ => dF rfl) rfl rfl ?_) | refine aF rfl (fun _ => bC rfl) rfl rfl ?_ | (refine gL ?_; first | refine aF rfl (fun _ => bJ rfl rfl w_) rfl rfl ?_ | refine aF rfl (fun _ => bI rfl rfl w_) rfl rfl ?_ | refine aF rfl (fun _ => dW rfl rfl w_) rfl rfl ?_ | refine aF rfl (fun _ => dY rfl rfl (by omega) q_) rfl rfl ?_ | refine aF rfl (fun _ => dX rfl rfl (by omega) rfl) rfl rfl ?_ | refine aF rfl (fun _ => dG rfl rfl) rfl rfl ?_ | refine aF rfl (fun _ => dM rfl rfl) rfl rfl ?_ | refine aF rfl (fun _ => dL rfl rfl) rfl rfl ?_) | (refine bR ?_; first | refine aF rfl (fun _ => dS rfl w_) rfl rfl ?_) | (refine gK ?_; first | refine aF rfl (fun _ => cB rfl w_) rfl rfl ?_) | (refine fV ?_; first | refine aF rfl (fun _ => bK rfl) rfl rfl ?_ | refine aF rfl (fun _ => dE rfl rfl) rfl rfl ?_ | refine aF rfl (fun _ => dC rfl rfl) rfl rfl ?_ | refine aF rfl (fun _ => dH rfl rfl rfl) rfl rfl ?_) | (refine gG ?_; first | refine fZ rfl (by decide) rfl rfl ?_ | refine iR rfl (by decide) rfl rfl ?_) | (refine gH ?_; first | refine aF rfl (fun _ => bY rfl) rfl rfl ?_) | (refine gM ?_; first | refine iU rfl rfl iG rfl rfl ?_ | refine iW lM rfl rfl iG aR jC rfl rfl ?_ | refine iV lM rfl rfl iG aR jC rfl rfl ?_ | refine aF rfl (fun _ => bM rfl rfl iG) rfl rfl ?_) | (refine fT ?_; first | refine iT lM rfl aR oD rfl rfl ?_ | refine iX lM rfl aR oD rfl rfl ?_ | refine fP lM rfl aR oD rfl rfl ?_ | refine gJ lM rfl aR oD rfl rfl ?_ | refine kT lM rfl aR iK fB rfl rfl ?_ | refine kS lM rfl aR iK fB rfl rfl ?_ | refine kU lM rfl aR iK fB rfl rfl ?_ | refine jS lM rfl aR iK fB rfl rfl ?_) | (refine fU ?_; first | refine aF rfl (fun _ => bN rfl rfl) rfl rfl ?_ | refine aF rfl (fun _ => bF rfl) rfl rfl ?_) | (refine iN ?_; first | refine kH rfl rfl rfl mO stC rfl rfl ⟨jL, ?_⟩ | refine gY rfl rfl fB rD mO rC rfl rfl ⟨jL, ?_⟩) | (refine iB ?_; first | refine bW rfl ?_ | refine bL rfl ?_ | refine jN rfl (by omega) ?_ | refine lY rfl (by omega) ?_ | refine tK rfl (fun h => ?_) (fun h => ?_) | refine oK rfl (fun h => ?_) (fun h => ?_)))
 (repeat refine aH ?_); refine dV [0, 2, 1, 3, 4, 5] [1, 1, 0, 0, 0, 0] mixed (by kernel_rfl) ?_
 repeat (refine jE ?_)
 (refine aT rfl (hS1 _ _ aR) rfl rfl ?_; rintro _ _ _ ⟨rfl, rfl, rfl⟩; refine ⟨jL, ?_⟩)
 repeat (refine jE ?_)
 (refine aT rfl (hS2 _ _ aR) rfl rfl ?_; rintro _ _ _ ⟨rfl, rfl, rfl⟩; refine ⟨jL, ?_⟩)
 by_cases hs : y.sign = z.sign
 ·have hca := aSA hs
  repeat (refine jE ?_)
  (repeat refine aH ?_); refine dV [0, 2, 1, 3, 4, 5] [2, 2, 0, 0, 0, 0] mixed (by kernel_rfl) ?_
  repeat (refine jE ?_)
  (refine aT rfl (jR (c := cq) hy hk aR) rfl rfl ?_; rintro _ _ _ ⟨rfl, rfl, rfl⟩; refine ⟨jL, ?_⟩)
  repeat (refine jE ?_)
  (refine aT rfl (jR (c := cq') hz hm aR) rfl rfl ?_; rintro _ _ _ ⟨rfl, rfl, rfl⟩; refine ⟨jL, ?_⟩)
  repeat (refine jE ?_)
  (refine aT rfl (vQ (by omega) (by omega) aR aR) rfl rfl ?_; rintro _ _ _ ⟨rfl, rfl, rfl⟩; refine ⟨jL, ?_⟩)
  have hcb : -1 ≤ fM (y.natAbs : Int) z.natAbs ∧ fM (y.natAbs : Int) z.natAbs ≤ 1 := by unfold fM; split <;> (try split) <;> omega
  by_cases hy0 : y < 0
  ·rw [if_pos hy0] at hca
   rw [hca]
   generalize fM (y.natAbs : Int) z.natAbs = cv at *
   repeat (refine jE ?_)
   refine aI (by first | exact .inl rfl | exact .inr rfl) rfl rfl _ _ bZ bX (⟨rfl, rfl, congrArg (Value.int .i64) (by omega)⟩)
  ·rw [if_neg hy0] at hca
   rw [hca]
   generalize fM (y.natAbs : Int) z.natAbs = cv at *
   repeat (refine jE ?_)
   refine aI (by first | exact .inl rfl | exact .inr rfl) rfl rfl _ _ bZ bX (⟨rfl, rfl, rfl⟩)
 ·rw [← aLF hs]
  repeat (refine jE ?_)
  (refine aT rfl (CD.same (fun w _ => aPT _ _ _)) rfl rfl ?_; rintro _ _ _ ⟨rfl, rfl, rfl⟩; refine ⟨jL, ?_⟩)
  repeat (refine jE ?_)
  refine aI (by first | exact .inl rfl | exact .inr rfl) rfl rfl _ _ bZ bX (⟨rfl, rfl, rfl⟩)
end
end Go.Proofs.YtjbhdfpjnjedhaaGreat
namespace Go.Proofs.YtjbhdfpjnjedhaaGreat
open Go Go.Fx
theorem aEU {x : Int} (h : -9223372036854775808 ≤ x ∧ x < 0) : IntKind.u64.wrap x = x + 18446744073709551616 := by
 simp [IntKind.wrap, IntKind.bits, IntKind.signed]; omega
section
variable {X : List Nat} {w0 : World} {M0 : List Ent} {I0 : List bA}
theorem Of_ok {x : Int} (hx : 0 ≤ x ∧ x ≤ 9223372036854775807) : CD Tryz.prog 183 [.int .i64 x] X w0 M0 I0 (fun v M I => M0 = M ∧ I = iF v x 63 :: I0) := by
 obtain ⟨n, rfl⟩ : ∃ n : Nat, x = (n : Int) := ⟨x.toNat, by omega⟩
 have hn : n ≤ 2 ^ 63 := by omega
 have hsg : ((n : Nat) : Int) = sg False n := by unfold sg; rw [if_neg (fun h => h)]
 refine dZ Tryz.func183 rfl Tryz.ntmps183 rfl ?_
 refine aH ?_
 refine aJ ?_
 (refine aG rfl rfl ?_; intro b; refine ⟨jL, ?_⟩)
 repeat (refine jE ?_)
 (refine aT rfl (rT (n := n) (by omega)) rfl rfl ?_; rintro _ _ _ ⟨rfl, q', c', rfl, hc', rfl⟩; refine ⟨jL, ?_⟩)
 have hMd := fun M0 I0 => lU (X := X) (w0 := w0) (M0 := M0) (I0 := I0) (p := ((n : Nat) : Int) < 0) (q := q') (c := c') (k := 63) (by have := eP hn; omega) hc' hn
 have hs2 : sg (((n : Nat) : Int) < 0) n = (n : Int) := by unfold sg; rw [if_neg (by omega)]
 simp only [hs2] at hMd
 (refine aT rfl (hMd _ _ aR) rfl rfl ?_; rintro _ _ _ ⟨rfl, rfl⟩; refine ⟨jL, ?_⟩; refine aW (List.Mem.head _) (fun q2 c2 e__ hc2 hz2 => ?_); subst e__)
 unfold iv
 repeat (refine jE ?_)
 refine bD (cs := [.bool (B (((n : Nat) : Int) < 0)), .slice q2 (gr ((n : Nat) : Int).natAbs).length c2]) (.inl rfl) rfl rfl aR rfl _ _ bZ bX ⟨rfl, rfl⟩
end
end Go.Proofs.YtjbhdfpjnjedhaaGreat
namespace Go.Proofs.YtjbhdfpjnjedhaaGreat
open Go Go.Fx
abbrev vI (q : Option Addr) (c : Nat) (z : Int) : Value := .agg #[.bool (B (z < 0)), .slice q (gr z.natAbs).length c]
structure RE where
 q : Rat
 p1 : Option Addr
 c1 : Nat
 p2 : Option Addr
 c2 : Nat
instance : Inhabited RE := ⟨⟨0, none, 0, none, 0⟩⟩
abbrev eR (e : RE) : List Value := [.bool (B (e.q.num < 0)), .slice e.p1 (gr e.q.num.natAbs).length e.c1, .bool (B ((e.q.den : Int) < 0)), .slice e.p2 (gr (e.q.den : Int).natAbs).length e.c2]
abbrev rv (e : RE) : Value := .agg #[.bool (B (e.q.num < 0)), .slice e.p1 (gr e.q.num.natAbs).length e.c1, .bool (B ((e.q.den : Int) < 0)), .slice e.p2 (gr (e.q.den : Int).natAbs).length e.c2]
instance : Sized eR 4 := ⟨fun _ => rfl⟩
instance : Ones eR := ⟨fun m u hu => by
 simp only [eR, List.mem_cons, List.not_mem_nil, or_false] at hu
 rcases hu with rfl | rfl | rfl | rfl <;> rfl⟩
structure IsR (e : RE) (k : Nat) (X : List Nat) (w : World) : Prop where
 num : IsI (vI e.p1 e.c1 e.q.num) e.q.num k X w
 den : IsI (vI e.p2 e.c2 e.q.den) e.q.den k X w
abbrev dD (e : RE) (k : Nat) : bA := IsR e k
instance (e : RE) (k : Nat) : Fx.Good (IsR e k) := ⟨fun X Y w w' h he hY => ⟨Fx.Good.go (φ := IsI _ _ _) X Y w w' h.num he hY, Fx.Good.go (φ := IsI _ _ _) X Y w w' h.den he hY⟩⟩
theorem IsR.mono {e : RE} {k m : Nat} {X : List Nat} {w : World} (h : IsR e k X w) (hk : k ≤ m) : IsR e m X w := ⟨h.num.mono hk, h.den.mono hk⟩
theorem IsI.le {u : Value} {z : Int} {k : Nat} {X : List Nat} {w : World} (h : IsI u z k X w) : z.natAbs ≤ 2 ^ k := by
 obtain ⟨q, c, h1, h2, h3, h4⟩ := h.ex
 exact h3
structure AllR (es : List RE) (k : Nat) (X : List Nat) (w : World) : Prop where
 go : ∀ e ∈ es, IsR e k X w
abbrev dB (es : List RE) (k : Nat) : bA := AllR es k
instance (es : List RE) (k : Nat) : Fx.Good (AllR es k) := ⟨fun X Y w w' h he hY => ⟨fun e hm => Fx.Good.go (φ := IsR _ _) X Y w w' (h.go e hm) he hY⟩⟩
theorem AllR.mono {es : List RE} {k m : Nat} {X : List Nat} {w : World} (h : AllR es k X w) (hk : k ≤ m) : AllR es m X w := ⟨fun e he => (h.go e he).mono hk⟩
structure Hv (I : List bA) (φ : bA) : Prop where
 go : ∀ (X : List Nat) (w : World), (∀ ψ ∈ I, ψ X w) → φ X w
theorem Hv.mem {I : List bA} {φ : bA} (h : φ ∈ I) : Hv I φ := ⟨fun _ _ hw => hw φ h⟩
theorem Hv.q {I : List bA} {e : RE} {k m : Nat} (h : dD e k ∈ I) (hk : k ≤ m) : Hv I (dD e m) := ⟨fun X w hw => IsR.mono (hw _ h) hk⟩
theorem dP {α : Type} [Inhabited α] {ms : List α} {i : Int} (h : 0 ≤ i ∧ i < ms.length) : gt ms i ∈ ms := List.mem_of_getElem? (aIU h)
theorem Hv.all {I : List bA} {es : List RE} {k m : Nat} {i : Int} (h : dB es k ∈ I) (hi : 0 ≤ i ∧ i < es.length) (hk : k ≤ m) : Hv I (dD (gt es i) m) := ⟨fun X w hw => ((hw _ h : AllR es k X w).go _ (dP hi)).mono hk⟩
theorem Hv.inc {I I' : List bA} {φ : bA} (h : Hv I φ) (hs : ∀ ψ ∈ I, ψ ∈ I') : Hv I' φ := ⟨fun X w hw => h.go X w (fun ψ hm => hw ψ (hs ψ hm))⟩
theorem Hv.cons {I : List bA} {φ ψ : bA} (h : Hv I φ) : Hv (ψ :: I) φ := h.inc (fun _ hm => List.mem_cons_of_mem _ hm)
theorem Hv.allMono {I : List bA} {es : List RE} {k m : Nat} (h : dB es k ∈ I) (hk : k ≤ m) : Hv I (dB es m) := ⟨fun X w hw => AllR.mono (hw _ h) hk⟩
section
variable {P : Program} {n : Nat} {Q : Exit → Act → World → Prop} {G : Env} {X : List Nat} {w0 : World} {M M' : List Ent} {I I' : List bA}
theorem Mem.hv {w : World} {φ : bA} [Fx.Good φ] (h : Hv I φ) (hw : Mem X w0 M I w) : Mem X w0 M (φ :: I) w := hw.add (φ := φ) (h.go _ _ (fun ψ hm => (hw.imm ψ hm).2))
theorem cK {f : FuncId} {vs : List Value} {K : Value → List Ent → List bA → Prop} {φ : bA} [Fx.Good φ] (h : Hv I φ) (k : CD P f vs X w0 M (φ :: I) K) : CD P f vs X w0 M I K := ⟨fun w hw => k.go w (Mem.hv h hw)⟩
theorem iJ {c : Code} {φ : bA} [Fx.Good φ] (h : Hv I φ) (k : TD P n c Q G X w0 M (φ :: I)) : TD P n c Q G X w0 M I := aDU (fun _ hw => Mem.hv h hw) k
theorem iO {ops l : List Oper} {m : Fx.Mode} {φ : bA} [Fx.Good φ] (h : Hv I φ) (k : RD P n ops Q m l G X w0 M (φ :: I)) : RD P n ops Q m l G X w0 M I := tH (fun _ hw => Mem.hv h hw) k
theorem gU {ex : Exit} {φ : bA} [Fx.Good φ] (h : Hv I φ) (k : ND n Q ex G X w0 M (φ :: I)) : ND n Q ex G X w0 M I := yM (fun _ hw => Mem.hv h hw) k
theorem aTU {w : World} {e : RE} {k : Nat} (h : Hv I (dD e k)) (hw : Mem X w0 M I w) : Mem X w0 M (iF (vI e.p1 e.c1 e.q.num) e.q.num k :: iF (vI e.p2 e.c2 e.q.den) e.q.den k :: I) w := by
 have hr : IsR e k (muts M) w := h.go _ _ (fun ψ hm => (hw.imm ψ hm).2)
 exact (hw.add (φ := iF (vI e.p2 e.c2 e.q.den) e.q.den k) hr.den).add (φ := iF (vI e.p1 e.c1 e.q.num) e.q.num k) hr.num
theorem zO {f : FuncId} {vs : List Value} {K : Value → List Ent → List bA → Prop} {e : RE} {k : Nat} (h : Hv I (dD e k)) (c : CD P f vs X w0 M (iF (vI e.p1 e.c1 e.q.num) e.q.num k :: iF (vI e.p2 e.c2 e.q.den) e.q.den k :: I) K) : CD P f vs X w0 M I K := ⟨fun w hw => c.go w (aTU h hw)⟩
theorem iC {ops l : List Oper} {m : Fx.Mode} {e : RE} {k : Nat} (h : Hv I (dD e k)) (c : RD P n ops Q m l G X w0 M (iF (vI e.p1 e.c1 e.q.num) e.q.num k :: iF (vI e.p2 e.c2 e.q.den) e.q.den k :: I)) : RD P n ops Q m l G X w0 M I := tH (fun _ hw => aTU h hw) c
theorem aUL {w : World} {q : Rat} {k k1 k2 : Nat} {p1 p2 : Option Addr} {c1 c2 : Nat} (h1 : iF (vI p1 c1 q.num) q.num k1 ∈ I) (h2 : iF (vI p2 c2 q.den) q.den k2 ∈ I) (hk1 : k1 ≤ k) (hk2 : k2 ≤ k) (hw : Mem X w0 M I w) : Mem X w0 M (dD ⟨q, p1, c1, p2, c2⟩ k :: I) w :=
 hw.add (φ := dD ⟨q, p1, c1, p2, c2⟩ k) ⟨IsI.mono (hw.imm _ h1).2 hk1, IsI.mono (hw.imm _ h2).2 hk2⟩
theorem lS {ex : Exit} {q : Rat} {k k1 k2 : Nat} {p1 p2 : Option Addr} {c1 c2 : Nat} (h1 : iF (vI p1 c1 q.num) q.num k1 ∈ I) (h2 : iF (vI p2 c2 q.den) q.den k2 ∈ I) (hk1 : k1 ≤ k) (hk2 : k2 ≤ k) (h : ND n Q ex G X w0 M (dD ⟨q, p1, c1, p2, c2⟩ k :: I)) : ND n Q ex G X w0 M I := yM (fun _ hw => aUL h1 h2 hk1 hk2 hw) h
theorem monoI {w : World} {u : Value} {z : Int} {k m : Nat} (h : iF u z k ∈ I) (hk : k ≤ m) (hw : Mem X w0 M I w) : Mem X w0 M (iF u z m :: I) w := hw.add (φ := iF u z m) (IsI.mono (hw.imm _ h).2 hk)
theorem aEY {ops l : List Oper} {m : Fx.Mode} {u : Value} {z : Int} {k k2 : Nat} (h : iF u z k ∈ I) (hk : k ≤ k2) (c : RD P n ops Q m l G X w0 M (iF u z k2 :: I)) : RD P n ops Q m l G X w0 M I := tH (fun _ hw => monoI h hk hw) c
theorem IsI.tight {u : Value} {z : Int} {k m : Nat} {X : List Nat} {w : World} (h : IsI u z k X w) (hk : z.natAbs ≤ 2 ^ m) : IsI u z m X w := by
 obtain ⟨q, c, h1, h2, h3, h4⟩ := h.ex
 exact ⟨q, c, h1, h2, hk, h4⟩
theorem mR {ops l : List Oper} {m : Fx.Mode} {u : Value} {z : Int} {k k2 : Nat} (h : iF u z k ∈ I) (hk : z.natAbs ≤ 2 ^ k2) (c : RD P n ops Q m l G X w0 M (iF u z k2 :: I)) : RD P n ops Q m l G X w0 M I := tH (fun _ hw => hw.add (φ := iF u z k2) (IsI.tight (hw.imm _ h).2 hk)) c
end
def RQ (q : Rat) (k : Nat) (M0 : List Ent) (I0 : List bA) (v : Value) (M : List Ent) (I : List bA) : Prop := M0 = M ∧ ∃ e : RE, v = rv e ∧ e.q = q ∧ I = dD e k :: I0
def RQc (q : Rat) (k : Nat) (M0 : List Ent) (I0 : List bA) (v : Value) (M : List Ent) (I : List bA) : Prop := M0 = M ∧ ∃ e : RE, v = .tuple #[rv e, .int .i64 0] ∧ e.q = q ∧ I = dD e k :: I0
end Go.Proofs.YtjbhdfpjnjedhaaGreat
