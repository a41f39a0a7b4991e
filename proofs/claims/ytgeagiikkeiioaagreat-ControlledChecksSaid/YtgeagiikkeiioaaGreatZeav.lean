/- fiducialref02: Add, Sub, Mul, Divide, Compare, Same Fractions as they come in: whatever bits, canonical or not. The plane of a line sensor, plain: slopes, conditions, the position. -/
import Derived.Test.YtgeagiikkeiioaaGreatZeau
import Derived.Test.YtgeagiikkeiioaaGreatZeao
set_option linter.unusedSimpArgs false
set_option linter.unusedVariables false
set_option maxRecDepth 100000
set_option maxHeartbeats 4000000
namespace Go.Proofs.YtgeagiikkeiioaaGreat
open Go Go.Fx
theorem aIA {n d : Int} (hd : 0 < d) : (Rat.divInt n d).num.sign = n.sign := by
 obtain ⟨m, hm, h1, h2, h3, h4⟩ := wW (n := n) (d := d) (by omega)
 have hm0 : 0 < m := by
  rcases Int.lt_trichotomy m 0 with h | h | h
  ·have := h4.1 h; omega
  ·exact absurd h hm
  ·exact h
 have : n.sign = ((Rat.divInt n d).num * m).sign := congrArg Int.sign h1
 rw [this, Int.sign_mul, Int.sign_eq_one_of_pos hm0, Int.mul_one]
theorem aSG (p q : Rat) : (p - q).num.sign = aGN p q := by
 rw [Rat.sub_eq_add_neg, xA, aIA (by rw [Rat.neg_den]; exact Int.mul_pos (yE p) (yE q)), Rat.neg_num, Rat.neg_den, Int.neg_mul, ← Int.sub_eq_add_neg, aMH]
 rfl
section
variable {X : List Nat} {w0 : World} {M0 : List Ent} {I0 : List bD}
theorem aHQ {a b : RE} {k m : Nat} (hk : k + m + 1 ≤ 100000000000) (ha : Hv I0 (eY a k)) (hb : Hv I0 (eY b m)) :
  CD Tryz.prog 139 [rv a, rv b] X w0 M0 I0 (RQ (a.q + b.q) (k + m + 1) M0 I0) := by
 have hM1 := fun u v M0 I0 => rJ (X := X) (w0 := w0) (M0 := M0) (I0 := I0) (u := u) (v := v) (y := a.q.num) (z := b.q.den) (k0 := k) (m0 := m) (by omega)
 have hM2 := fun u v M0 I0 => rJ (X := X) (w0 := w0) (M0 := M0) (I0 := I0) (u := u) (v := v) (y := b.q.num) (z := a.q.den) (k0 := m) (m0 := k) (by omega)
 have hM3 := fun u v M0 I0 => rJ (X := X) (w0 := w0) (M0 := M0) (I0 := I0) (u := u) (v := v) (y := a.q.den) (z := b.q.den) (k0 := k) (m0 := m) (by omega)
 have hA := fun u v M0 I0 => aLD (X := X) (w0 := w0) (M0 := M0) (I0 := I0) (u := u) (v := v) (y := a.q.num * b.q.den) (z := b.q.num * a.q.den) (k := k + m) (m := m + k) (c := k + m + 1) (by omega) (by omega) (by omega) (aLG k m)
 have hR := fun u v M0 I0 => uS (X := X) (w0 := w0) (M0 := M0) (I0 := I0) (u := u) (v := v) (n := a.q.num * b.q.den + b.q.num * a.q.den) (d := a.q.den * b.q.den) (k := k + m + 1) (by omega) (uD _ _)
 rw [← xA] at hR
 refine aW Tryz.func139 rfl Tryz.ntmps139 rfl ?_
 refine aJ ?_
 refine aH ?_
 (refine aM rfl rfl rfl ?_; intro b1; refine ⟨okF, ?_⟩)
 (refine aM rfl rfl rfl ?_; intro b2; refine ⟨okF, ?_⟩)
 (refine aN rfl rfl ?_; intro b3; refine ⟨okF, ?_⟩)
 repeat (refine aX ?_)
 (refine aA rfl (lK (k := k) (by omega) ha) rfl rfl ?_; rintro _ _ _ ⟨rfl, rfl, rfl⟩; refine ⟨okF, ?_⟩)
 (refine aN rfl rfl ?_; intro b4; refine ⟨okF, ?_⟩)
 repeat (refine aX ?_)
 (refine aA rfl (lK (k := m) (by omega) hb) rfl rfl ?_; rintro _ _ _ ⟨rfl, rfl, rfl⟩; refine ⟨okF, ?_⟩)
 (refine aN rfl rfl ?_; intro b5; refine ⟨okF, ?_⟩)
 refine iH (e := a) (k := k) ha ?_
 refine iH (e := b) (k := m) hb.cons.cons ?_
 repeat (refine aX ?_)
 (repeat refine aJ ?_); refine gL (.blk b5 (eR b) 42 :: .blk b4 (eR a) 42 :: M0) (I0) [0, 1, 2, 3, 5, 6, 7, 8, 11, 12, 13, 14, 4, 9, 10, 15, 16, 17] [5, 4, 5, 4, 5, 4, 5, 4, 5, 4, 5, 4, 0, 0, 0, 0, 0, 0] aG aD mixed (by kernel_rfl) ?_
 repeat (refine aX ?_)
 (refine aA rfl (hM1 _ _ _ _ aB aB) rfl rfl ?_; rintro _ _ _ ⟨rfl, rfl⟩; refine ⟨okF, ?_⟩)
 (refine aA rfl (hM2 _ _ _ _ aB aB) rfl rfl ?_; rintro _ _ _ ⟨rfl, rfl⟩; refine ⟨okF, ?_⟩)
 (refine aA rfl (hA _ _ _ _ aB aB) rfl rfl ?_; rintro _ _ _ ⟨rfl, rfl⟩; refine ⟨okF, ?_⟩)
 (refine aA rfl (hM3 _ _ _ _ aB aB) rfl rfl ?_; rintro _ _ _ ⟨rfl, rfl⟩; refine ⟨okF, ?_⟩)
 refine aHA (k2 := k + m + 1) (List.Mem.head _) (by omega) ?_
 (refine aA rfl (hR _ _ _ _ aB aB) rfl rfl ?_; rintro _ _ _ ⟨rfl, e, rfl, he, rfl⟩; refine ⟨okF, ?_⟩)
 repeat (refine aX ?_)
 refine bG (cs := eR e) (.inl rfl) rfl rfl aB rfl M0 (eY e (k + m + 1) :: I0) aG aD ⟨rfl, e, rfl, he, rfl⟩
theorem aIS {a b : RE} {k m : Nat} (hk : k + m ≤ 100000000000) (ha : Hv I0 (eY a k)) (hb : Hv I0 (eY b m)) :
  CD Tryz.prog 140 [rv a, rv b] X w0 M0 I0 (RQ (a.q * b.q) (k + m) M0 I0) := by
 have hM1 := fun u v M0 I0 => rJ (X := X) (w0 := w0) (M0 := M0) (I0 := I0) (u := u) (v := v) (y := a.q.num) (z := b.q.num) (k0 := k) (m0 := m) (by omega)
 have hM3 := fun u v M0 I0 => rJ (X := X) (w0 := w0) (M0 := M0) (I0 := I0) (u := u) (v := v) (y := a.q.den) (z := b.q.den) (k0 := k) (m0 := m) (by omega)
 have hR := fun u v M0 I0 => uS (X := X) (w0 := w0) (M0 := M0) (I0 := I0) (u := u) (v := v) (n := a.q.num * b.q.num) (d := a.q.den * b.q.den) (k := k + m) (by omega) (uD _ _)
 rw [← aBO] at hR
 refine aW Tryz.func140 rfl Tryz.ntmps140 rfl ?_
 refine aJ ?_
 refine aH ?_
 (refine aM rfl rfl rfl ?_; intro b1; refine ⟨okF, ?_⟩)
 (refine aM rfl rfl rfl ?_; intro b2; refine ⟨okF, ?_⟩)
 (refine aN rfl rfl ?_; intro b3; refine ⟨okF, ?_⟩)
 repeat (refine aX ?_)
 (refine aA rfl (lK (k := k) (by omega) ha) rfl rfl ?_; rintro _ _ _ ⟨rfl, rfl, rfl⟩; refine ⟨okF, ?_⟩)
 (refine aN rfl rfl ?_; intro b4; refine ⟨okF, ?_⟩)
 repeat (refine aX ?_)
 (refine aA rfl (lK (k := m) (by omega) hb) rfl rfl ?_; rintro _ _ _ ⟨rfl, rfl, rfl⟩; refine ⟨okF, ?_⟩)
 (refine aN rfl rfl ?_; intro b5; refine ⟨okF, ?_⟩)
 refine iH (e := a) (k := k) ha ?_
 refine iH (e := b) (k := m) hb.cons.cons ?_
 repeat (refine aX ?_)
 (repeat refine aJ ?_); refine gL (.blk b5 (eR b) 42 :: .blk b4 (eR a) 42 :: M0) (I0) [0, 1, 2, 3, 5, 6, 7, 8, 4, 9, 10, 11] [3, 2, 3, 2, 3, 2, 3, 2, 0, 0, 0, 0] aG aD mixed (by kernel_rfl) ?_
 repeat (refine aX ?_)
 (refine aA rfl (hM1 _ _ _ _ aB aB) rfl rfl ?_; rintro _ _ _ ⟨rfl, rfl⟩; refine ⟨okF, ?_⟩)
 (refine aA rfl (hM3 _ _ _ _ aB aB) rfl rfl ?_; rintro _ _ _ ⟨rfl, rfl⟩; refine ⟨okF, ?_⟩)
 (refine aA rfl (hR _ _ _ _ aB aB) rfl rfl ?_; rintro _ _ _ ⟨rfl, e, rfl, he, rfl⟩; refine ⟨okF, ?_⟩)
 repeat (refine aX ?_)
 refine bG (cs := eR e) (.inl rfl) rfl rfl aB rfl M0 (eY e (k + m) :: I0) aG aD ⟨rfl, e, rfl, he, rfl⟩
theorem aIF {a b : RE} {k m : Nat} (hk : k + m + 1 ≤ 100000000000) (ha : Hv I0 (eY a k)) (hb : Hv I0 (eY b m)) :
  CD Tryz.prog 149 [rv a, rv b] X w0 M0 I0 (RQ (a.q - b.q) (k + m + 1) M0 I0) := by
 refine aW Tryz.func149 rfl Tryz.ntmps149 rfl ?_
 refine aJ ?_
 refine aH ?_
 (refine aM rfl rfl rfl ?_; intro b1; refine ⟨okF, ?_⟩)
 (refine aM rfl rfl rfl ?_; intro b2; refine ⟨okF, ?_⟩)
 (refine aN rfl rfl ?_; intro b3; refine ⟨okF, ?_⟩)
 repeat (refine aX ?_)
 (repeat refine aJ ?_); refine bE 1 [0, 1, 2, 3, 4] [1, 1, 0, 0, 0] mixed (by kernel_rfl) ?_
 repeat (refine aX ?_)
 (refine aA rfl (aGV (k := m) (by omega) hb) rfl rfl ?_; rintro _ _ _ ⟨rfl, y, rfl, hy, rfl⟩; refine ⟨okF, ?_⟩)
 rw [Rat.sub_eq_add_neg, ← hy]
 (refine aA rfl (aHQ hk ha.cons (Hv.mem (List.Mem.head _))) rfl rfl ?_; rintro _ _ _ ⟨rfl, e, rfl, he, rfl⟩; refine ⟨okF, ?_⟩)
 repeat (refine aX ?_)
 refine bG (cs := eR e) (.inl rfl) rfl rfl aB rfl M0 (eY e (k + m + 1) :: I0) aG aD ⟨rfl, e, rfl, he, rfl⟩
theorem aTG {u v : Value} {n d : Int} {k : Nat} (hk : k ≤ 150000000000) (hd0 : d ≠ 0) (hu : iK u n k ∈ I0) (hv : iK v d k ∈ I0) :
  CD Tryz.prog 189 [u, v] X w0 M0 I0 (RQc (Rat.divInt n d) k M0 I0) := by
 have hs0 : ¬ d.sign = 0 := fun h => hd0 (Int.sign_eq_zero_iff_zero.1 h)
 have hS := fun M0 I0 => sS (X := X) (w0 := w0) (M0 := M0) (I0 := I0) (u := v) (z := d) (k := k) (by omega)
 have hR := fun M0 I0 => uS (X := X) (w0 := w0) (M0 := M0) (I0 := I0) (u := u) (v := v) (n := n) (d := d) (k := k) (by omega) hd0
 generalize d.sign = sd at *
 refine CD.post (K := fun v M I => ∃ q q', RQc (Rat.divInt n d) k M0 (aV q' (recs eG (gr d.natAbs)) :: aV q (recs eG (gr n.natAbs)) :: I0) v M I) (dC hu (fun q cq e hc hy => ?_)) (fun v M I w h hw => ?_)
 case refine_2 =>
  obtain ⟨q, q', e1, e2, h2, h3, h4⟩ := h
  subst e1; subst h4
  exact ⟨_, _, ⟨rfl, e2, h2, h3, rfl⟩, hw.inc (Inc.cons (List.Mem.head _) (Inc.wk (Inc.wk (Inc.wk Inc.refl))))⟩
 subst e
 refine dC (List.Mem.tail _ hv) (fun q' cq' e hc' hz => ?_)
 subst e
 unfold iv at *
 refine aW Tryz.func189 rfl Tryz.ntmps189 rfl ?_
 refine aJ ?_
 refine aH ?_
 (refine aM rfl rfl rfl ?_; intro b1; refine ⟨okF, ?_⟩)
 (refine aM rfl rfl rfl ?_; intro b2; refine ⟨okF, ?_⟩)
 (refine aN rfl rfl ?_; intro b3; refine ⟨okF, ?_⟩)
 repeat (refine aX ?_)
 (refine aA rfl (hS _ _ aB) rfl rfl ?_; rintro _ _ _ ⟨rfl, rfl, rfl⟩; refine ⟨okF, ?_⟩)
 repeat (refine aX ?_)
 (refine aA rfl (hR _ _ aB aB) rfl rfl ?_; rintro _ _ _ ⟨rfl, e, rfl, he, rfl⟩; refine ⟨okF, ?_⟩)
 repeat (refine aX ?_)
 refine qQ (rs := [.cell 4 42, .tmp 5]) (vs := [rv e, .int .i64 0]) (.inl rfl) rfl (.cellN (cs := eR e) inferInstance rfl aB rfl (.tmp rfl .nil)) rfl M0 (eY e k :: aV q' (recs eG (gr d.natAbs)) :: aV q (recs eG (gr n.natAbs)) :: I0) aG aD ⟨q, q', rfl, e, rfl, he, rfl⟩
theorem aIL {a b : RE} {k m : Nat} (hk : k + m ≤ 100000000000) (hb0 : b.q ≠ 0) (ha : Hv I0 (eY a k)) (hb : Hv I0 (eY b m)) :
  CD Tryz.prog 148 [rv a, rv b] X w0 M0 I0 (RQc (a.q / b.q) (k + m) M0 I0) := by
 have hM1 := fun u v M0 I0 => rJ (X := X) (w0 := w0) (M0 := M0) (I0 := I0) (u := u) (v := v) (y := a.q.num) (z := b.q.den) (k0 := k) (m0 := m) (by omega)
 have hM3 := fun u v M0 I0 => rJ (X := X) (w0 := w0) (M0 := M0) (I0 := I0) (u := u) (v := v) (y := a.q.den) (z := b.q.num) (k0 := k) (m0 := m) (by omega)
 have hR := fun u v M0 I0 => aTG (X := X) (w0 := w0) (M0 := M0) (I0 := I0) (u := u) (v := v) (n := a.q.num * b.q.den) (d := a.q.den * b.q.num) (k := k + m) (by omega) (aCK hb0)
 rw [← aDG] at hR
 refine aW Tryz.func148 rfl Tryz.ntmps148 rfl ?_
 refine aJ ?_
 refine aH ?_
 (refine aM rfl rfl rfl ?_; intro b1; refine ⟨okF, ?_⟩)
 (refine aM rfl rfl rfl ?_; intro b2; refine ⟨okF, ?_⟩)
 (refine aN rfl rfl ?_; intro b3; refine ⟨okF, ?_⟩)
 repeat (refine aX ?_)
 (refine aA rfl (lK (k := k) (by omega) ha) rfl rfl ?_; rintro _ _ _ ⟨rfl, rfl, rfl⟩; refine ⟨okF, ?_⟩)
 (refine aN rfl rfl ?_; intro b4; refine ⟨okF, ?_⟩)
 repeat (refine aX ?_)
 (refine aA rfl (lK (k := m) (by omega) hb) rfl rfl ?_; rintro _ _ _ ⟨rfl, rfl, rfl⟩; refine ⟨okF, ?_⟩)
 (refine aN rfl rfl ?_; intro b5; refine ⟨okF, ?_⟩)
 refine iH (e := a) (k := k) ha ?_
 refine iH (e := b) (k := m) hb.cons.cons ?_
 repeat (refine aX ?_)
 (repeat refine aJ ?_); refine gL (.blk b5 (eR b) 42 :: .blk b4 (eR a) 42 :: M0) (I0) [0, 1, 2, 3, 5, 6, 7, 8, 4, 9, 10, 11, 12, 13, 14] [3, 2, 3, 2, 3, 2, 3, 2, 0, 0, 0, 0, 0, 0, 0] aG aD mixed (by kernel_rfl) ?_
 repeat (refine aX ?_)
 (refine aA rfl (hM1 _ _ _ _ aB aB) rfl rfl ?_; rintro _ _ _ ⟨rfl, rfl⟩; refine ⟨okF, ?_⟩)
 (refine aA rfl (hM3 _ _ _ _ aB aB) rfl rfl ?_; rintro _ _ _ ⟨rfl, rfl⟩; refine ⟨okF, ?_⟩)
 (refine aA rfl (hR _ _ _ _ aB aB) rfl rfl ?_; rintro _ _ _ ⟨rfl, e, rfl, he, rfl⟩; refine ⟨okF, ?_⟩)
 repeat (refine aX ?_)
 refine qQ (rs := [.cell 4 42, .tmp 5]) (vs := [rv e, .int .i64 0]) (.inl rfl) rfl (.cellN (cs := eR e) inferInstance rfl aB rfl (.tmp rfl .nil)) rfl M0 (eY e (k + m) :: I0) aG aD ⟨rfl, e, rfl, he, rfl⟩
theorem aFU {a b : RE} {k m : Nat} (hk : k + m + 1 ≤ 100000000000) (ha : Hv I0 (eY a k)) (hb : Hv I0 (eY b m)) :
  CD Tryz.prog 89 [rv a, rv b] X w0 M0 I0 (fun v M I => M0 = M ∧ I0 = I ∧ v = .int .i64 (aGN a.q b.q)) := by
 refine aW Tryz.func89 rfl Tryz.ntmps89 rfl ?_
 refine aJ ?_
 refine aH ?_
 (refine aM rfl rfl rfl ?_; intro b1; refine ⟨okF, ?_⟩)
 (refine aM rfl rfl rfl ?_; intro b2; refine ⟨okF, ?_⟩)
 repeat (refine aX ?_)
 (refine aA rfl (aIF hk ha hb) rfl rfl ?_; rintro _ _ _ ⟨rfl, e, rfl, he, rfl⟩; refine ⟨okF, ?_⟩)
 (refine aA rfl (qK (k := k + m + 1) (by omega) (Hv.mem (List.Mem.head _))) rfl rfl ?_; rintro _ _ _ ⟨rfl, rfl, rfl⟩; refine ⟨okF, ?_⟩)
 repeat (refine aX ?_)
 refine aC (by first | exact .inl rfl | exact .inr rfl) rfl rfl _ _ aG aD (⟨rfl, rfl, by rw [he, aSG]⟩)
theorem aBY {a b : RE} {k m : Nat} (hk : k + m + 1 ≤ 100000000000) (ha : Hv I0 (eY a k)) (hb : Hv I0 (eY b m)) :
  CD Tryz.prog 67 [rv a, rv b] X w0 M0 I0 (fun v M I => M0 = M ∧ I0 = I ∧ v = .bool (B (a.q = b.q))) := by
 refine aW Tryz.func67 rfl Tryz.ntmps67 rfl ?_
 refine aJ ?_
 refine aH ?_
 (refine aM rfl rfl rfl ?_; intro b1; refine ⟨okF, ?_⟩)
 (refine aM rfl rfl rfl ?_; intro b2; refine ⟨okF, ?_⟩)
 repeat (refine aX ?_)
 (refine aA rfl (xD (k := k) (by omega) ha) rfl rfl ?_; rintro _ _ _ ⟨rfl, rfl, rfl⟩; refine ⟨okF, ?_⟩)
 repeat (refine aX ?_)
 (refine aA rfl (xD (k := m) (by omega) hb) rfl rfl ?_; rintro _ _ _ ⟨rfl, rfl, rfl⟩; refine ⟨okF, ?_⟩)
 repeat (refine aX ?_)
 (refine aA rfl (aFU hk ha hb) rfl rfl ?_; rintro _ _ _ ⟨rfl, rfl, rfl⟩; refine ⟨okF, ?_⟩)
 repeat (refine aX ?_)
 refine aC (by first | exact .inl rfl | exact .inr rfl) rfl rfl _ _ aG aD (⟨rfl, rfl, congrArg Value.bool (fK aBE)⟩)
end
end Go.Proofs.YtgeagiikkeiioaaGreat
namespace Go.Proofs.YtgeagiikkeiioaaGreat
open Go Go.Fx
structure RW where
 n1 : Bool
 p1 : Option Addr
 g1 : List Int
 c1 : Nat
 n2 : Bool
 p2 : Option Addr
 g2 : List Int
 c2 : Nat
instance : Inhabited RW := ⟨⟨false, none, [], 0, false, none, [], 0⟩⟩
abbrev eW (r : RW) : List Value := [.bool r.n1, .slice r.p1 r.g1.length r.c1, .bool r.n2, .slice r.p2 r.g2.length r.c2]
abbrev wv (r : RW) : Value := .agg #[.bool r.n1, .slice r.p1 r.g1.length r.c1, .bool r.n2, .slice r.p2 r.g2.length r.c2]
instance : Sized eW 4 := ⟨fun _ => rfl⟩
instance : Ones eW := ⟨fun m u hu => by
 simp only [eW, List.mem_cons, List.not_mem_nil, or_false] at hu
 rcases hu with rfl | rfl | rfl | rfl <;> rfl⟩
abbrev Cap (p : Option Addr) (n c : Nat) : Prop := n ≤ c ∧ (Ok p ∨ (n = 0 ∧ c = 0))
structure RW.Fit (r : RW) : Prop where
 u1 : ∀ x ∈ r.g1, 0 ≤ x
 u2 : ∀ x ∈ r.g2, 0 ≤ x
 l1 : (r.g1.length : Int) ≤ 9223372036854775807
 l2 : (r.g2.length : Int) ≤ 9223372036854775807
 k1 : Cap r.p1 r.g1.length r.c1
 k2 : Cap r.p2 r.g2.length r.c2
structure IsW (r : RW) (X : List Nat) (w : World) : Prop where
 fit : r.Fit
 s1 : Sl X w r.p1 (recs eG r.g1)
 s2 : Sl X w r.p2 (recs eG r.g2)
abbrev isW (r : RW) : bD := IsW r
instance (r : RW) : Fx.Good (IsW r) := ⟨fun X Y w w' h he hY => ⟨h.fit, Sl.carry h.s1 he hY, Sl.carry h.s2 he hY⟩⟩
def zI (n : Bool) (g : List Int) : Int := if n = true then -val g else val g
theorem wL {n : Bool} {g : List Int} (h : rW n g) (hu : ∀ x ∈ g, 0 ≤ x) : B (zI n g < 0) = n ∧ gr (zI n g).natAbs = g := by
 rcases h with ⟨rfl, rfl⟩ | ⟨h1, h2, h3⟩
 ·exact ⟨aP (by simp [zI, val]), by simp [zI, val, gI]⟩
 ·have hd : Dig g := fun x hx => ⟨hu x hx, by
   have : ¬ 1000000000 ≤ x := fun e => h3 ⟨x, hx, e⟩
   omega⟩
  have hc : Can g := ⟨hd, h2⟩
  have hp : 0 < g.length := by cases g with | nil => exact absurd rfl h1 | cons a l => simp
  have hv := zH hc hp
  have hpp := jD (g.length - 1)
  have ha : (zI n g).natAbs = (val g).toNat := by unfold zI; split <;> omega
  refine ⟨?_, by rw [ha]; exact (aVK hc).symm⟩
  cases n with
  | true => exact aU (by simp only [zI, if_pos]; omega)
  | false => exact aP (by simp only [zI]; rw [if_neg (by decide)]; omega)
theorem uF (z : Int) : zI (B (z < 0)) (gr z.natAbs) = z := by
 unfold zI
 rw [cO, tC]
 by_cases h : z < 0
 ·rw [if_pos (by simpa using h)]; omega
 ·rw [if_neg (by simpa using h)]; omega
theorem aTB (n : Nat) : (1000000000 : Nat) ^ n ≤ 2 ^ (30 * n) := by
 rw [Nat.pow_mul]
 exact Nat.pow_le_pow_left (by decide) n
theorem aFQ {z : Int} : z.natAbs ≤ 2 ^ (30 * (gr z.natAbs).length) := by
 have h1 := jZ (bR z.natAbs)
 rw [cO] at h1
 have h2 := aTB (gr z.natAbs).length
 have h3 : ((1000000000 ^ (gr z.natAbs).length : Nat) : Int) = (1000000000 : Int) ^ (gr z.natAbs).length := by rw [Int.natCast_pow]; rfl
 omega
def RW.good (r : RW) : Prop := rW r.n1 r.g1 ∧ rW r.n2 r.g2 ∧ 0 < zI r.n2 r.g2 ∧ Int.gcd (zI r.n1 r.g1) (zI r.n2 r.g2) = 1
instance (r : RW) : Decidable r.good := by unfold RW.good; exact inferInstance
def RE.raw (e : RE) : RW := ⟨B (e.q.num < 0), e.p1, gr e.q.num.natAbs, e.c1, B ((e.q.den : Int) < 0), e.p2, gr (e.q.den : Int).natAbs, e.c2⟩
theorem RE.raw_good (e : RE) : e.raw.good := by
 refine ⟨zM _, zM _, ?_, ?_⟩
 ·show 0 < zI (B ((e.q.den : Int) < 0)) (gr (e.q.den : Int).natAbs)
  rw [uF]; have := e.q.den_nz; omega
 ·show Int.gcd (zI (B (e.q.num < 0)) (gr e.q.num.natAbs)) (zI (B ((e.q.den : Int) < 0)) (gr (e.q.den : Int).natAbs)) = 1
  rw [uF, uF]
  exact e.q.reduced
theorem RW.good_raw {r : RW} (hf : r.Fit) (h : r.good) : ∃ e : RE, r = e.raw := by
 obtain ⟨n1, p1, g1, c1, n2, p2, g2, c2⟩ := r
 obtain ⟨h1, h2, h3, h4⟩ := h
 simp only at h1 h2 h3 h4
 obtain ⟨a1, a2⟩ := wL h1 hf.u1
 obtain ⟨b1, b2⟩ := wL h2 hf.u2
 generalize zI n1 g1 = z1 at *
 generalize zI n2 g2 = z2 at *
 subst a1; subst a2; subst b1; subst b2
 have e2 : ((z2.natAbs : Nat) : Int) = z2 := by omega
 refine ⟨⟨⟨z1, z2.natAbs, by omega, ?_⟩, p1, c1, p2, c2⟩, ?_⟩
 ·exact h4
 ·unfold RE.raw
  simp only [e2]
theorem RE.fit {e : RE} {k : Nat} {X : List Nat} {w : World} (hk : k ≤ 1000000000000) (h : IsR e k X w) : IsW e.raw X w := by
 obtain ⟨q, c, h1, h2, h3, h4⟩ := h.num.ex
 obtain ⟨q', c', i1, i2, i3, i4⟩ := h.den.ex
 simp only [iv, Value.agg.injEq, Array.mk.injEq, List.cons.injEq, Value.slice.injEq, and_true, true_and] at h1 i1
 obtain ⟨rfl, rfl⟩ := h1
 obtain ⟨rfl, rfl⟩ := i1
 have a1 := gD h3 hk
 have a2 := gD i3 hk
 exact ⟨⟨fun x hx => (bR _ x hx).1, fun x hx => (bR _ x hx).1, by show ((gr e.q.num.natAbs).length : Int) ≤ _; omega, by show ((gr (e.q.den : Int).natAbs).length : Int) ≤ _; omega, h2, i2⟩, h4, i4⟩
theorem RE.isR_raw {e : RE} {k : Nat} {X : List Nat} {w : World} (h : IsW e.raw X w) (k1 : 30 * e.raw.g1.length ≤ k) (k2 : 30 * e.raw.g2.length ≤ k) : IsR e k X w :=
 ⟨⟨⟨e.p1, e.c1, rfl, h.fit.k1, Nat.le_trans aFQ (Nat.pow_le_pow_right (by decide) k1), h.s1⟩⟩, ⟨⟨e.p2, e.c2, rfl, h.fit.k2, Nat.le_trans aFQ (Nat.pow_le_pow_right (by decide) k2), h.s2⟩⟩⟩
theorem Hv.ofW {I : List bD} {e : RE} {k : Nat} (h : Hv I (isW e.raw)) (k1 : 30 * e.raw.g1.length ≤ k) (k2 : 30 * e.raw.g2.length ≤ k) : Hv I (eY e k) := ⟨fun X w hw => RE.isR_raw (h.go X w hw) k1 k2⟩
section
variable {X : List Nat} {w0 : World} {M0 : List Ent} {I0 : List bD}
theorem aBL {P : Program} {f : FuncId} {vs : List Value} {K : Value → Prop} {r : RW} (h : Hv I0 (isW r)) (c : r.Fit → CD P f vs X w0 M0 (aV r.p1 (recs eG r.g1) :: aV r.p2 (recs eG r.g2) :: I0) (fun v M I => M0 = M ∧ aV r.p1 (recs eG r.g1) :: aV r.p2 (recs eG r.g2) :: I0 = I ∧ K v)) :
  CD P f vs X w0 M0 I0 (fun v M I => M0 = M ∧ I0 = I ∧ K v) := ⟨fun w hw => by
 have hr : IsW r (muts M0) w := h.go _ _ (fun ψ hm => (hw.imm ψ hm).2)
 have hw' := (hw.add (φ := aV r.p2 (recs eG r.g2)) ⟨hr.s2⟩).add (φ := aV r.p1 (recs eG r.g1)) ⟨hr.s1⟩
 refine ((c hr.fit).go w hw').mono (fun _ _ h => ?_)
 obtain ⟨_, _, ⟨rfl, rfl, h3⟩, hm⟩ := h
 exact ⟨_, _, ⟨rfl, rfl, h3⟩, hm.inc (Inc.wk (Inc.wk Inc.refl))⟩⟩
theorem wM {P : Program} {f : FuncId} {vs : List Value} {K : Value → Prop} {p : Option Addr} {c k : Nat} {z : Int} (hs : aV p (recs eG (gr z.natAbs)) ∈ I0) (hc : Cap p (gr z.natAbs).length c) (hk : 30 * (gr z.natAbs).length ≤ k) (h : CD P f vs X w0 M0 (iK (vI p c z) z k :: I0) (fun v M I => M0 = M ∧ iK (vI p c z) z k :: I0 = I ∧ K v)) :
  CD P f vs X w0 M0 I0 (fun v M I => M0 = M ∧ I0 = I ∧ K v) := ⟨fun w hw => by
 have hw' := aFY hw hs hc (Nat.le_trans aFQ (Nat.pow_le_pow_right (by decide) hk))
 refine (h.go w hw').mono (fun _ _ h => ?_)
 obtain ⟨_, _, ⟨rfl, rfl, h3⟩, hm⟩ := h
 exact ⟨_, _, ⟨rfl, rfl, h3⟩, hm.inc (Inc.wk Inc.refl)⟩⟩
theorem aLE (n : Nat) : (fM (n : Int) 1 = 0) ↔ n = 1 := by
 unfold fM
 split
 ·omega
 ·split <;> omega
theorem aJT {p1 p2 : Option Addr} {c1 c2 k : Nat} {y z : Int} (hk : k ≤ 500000000000) (h1 : iK (vI p1 c1 y) y k ∈ I0) (h2 : iK (vI p2 c2 z) z k ∈ I0) :
  CD Tryz.prog 129 [.agg #[.bool (B (y < 0)), .slice p1 (gr y.natAbs).length c1, .bool (B (z < 0)), .slice p2 (gr z.natAbs).length c2]] X w0 M0 I0 (fun v M I => M0 = M ∧ I0 = I ∧ v = .bool (B (0 < z ∧ Int.gcd y z = 1))) := by
 have hV1 := fun M0 I0 h => vS (X := X) (w0 := w0) (M0 := M0) (I0 := I0) (u := vI p1 c1 y) (z := y) (k := k) (by omega) h
 have hV2 := fun M0 I0 h => vS (X := X) (w0 := w0) (M0 := M0) (I0 := I0) (u := vI p2 c2 z) (z := z) (k := k) (by omega) h
 have hS := fun M0 I0 => uB (X := X) (w0 := w0) (M0 := M0) (I0 := I0) (u := vI p2 c2 z) (z := z) (k := k) (by omega)
 have hs : z.sign ≤ 0 ↔ ¬ 0 < z := by rw [← Int.sign_pos_iff]; omega
 have hG := fun M0 I0 => aJN (X := X) (w0 := w0) (M0 := M0) (I0 := I0) (u := vI p1 c1 y) (v := vI p2 c2 z) (y := y) (z := z) (k0 := k) (m := k) (by omega) (by omega)
 generalize hg : Int.gcd y z = g at *
 have hC := fun u v M0 I0 => xK (X := X) (w0 := w0) (M0 := M0) (I0 := I0) (u := u) (v := v) (y := g) (z := 1) (k := k + k) (m := 63) (by omega) (by omega)
 have hc := aLE g
 generalize fM (g : Int) 1 = cv at *
 generalize z.sign = sz at *
 refine bC Tryz.func129 rfl Tryz.ntmps129 rfl ?_
 refine aJ ?_
 refine aH ?_
 (refine aM rfl rfl rfl ?_; intro b; refine ⟨okF, ?_⟩)
 repeat (refine aX ?_)
 (refine aA rfl (hV1 _ _ aB) rfl rfl ?_; rintro _ _ _ ⟨rfl, rfl, rfl⟩; refine ⟨okF, ?_⟩)
 repeat (refine aX ?_)
 (refine aA rfl (hV2 _ _ aB) rfl rfl ?_; rintro _ _ _ ⟨rfl, rfl, rfl⟩; refine ⟨okF, ?_⟩)
 repeat (refine aX ?_)
 (refine aA rfl (hS _ _ aB) rfl rfl ?_; rintro _ _ _ ⟨rfl, rfl, rfl⟩; refine ⟨okF, ?_⟩)
 repeat' (first | refine aX ?_ | refine aS rfl (fun h => ?_) (fun h => ?_) | refine aT rfl rfl (fun h => ?_) (fun h => ?_) | fail)
 ·refine aC (by first | exact .inl rfl | exact .inr rfl) rfl rfl _ _ aG aD (⟨rfl, rfl, congrArg Value.bool (aP (fun e => hs.1 (by assumption) e.1)).symm⟩)
 (refine aA rfl (hG _ _ aB aB) rfl rfl ?_; rintro _ _ _ ⟨rfl, rfl⟩; refine ⟨okF, ?_⟩)
 repeat (refine aX ?_)
 (refine aA rfl (aGF (x := 1) (by decide)) rfl rfl ?_; rintro _ _ _ ⟨rfl, rfl⟩; refine ⟨okF, ?_⟩)
 (refine aA rfl (hC _ _ _ _ aB aB) rfl rfl ?_; rintro _ _ _ ⟨rfl, rfl, rfl⟩; refine ⟨okF, ?_⟩)
 repeat (refine aX ?_)
 refine aC (by first | exact .inl rfl | exact .inr rfl) rfl rfl _ _ aG aD (⟨rfl, rfl, congrArg Value.bool (fK ⟨fun e => ⟨by omega, hc.1 e⟩, fun e => hc.2 e.2⟩)⟩)
theorem aIM {p1 p2 : Option Addr} {c1 c2 k : Nat} {y z : Int} (hk : k ≤ 100000000000) (h1 : iK (vI p1 c1 y) y k ∈ I0) (h2 : iK (vI p2 c2 z) z k ∈ I0) :
  CD Tryz.prog 86 [.agg #[.bool (B (y < 0)), .slice p1 (gr y.natAbs).length c1, .bool (B (z < 0)), .slice p2 (gr z.natAbs).length c2]] X w0 M0 I0 (fun v M I => M0 = M ∧ I0 = I ∧ v = .bool (B (0 < z ∧ Int.gcd y z = 1))) := by
 have hV1 := fun M0 I0 h => yS (X := X) (w0 := w0) (M0 := M0) (I0 := I0) (u := vI p1 c1 y) (z := y) (k := k) (by omega) h
 have hV2 := fun M0 I0 h => yS (X := X) (w0 := w0) (M0 := M0) (I0 := I0) (u := vI p2 c2 z) (z := z) (k := k) (by omega) h
 have hS := fun M0 I0 => sS (X := X) (w0 := w0) (M0 := M0) (I0 := I0) (u := vI p2 c2 z) (z := z) (k := k) (by omega)
 have hs : z.sign ≤ 0 ↔ ¬ 0 < z := by rw [← Int.sign_pos_iff]; omega
 have hG := fun M0 I0 => aFJ (X := X) (w0 := w0) (M0 := M0) (I0 := I0) (u := vI p1 c1 y) (v := vI p2 c2 z) (y := y) (z := z) (k0 := k) (m := k) (by omega) (by omega)
 generalize hg : Int.gcd y z = g at *
 have hC := fun u v M0 I0 => aAL (X := X) (w0 := w0) (M0 := M0) (I0 := I0) (u := u) (v := v) (y := g) (z := 1) (k := k + k) (m := 63) (by omega) (by omega)
 have hc := aLE g
 generalize fM (g : Int) 1 = cv at *
 generalize z.sign = sz at *
 refine bC Tryz.func86 rfl Tryz.ntmps86 rfl ?_
 refine aJ ?_
 refine aH ?_
 (refine aM rfl rfl rfl ?_; intro b; refine ⟨okF, ?_⟩)
 repeat (refine aX ?_)
 (refine aA rfl (hV1 _ _ aB) rfl rfl ?_; rintro _ _ _ ⟨rfl, rfl, rfl⟩; refine ⟨okF, ?_⟩)
 repeat (refine aX ?_)
 (refine aA rfl (hV2 _ _ aB) rfl rfl ?_; rintro _ _ _ ⟨rfl, rfl, rfl⟩; refine ⟨okF, ?_⟩)
 repeat (refine aX ?_)
 (refine aA rfl (hS _ _ aB) rfl rfl ?_; rintro _ _ _ ⟨rfl, rfl, rfl⟩; refine ⟨okF, ?_⟩)
 repeat' (first | refine aX ?_ | refine aS rfl (fun h => ?_) (fun h => ?_) | refine aT rfl rfl (fun h => ?_) (fun h => ?_) | fail)
 ·refine aC (by first | exact .inl rfl | exact .inr rfl) rfl rfl _ _ aG aD (⟨rfl, rfl, congrArg Value.bool (aP (fun e => hs.1 (by assumption) e.1)).symm⟩)
 (refine aA rfl (hG _ _ aB aB) rfl rfl ?_; rintro _ _ _ ⟨rfl, rfl⟩; refine ⟨okF, ?_⟩)
 repeat (refine aX ?_)
 (refine aA rfl (vU (x := 1) (by decide)) rfl rfl ?_; rintro _ _ _ ⟨rfl, rfl⟩; refine ⟨okF, ?_⟩)
 (refine aA rfl (hC _ _ _ _ aB aB) rfl rfl ?_; rintro _ _ _ ⟨rfl, rfl, rfl⟩; refine ⟨okF, ?_⟩)
 repeat (refine aX ?_)
 refine aC (by first | exact .inl rfl | exact .inr rfl) rfl rfl _ _ aG aD (⟨rfl, rfl, congrArg Value.bool (fK ⟨fun e => ⟨by omega, hc.1 e⟩, fun e => hc.2 e.2⟩)⟩)
theorem zO {r : RW} (hl : r.g1.length ≤ 1000000000 ∧ r.g2.length ≤ 1000000000) (h : Hv I0 (isW r)) :
  CD Tryz.prog 129 [wv r] X w0 M0 I0 (fun v M I => M0 = M ∧ I0 = I ∧ v = .bool (B r.good)) := by
 refine aBL h (fun hf => ?_)
 obtain ⟨n1, p1, g1, c1, n2, p2, g2, c2⟩ := r
 simp only at hl
 by_cases k1 : rW n1 g1
 ·by_cases k2 : rW n2 g2
  ·obtain ⟨a1, a2⟩ := wL k1 hf.u1
   obtain ⟨b1, b2⟩ := wL k2 hf.u2
   have hg : (RW.mk n1 p1 g1 c1 n2 p2 g2 c2).good ↔ (0 < zI n2 g2 ∧ Int.gcd (zI n1 g1) (zI n2 g2) = 1) := ⟨fun h => h.2.2, fun h => ⟨k1, k2, h⟩⟩
   rw [fK hg]
   generalize zI n1 g1 = y at *
   generalize zI n2 g2 = z at *
   subst a1; subst a2; subst b1; subst b2
   refine wM (p := p1) (c := c1) (z := y) (k := 30000000000) (List.Mem.head _) hf.k1 (by omega) ?_
   refine wM (p := p2) (c := c2) (z := z) (k := 30000000000) (List.Mem.tail _ (List.Mem.tail _ (List.Mem.head _))) hf.k2 (by omega) ?_
   exact aJT (by omega) (List.Mem.tail _ (List.Mem.head _)) (List.Mem.head _)
  ·have hg : ¬ (RW.mk n1 p1 g1 c1 n2 p2 g2 c2).good := fun h => k2 h.2.1
   rw [aP hg]
   have hV1 := fun M0 I0 => uP (X := X) (w0 := w0) (M0 := M0) (I0 := I0) (neg := n1) (q := p1) (gs := g1) (c := c1) hf.l1
   have hV2 := fun M0 I0 => uP (X := X) (w0 := w0) (M0 := M0) (I0 := I0) (neg := n2) (q := p2) (gs := g2) (c := c2) hf.l2
   rw [aU k1] at hV1
   rw [aP k2] at hV2
   refine bC Tryz.func129 rfl Tryz.ntmps129 rfl ?_
   refine aJ ?_
   refine aH ?_
   (refine aM rfl rfl rfl ?_; intro b; refine ⟨okF, ?_⟩)
   repeat (refine aX ?_)
   (refine aA rfl (hV1 _ _ aB) rfl rfl ?_; rintro _ _ _ ⟨rfl, rfl, rfl⟩; refine ⟨okF, ?_⟩)
   repeat (refine aX ?_)
   (refine aA rfl (hV2 _ _ aB) rfl rfl ?_; rintro _ _ _ ⟨rfl, rfl, rfl⟩; refine ⟨okF, ?_⟩)
   repeat (refine aX ?_)
   refine aC (by first | exact .inl rfl | exact .inr rfl) rfl rfl _ _ aG aD (⟨rfl, rfl, rfl⟩)
 ·have hg : ¬ (RW.mk n1 p1 g1 c1 n2 p2 g2 c2).good := fun h => k1 h.1
  rw [aP hg]
  have hV1 := fun M0 I0 => uP (X := X) (w0 := w0) (M0 := M0) (I0 := I0) (neg := n1) (q := p1) (gs := g1) (c := c1) hf.l1
  rw [aP k1] at hV1
  refine bC Tryz.func129 rfl Tryz.ntmps129 rfl ?_
  refine aJ ?_
  refine aH ?_
  (refine aM rfl rfl rfl ?_; intro b; refine ⟨okF, ?_⟩)
  repeat (refine aX ?_)
  (refine aA rfl (hV1 _ _ aB) rfl rfl ?_; rintro _ _ _ ⟨rfl, rfl, rfl⟩; refine ⟨okF, ?_⟩)
  repeat (refine aX ?_)
  refine aC (by first | exact .inl rfl | exact .inr rfl) rfl rfl _ _ aG aD (⟨rfl, rfl, rfl⟩)
theorem aJI {r : RW} (hl : r.g1.length ≤ 1000000000 ∧ r.g2.length ≤ 1000000000) (h : Hv I0 (isW r)) :
  CD Tryz.prog 86 [wv r] X w0 M0 I0 (fun v M I => M0 = M ∧ I0 = I ∧ v = .bool (B r.good)) := by
 refine aBL h (fun hf => ?_)
 obtain ⟨n1, p1, g1, c1, n2, p2, g2, c2⟩ := r
 simp only at hl
 by_cases k1 : rW n1 g1
 ·by_cases k2 : rW n2 g2
  ·obtain ⟨a1, a2⟩ := wL k1 hf.u1
   obtain ⟨b1, b2⟩ := wL k2 hf.u2
   have hg : (RW.mk n1 p1 g1 c1 n2 p2 g2 c2).good ↔ (0 < zI n2 g2 ∧ Int.gcd (zI n1 g1) (zI n2 g2) = 1) := ⟨fun h => h.2.2, fun h => ⟨k1, k2, h⟩⟩
   rw [fK hg]
   generalize zI n1 g1 = y at *
   generalize zI n2 g2 = z at *
   subst a1; subst a2; subst b1; subst b2
   refine wM (p := p1) (c := c1) (z := y) (k := 30000000000) (List.Mem.head _) hf.k1 (by omega) ?_
   refine wM (p := p2) (c := c2) (z := z) (k := 30000000000) (List.Mem.tail _ (List.Mem.tail _ (List.Mem.head _))) hf.k2 (by omega) ?_
   exact aIM (by omega) (List.Mem.tail _ (List.Mem.head _)) (List.Mem.head _)
  ·have hg : ¬ (RW.mk n1 p1 g1 c1 n2 p2 g2 c2).good := fun h => k2 h.2.1
   rw [aP hg]
   have hV1 := fun M0 I0 => sK (X := X) (w0 := w0) (M0 := M0) (I0 := I0) (neg := n1) (q := p1) (gs := g1) (c := c1) hf.l1
   have hV2 := fun M0 I0 => sK (X := X) (w0 := w0) (M0 := M0) (I0 := I0) (neg := n2) (q := p2) (gs := g2) (c := c2) hf.l2
   rw [aU k1] at hV1
   rw [aP k2] at hV2
   refine bC Tryz.func86 rfl Tryz.ntmps86 rfl ?_
   refine aJ ?_
   refine aH ?_
   (refine aM rfl rfl rfl ?_; intro b; refine ⟨okF, ?_⟩)
   repeat (refine aX ?_)
   (refine aA rfl (hV1 _ _ aB) rfl rfl ?_; rintro _ _ _ ⟨rfl, rfl, rfl⟩; refine ⟨okF, ?_⟩)
   repeat (refine aX ?_)
   (refine aA rfl (hV2 _ _ aB) rfl rfl ?_; rintro _ _ _ ⟨rfl, rfl, rfl⟩; refine ⟨okF, ?_⟩)
   repeat (refine aX ?_)
   refine aC (by first | exact .inl rfl | exact .inr rfl) rfl rfl _ _ aG aD (⟨rfl, rfl, rfl⟩)
 ·have hg : ¬ (RW.mk n1 p1 g1 c1 n2 p2 g2 c2).good := fun h => k1 h.1
  rw [aP hg]
  have hV1 := fun M0 I0 => sK (X := X) (w0 := w0) (M0 := M0) (I0 := I0) (neg := n1) (q := p1) (gs := g1) (c := c1) hf.l1
  rw [aP k1] at hV1
  refine bC Tryz.func86 rfl Tryz.ntmps86 rfl ?_
  refine aJ ?_
  refine aH ?_
  (refine aM rfl rfl rfl ?_; intro b; refine ⟨okF, ?_⟩)
  repeat (refine aX ?_)
  (refine aA rfl (hV1 _ _ aB) rfl rfl ?_; rintro _ _ _ ⟨rfl, rfl, rfl⟩; refine ⟨okF, ?_⟩)
  repeat (refine aX ?_)
  refine aC (by first | exact .inl rfl | exact .inr rfl) rfl rfl _ _ aG aD (⟨rfl, rfl, rfl⟩)
end
end Go.Proofs.YtgeagiikkeiioaaGreat
namespace Go.Proofs.YtgeagiikkeiioaaGreat
open Go Go.Fx
structure V2 where
 x : Rat
 y : Rat
deriving DecidableEq
namespace V2
def sub (a b : V2) : V2 := ⟨a.x - b.x, a.y - b.y⟩
def add (a b : V2) : V2 := ⟨a.x + b.x, a.y + b.y⟩
def dot (a b : V2) : Rat := a.x * b.x + a.y * b.y
def crs (a b : V2) : Rat := a.x * b.y - a.y * b.x
def scl (a : V2) (k : Rat) : V2 := ⟨k * a.x, k * a.y⟩
def sd (a : V2) : V2 := ⟨a.y, -a.x⟩
def z0 (a : V2) : Prop := a.x = 0 ∧ a.y = 0
instance (a : V2) : Decidable a.z0 := by unfold z0; exact inferInstance
end V2
def ahd (c f p : V2) : Rat := (p.sub c).dot f
def slp (c f p : V2) : Rat := (p.sub c).dot f.sd / ahd c f p
def cnA (own org : Rat) : Rat := own - org
def cnB (p : V2) (own org : Rat) : V2 := ((p.sd).scl (-(1 + own * org))).sub (p.scl (own - org))
def mtZ (a0 a1 : Rat) (b0 b1 : V2) : V2 := ((b0.sd).scl a1).sub ((b1.sd).scl a0)
def mtC (a0 a1 : Rat) (b0 b1 : V2) : V2 := (mtZ a0 a1 b0 b1).scl (b0.crs b1 / (mtZ a0 a1 b0 b1).dot (mtZ a0 a1 b0 b1))
end Go.Proofs.YtgeagiikkeiioaaGreat
