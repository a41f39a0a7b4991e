/- fiducialref02: Add, Sub, Mul, Divide, Compare, Same Matrices in memory; made matrix: unit, quotient, subtract Matrices: elimination as a function on lists; one or two rows brought to the front. -/
import Derived.Test.YtjbhdfpjnjedhaaGreatZpaw
import Derived.Test.YtjbhdfpjnjedhaaGreatZpar
import Derived.Test.YtjbhdfpjnjedhaaGreatZpam
set_option linter.unusedSimpArgs false
set_option linter.unusedVariables false
set_option maxRecDepth 100000
set_option maxHeartbeats 4000000
namespace Go.Proofs.YtjbhdfpjnjedhaaGreat
open Go Go.Fx
theorem aGY {n d : Int} (hd : 0 < d) : (Rat.divInt n d).num.sign = n.sign := by
 obtain ⟨m, hm, h1, h2, h3, h4⟩ := vE (n := n) (d := d) (by omega)
 have hm0 : 0 < m := by
  rcases Int.lt_trichotomy m 0 with h | h | h
  ·have := h4.1 h; omega
  ·exact absurd h hm
  ·exact h
 have : n.sign = ((Rat.divInt n d).num * m).sign := congrArg Int.sign h1
 rw [this, Int.sign_mul, Int.sign_eq_one_of_pos hm0, Int.mul_one]
theorem aRJ (p q : Rat) : (p - q).num.sign = xU p q := by
 rw [Rat.sub_eq_add_neg, vQ, aGY (by rw [Rat.neg_den]; exact Int.mul_pos (xA p) (xA q)), Rat.neg_num, Rat.neg_den, Int.neg_mul, ← Int.sub_eq_add_neg, aKO]
 rfl
section
variable {X : List Nat} {w0 : World} {M0 : List Ent} {I0 : List aY}
theorem rG {a b : RE} {k m : Nat} (hk : k + m + 1 ≤ 100000000000) (ha : Hv I0 (bS a k)) (hb : Hv I0 (bS b m)) :
  CD Tryz.prog 81 [rv a, rv b] X w0 M0 I0 (RQ (a.q + b.q) (k + m + 1) M0 I0) := by
 have hM1 := fun u v M0 I0 => qB (X := X) (w0 := w0) (M0 := M0) (I0 := I0) (u := u) (v := v) (y := a.q.num) (z := b.q.den) (k0 := k) (m0 := m) (by omega)
 have hM2 := fun u v M0 I0 => qB (X := X) (w0 := w0) (M0 := M0) (I0 := I0) (u := u) (v := v) (y := b.q.num) (z := a.q.den) (k0 := m) (m0 := k) (by omega)
 have hM3 := fun u v M0 I0 => qB (X := X) (w0 := w0) (M0 := M0) (I0 := I0) (u := u) (v := v) (y := a.q.den) (z := b.q.den) (k0 := k) (m0 := m) (by omega)
 have hA := fun u v M0 I0 => aKQ (X := X) (w0 := w0) (M0 := M0) (I0 := I0) (u := u) (v := v) (y := a.q.num * b.q.den) (z := b.q.num * a.q.den) (k := k + m) (m := m + k) (c := k + m + 1) (by omega) (by omega) (by omega) (aKN k m)
 have hR := fun u v M0 I0 => tK (X := X) (w0 := w0) (M0 := M0) (I0 := I0) (u := u) (v := v) (n := a.q.num * b.q.den + b.q.num * a.q.den) (d := a.q.den * b.q.den) (k := k + m + 1) (by omega) (sH _ _)
 rw [← vQ] at hR
 refine aX Tryz.func81 rfl Tryz.ntmps81 rfl ?_
 refine aG ?_
 refine aJ ?_
 (refine aR rfl rfl rfl ?_; intro b1; refine ⟨okF, ?_⟩)
 (refine aR rfl rfl rfl ?_; intro b2; refine ⟨okF, ?_⟩)
 (refine aI rfl rfl ?_; intro b3; refine ⟨okF, ?_⟩)
 repeat (refine aV ?_)
 (refine aA rfl (lI (k := k) (by omega) ha) rfl rfl ?_; rintro _ _ _ ⟨rfl, rfl, rfl⟩; refine ⟨okF, ?_⟩)
 (refine aI rfl rfl ?_; intro b4; refine ⟨okF, ?_⟩)
 repeat (refine aV ?_)
 (refine aA rfl (lI (k := m) (by omega) hb) rfl rfl ?_; rintro _ _ _ ⟨rfl, rfl, rfl⟩; refine ⟨okF, ?_⟩)
 (refine aI rfl rfl ?_; intro b5; refine ⟨okF, ?_⟩)
 refine iH (e := a) (k := k) ha ?_
 refine iH (e := b) (k := m) hb.cons.cons ?_
 repeat (refine aV ?_)
 (repeat refine aG ?_); refine bZ (.blk b5 (eR b) 50 :: .blk b4 (eR a) 50 :: M0) (I0) [0, 1, 2, 3, 5, 6, 7, 8, 11, 12, 13, 14, 4, 9, 10, 15, 16, 17] [5, 4, 5, 4, 5, 4, 5, 4, 5, 4, 5, 4, 0, 0, 0, 0, 0, 0] aD aC mixed (by kernel_rfl) ?_
 repeat (refine aV ?_)
 (refine aA rfl (hM1 _ _ _ _ aB aB) rfl rfl ?_; rintro _ _ _ ⟨rfl, rfl⟩; refine ⟨okF, ?_⟩)
 (refine aA rfl (hM2 _ _ _ _ aB aB) rfl rfl ?_; rintro _ _ _ ⟨rfl, rfl⟩; refine ⟨okF, ?_⟩)
 (refine aA rfl (hA _ _ _ _ aB aB) rfl rfl ?_; rintro _ _ _ ⟨rfl, rfl⟩; refine ⟨okF, ?_⟩)
 (refine aA rfl (hM3 _ _ _ _ aB aB) rfl rfl ?_; rintro _ _ _ ⟨rfl, rfl⟩; refine ⟨okF, ?_⟩)
 refine aFZ (k2 := k + m + 1) (List.Mem.head _) (by omega) ?_
 (refine aA rfl (hR _ _ _ _ aB aB) rfl rfl ?_; rintro _ _ _ ⟨rfl, e, rfl, he, rfl⟩; refine ⟨okF, ?_⟩)
 repeat (refine aV ?_)
 refine bD (cs := eR e) (.inl rfl) rfl rfl aB rfl M0 (bS e (k + m + 1) :: I0) aD aC ⟨rfl, e, rfl, he, rfl⟩
theorem rA {a b : RE} {k m : Nat} (hk : k + m ≤ 100000000000) (ha : Hv I0 (bS a k)) (hb : Hv I0 (bS b m)) :
  CD Tryz.prog 103 [rv a, rv b] X w0 M0 I0 (RQ (a.q * b.q) (k + m) M0 I0) := by
 have hM1 := fun u v M0 I0 => qB (X := X) (w0 := w0) (M0 := M0) (I0 := I0) (u := u) (v := v) (y := a.q.num) (z := b.q.num) (k0 := k) (m0 := m) (by omega)
 have hM3 := fun u v M0 I0 => qB (X := X) (w0 := w0) (M0 := M0) (I0 := I0) (u := u) (v := v) (y := a.q.den) (z := b.q.den) (k0 := k) (m0 := m) (by omega)
 have hR := fun u v M0 I0 => tK (X := X) (w0 := w0) (M0 := M0) (I0 := I0) (u := u) (v := v) (n := a.q.num * b.q.num) (d := a.q.den * b.q.den) (k := k + m) (by omega) (sH _ _)
 rw [← aBL] at hR
 refine aX Tryz.func103 rfl Tryz.ntmps103 rfl ?_
 refine aG ?_
 refine aJ ?_
 (refine aR rfl rfl rfl ?_; intro b1; refine ⟨okF, ?_⟩)
 (refine aR rfl rfl rfl ?_; intro b2; refine ⟨okF, ?_⟩)
 (refine aI rfl rfl ?_; intro b3; refine ⟨okF, ?_⟩)
 repeat (refine aV ?_)
 (refine aA rfl (lI (k := k) (by omega) ha) rfl rfl ?_; rintro _ _ _ ⟨rfl, rfl, rfl⟩; refine ⟨okF, ?_⟩)
 (refine aI rfl rfl ?_; intro b4; refine ⟨okF, ?_⟩)
 repeat (refine aV ?_)
 (refine aA rfl (lI (k := m) (by omega) hb) rfl rfl ?_; rintro _ _ _ ⟨rfl, rfl, rfl⟩; refine ⟨okF, ?_⟩)
 (refine aI rfl rfl ?_; intro b5; refine ⟨okF, ?_⟩)
 refine iH (e := a) (k := k) ha ?_
 refine iH (e := b) (k := m) hb.cons.cons ?_
 repeat (refine aV ?_)
 (repeat refine aG ?_); refine bZ (.blk b5 (eR b) 50 :: .blk b4 (eR a) 50 :: M0) (I0) [0, 1, 2, 3, 5, 6, 7, 8, 4, 9, 10, 11] [3, 2, 3, 2, 3, 2, 3, 2, 0, 0, 0, 0] aD aC mixed (by kernel_rfl) ?_
 repeat (refine aV ?_)
 (refine aA rfl (hM1 _ _ _ _ aB aB) rfl rfl ?_; rintro _ _ _ ⟨rfl, rfl⟩; refine ⟨okF, ?_⟩)
 (refine aA rfl (hM3 _ _ _ _ aB aB) rfl rfl ?_; rintro _ _ _ ⟨rfl, rfl⟩; refine ⟨okF, ?_⟩)
 (refine aA rfl (hR _ _ _ _ aB aB) rfl rfl ?_; rintro _ _ _ ⟨rfl, e, rfl, he, rfl⟩; refine ⟨okF, ?_⟩)
 repeat (refine aV ?_)
 refine bD (cs := eR e) (.inl rfl) rfl rfl aB rfl M0 (bS e (k + m) :: I0) aD aC ⟨rfl, e, rfl, he, rfl⟩
theorem aGR {a b : RE} {k m : Nat} (hk : k + m + 1 ≤ 100000000000) (ha : Hv I0 (bS a k)) (hb : Hv I0 (bS b m)) :
  CD Tryz.prog 69 [rv a, rv b] X w0 M0 I0 (RQ (a.q - b.q) (k + m + 1) M0 I0) := by
 refine aX Tryz.func69 rfl Tryz.ntmps69 rfl ?_
 refine aG ?_
 refine aJ ?_
 (refine aR rfl rfl rfl ?_; intro b1; refine ⟨okF, ?_⟩)
 (refine aR rfl rfl rfl ?_; intro b2; refine ⟨okF, ?_⟩)
 (refine aI rfl rfl ?_; intro b3; refine ⟨okF, ?_⟩)
 repeat (refine aV ?_)
 (repeat refine aG ?_); refine bG 1 [0, 1, 2, 3, 4] [1, 1, 0, 0, 0] mixed (by kernel_rfl) ?_
 repeat (refine aV ?_)
 (refine aA rfl (aBE (k := m) (by omega) hb) rfl rfl ?_; rintro _ _ _ ⟨rfl, y, rfl, hy, rfl⟩; refine ⟨okF, ?_⟩)
 rw [Rat.sub_eq_add_neg, ← hy]
 (refine aA rfl (rG hk ha.cons (Hv.mem (List.Mem.head _))) rfl rfl ?_; rintro _ _ _ ⟨rfl, e, rfl, he, rfl⟩; refine ⟨okF, ?_⟩)
 repeat (refine aV ?_)
 refine bD (cs := eR e) (.inl rfl) rfl rfl aB rfl M0 (bS e (k + m + 1) :: I0) aD aC ⟨rfl, e, rfl, he, rfl⟩
theorem aTZ {u v : Value} {n d : Int} {k : Nat} (hk : k ≤ 150000000000) (hd0 : d ≠ 0) (hu : iI u n k ∈ I0) (hv : iI v d k ∈ I0) :
  CD Tryz.prog 122 [u, v] X w0 M0 I0 (RQc (Rat.divInt n d) k M0 I0) := by
 have hs0 : ¬ d.sign = 0 := fun h => hd0 (Int.sign_eq_zero_iff_zero.1 h)
 have hS := fun M0 I0 => qU (X := X) (w0 := w0) (M0 := M0) (I0 := I0) (u := v) (z := d) (k := k) (by omega)
 have hR := fun M0 I0 => tK (X := X) (w0 := w0) (M0 := M0) (I0 := I0) (u := u) (v := v) (n := n) (d := d) (k := k) (by omega) hd0
 generalize d.sign = sd at *
 refine CD.post (K := fun v M I => ∃ q q', RQc (Rat.divInt n d) k M0 (aO q' (recs eG (gr d.natAbs)) :: aO q (recs eG (gr n.natAbs)) :: I0) v M I) (dE hu (fun q cq e hc hy => ?_)) (fun v M I w h hw => ?_)
 case refine_2 =>
  obtain ⟨q, q', e1, e2, h2, h3, h4⟩ := h
  subst e1; subst h4
  exact ⟨_, _, ⟨rfl, e2, h2, h3, rfl⟩, hw.inc (Inc.cons (List.Mem.head _) (Inc.wk (Inc.wk (Inc.wk Inc.refl))))⟩
 subst e
 refine dE (List.Mem.tail _ hv) (fun q' cq' e hc' hz => ?_)
 subst e
 unfold iv at *
 refine aX Tryz.func122 rfl Tryz.ntmps122 rfl ?_
 refine aG ?_
 refine aJ ?_
 (refine aR rfl rfl rfl ?_; intro b1; refine ⟨okF, ?_⟩)
 (refine aR rfl rfl rfl ?_; intro b2; refine ⟨okF, ?_⟩)
 (refine aI rfl rfl ?_; intro b3; refine ⟨okF, ?_⟩)
 repeat (refine aV ?_)
 (refine aA rfl (hS _ _ aB) rfl rfl ?_; rintro _ _ _ ⟨rfl, rfl, rfl⟩; refine ⟨okF, ?_⟩)
 repeat (refine aV ?_)
 (refine aA rfl (hR _ _ aB aB) rfl rfl ?_; rintro _ _ _ ⟨rfl, e, rfl, he, rfl⟩; refine ⟨okF, ?_⟩)
 repeat (refine aV ?_)
 refine fO (rs := [.cell 4 50, .tmp 5]) (vs := [rv e, .int .i64 0]) (.inl rfl) rfl (.cellN (cs := eR e) inferInstance rfl aB rfl (.tmp rfl .nil)) rfl M0 (bS e k :: aO q' (recs eG (gr d.natAbs)) :: aO q (recs eG (gr n.natAbs)) :: I0) aD aC ⟨q, q', rfl, e, rfl, he, rfl⟩
theorem aGH {a b : RE} {k m : Nat} (hk : k + m ≤ 100000000000) (hb0 : b.q ≠ 0) (ha : Hv I0 (bS a k)) (hb : Hv I0 (bS b m)) :
  CD Tryz.prog 75 [rv a, rv b] X w0 M0 I0 (RQc (a.q / b.q) (k + m) M0 I0) := by
 have hM1 := fun u v M0 I0 => qB (X := X) (w0 := w0) (M0 := M0) (I0 := I0) (u := u) (v := v) (y := a.q.num) (z := b.q.den) (k0 := k) (m0 := m) (by omega)
 have hM3 := fun u v M0 I0 => qB (X := X) (w0 := w0) (M0 := M0) (I0 := I0) (u := u) (v := v) (y := a.q.den) (z := b.q.num) (k0 := k) (m0 := m) (by omega)
 have hR := fun u v M0 I0 => aTZ (X := X) (w0 := w0) (M0 := M0) (I0 := I0) (u := u) (v := v) (n := a.q.num * b.q.den) (d := a.q.den * b.q.num) (k := k + m) (by omega) (aBJ hb0)
 rw [← aAX] at hR
 refine aX Tryz.func75 rfl Tryz.ntmps75 rfl ?_
 refine aG ?_
 refine aJ ?_
 (refine aR rfl rfl rfl ?_; intro b1; refine ⟨okF, ?_⟩)
 (refine aR rfl rfl rfl ?_; intro b2; refine ⟨okF, ?_⟩)
 (refine aI rfl rfl ?_; intro b3; refine ⟨okF, ?_⟩)
 repeat (refine aV ?_)
 (refine aA rfl (lI (k := k) (by omega) ha) rfl rfl ?_; rintro _ _ _ ⟨rfl, rfl, rfl⟩; refine ⟨okF, ?_⟩)
 (refine aI rfl rfl ?_; intro b4; refine ⟨okF, ?_⟩)
 repeat (refine aV ?_)
 (refine aA rfl (lI (k := m) (by omega) hb) rfl rfl ?_; rintro _ _ _ ⟨rfl, rfl, rfl⟩; refine ⟨okF, ?_⟩)
 (refine aI rfl rfl ?_; intro b5; refine ⟨okF, ?_⟩)
 refine iH (e := a) (k := k) ha ?_
 refine iH (e := b) (k := m) hb.cons.cons ?_
 repeat (refine aV ?_)
 (repeat refine aG ?_); refine bZ (.blk b5 (eR b) 50 :: .blk b4 (eR a) 50 :: M0) (I0) [0, 1, 2, 3, 5, 6, 7, 8, 4, 9, 10, 11, 12, 13, 14] [3, 2, 3, 2, 3, 2, 3, 2, 0, 0, 0, 0, 0, 0, 0] aD aC mixed (by kernel_rfl) ?_
 repeat (refine aV ?_)
 (refine aA rfl (hM1 _ _ _ _ aB aB) rfl rfl ?_; rintro _ _ _ ⟨rfl, rfl⟩; refine ⟨okF, ?_⟩)
 (refine aA rfl (hM3 _ _ _ _ aB aB) rfl rfl ?_; rintro _ _ _ ⟨rfl, rfl⟩; refine ⟨okF, ?_⟩)
 (refine aA rfl (hR _ _ _ _ aB aB) rfl rfl ?_; rintro _ _ _ ⟨rfl, e, rfl, he, rfl⟩; refine ⟨okF, ?_⟩)
 repeat (refine aV ?_)
 refine fO (rs := [.cell 4 50, .tmp 5]) (vs := [rv e, .int .i64 0]) (.inl rfl) rfl (.cellN (cs := eR e) inferInstance rfl aB rfl (.tmp rfl .nil)) rfl M0 (bS e (k + m) :: I0) aD aC ⟨rfl, e, rfl, he, rfl⟩
theorem oZ {a b : RE} {k m : Nat} (hk : k + m + 1 ≤ 100000000000) (ha : Hv I0 (bS a k)) (hb : Hv I0 (bS b m)) :
  CD Tryz.prog 42 [rv a, rv b] X w0 M0 I0 (fun v M I => M0 = M ∧ I0 = I ∧ v = .int .i64 (xU a.q b.q)) := by
 refine aX Tryz.func42 rfl Tryz.ntmps42 rfl ?_
 refine aG ?_
 refine aJ ?_
 (refine aR rfl rfl rfl ?_; intro b1; refine ⟨okF, ?_⟩)
 (refine aR rfl rfl rfl ?_; intro b2; refine ⟨okF, ?_⟩)
 repeat (refine aV ?_)
 (refine aA rfl (aGR hk ha hb) rfl rfl ?_; rintro _ _ _ ⟨rfl, e, rfl, he, rfl⟩; refine ⟨okF, ?_⟩)
 (refine aA rfl (uG (k := k + m + 1) (by omega) (Hv.mem (List.Mem.head _))) rfl rfl ?_; rintro _ _ _ ⟨rfl, rfl, rfl⟩; refine ⟨okF, ?_⟩)
 repeat (refine aV ?_)
 refine aH (by first | exact .inl rfl | exact .inr rfl) rfl rfl _ _ aD aC (⟨rfl, rfl, by rw [he, aRJ]⟩)
theorem aPY {a b : RE} {k m : Nat} (hk : k + m + 1 ≤ 100000000000) (ha : Hv I0 (bS a k)) (hb : Hv I0 (bS b m)) :
  CD Tryz.prog 33 [rv a, rv b] X w0 M0 I0 (fun v M I => M0 = M ∧ I0 = I ∧ v = .bool (B (a.q = b.q))) := by
 refine aX Tryz.func33 rfl Tryz.ntmps33 rfl ?_
 refine aG ?_
 refine aJ ?_
 (refine aR rfl rfl rfl ?_; intro b1; refine ⟨okF, ?_⟩)
 (refine aR rfl rfl rfl ?_; intro b2; refine ⟨okF, ?_⟩)
 repeat (refine aV ?_)
 (refine aA rfl (vT (k := k) (by omega) ha) rfl rfl ?_; rintro _ _ _ ⟨rfl, rfl, rfl⟩; refine ⟨okF, ?_⟩)
 repeat (refine aV ?_)
 (refine aA rfl (vT (k := m) (by omega) hb) rfl rfl ?_; rintro _ _ _ ⟨rfl, rfl, rfl⟩; refine ⟨okF, ?_⟩)
 repeat (refine aV ?_)
 (refine aA rfl (oZ hk ha hb) rfl rfl ?_; rintro _ _ _ ⟨rfl, rfl, rfl⟩; refine ⟨okF, ?_⟩)
 repeat (refine aV ?_)
 refine aH (by first | exact .inl rfl | exact .inr rfl) rfl rfl _ _ aD aC (⟨rfl, rfl, congrArg Value.bool (gY aST)⟩)
end
end Go.Proofs.YtjbhdfpjnjedhaaGreat
namespace Go.Proofs.YtjbhdfpjnjedhaaGreat
open Go Go.Fx
structure C4 where
 a : Value
 b : Value
 c : Value
 d : Value
abbrev e4 (x : C4) : List Value := [x.a, x.b, x.c, x.d]
instance : Inhabited C4 := ⟨⟨.bool false, .slice none 0 0, .bool false, .slice none 0 0⟩⟩
instance : Sized e4 4 := ⟨fun _ => rfl⟩
abbrev z4 : C4 := ⟨.bool false, .slice none 0 0, .bool false, .slice none 0 0⟩
abbrev t4 (e : RE) : C4 := ⟨.bool (B (e.q.num < 0)), .slice e.p1 (gr e.q.num.natAbs).length e.c1, .bool (B ((e.q.den : Int) < 0)), .slice e.p2 (gr (e.q.den : Int).natAbs).length e.c2⟩
theorem aEP (es : List RE) : recs e4 (es.map t4) = recs eR es := by
 induction es with
 | nil => rfl
 | cons x r ih =>
  have h1 : recs e4 ((x :: r).map t4) = e4 (t4 x) ++ recs e4 (r.map t4) := rfl
  have h2 : recs eR (x :: r) = eR x ++ recs eR r := rfl
  rw [h1, h2, ih]
structure HD where
 p : Option Addr
 n : Nat
 c : Nat
instance : Inhabited HD := ⟨⟨none, 0, 0⟩⟩
abbrev eH (h : HD) : List Value := [.slice h.p h.n h.c]
instance : Sized eH 1 := ⟨fun _ => rfl⟩
structure MR where
 b : Nat
 es : List RE
instance : Inhabited MR := ⟨⟨0, []⟩⟩
abbrev hdM (r : MR) : HD := ⟨some ⟨r.b, 0, none⟩, r.es.length, r.es.length⟩
abbrev eM (r : MR) : List Value := [.slice (some ⟨r.b, 0, none⟩) r.es.length r.es.length]
instance : Sized eM 1 := ⟨fun _ => rfl⟩
abbrev fM (r : MR) : Ent := .blk r.b (recs eR r.es) 50
theorem aQN (rows : List MR) : recs eH (rows.map hdM) = recs eM rows := by
 induction rows with
 | nil => rfl
 | cons x r ih =>
  have h1 : recs eH ((x :: r).map hdM) = eH (hdM x) ++ recs eH (r.map hdM) := rfl
  have h2 : recs eM (x :: r) = eM x ++ recs eM r := rfl
  rw [h1, h2, ih]
structure AllM (rows : List MR) (k : Nat) (X : List Nat) (w : World) : Prop where
 go : ∀ r ∈ rows, ∀ e ∈ r.es, IsR e k X w
abbrev allM (rows : List MR) (k : Nat) : aY := AllM rows k
instance (rows : List MR) (k : Nat) : Fx.Good (AllM rows k) := ⟨fun X Y w w' h he hY => ⟨fun r hr e hm => Fx.Good.go (φ := IsR _ _) X Y w w' (h.go r hr e hm) he hY⟩⟩
theorem Hv.snoc {I : List aY} {es : List RE} {e : RE} {k : Nat} (h1 : cO es k ∈ I) (h2 : bS e k ∈ I) : Hv I (cO (es ++ [e]) k) := ⟨fun X w hw => ⟨fun x hx => by
 rcases List.mem_append.1 hx with hx | hx
 ·exact (hw _ h1 : AllR es k X w).go x hx
 ·rw [List.mem_singleton.1 hx]; exact hw _ h2⟩⟩
theorem Hv.nilR {I : List aY} {k : Nat} : Hv I (cO [] k) := ⟨fun X w _ => ⟨fun x hx => by simp at hx⟩⟩
theorem Hv.nilM {I : List aY} {k : Nat} : Hv I (allM [] k) := ⟨fun X w _ => ⟨fun x hx => by simp at hx⟩⟩
theorem Hv.snocM {I : List aY} {rows : List MR} {r : MR} {k : Nat} (h1 : allM rows k ∈ I) (h2 : cO r.es k ∈ I) : Hv I (allM (rows ++ [r]) k) := ⟨fun X w hw => ⟨fun x hx => by
 rcases List.mem_append.1 hx with hx | hx
 ·exact (hw _ h1 : AllM rows k X w).go x hx
 ·rw [List.mem_singleton.1 hx]; exact (hw _ h2 : AllR r.es k X w).go⟩⟩
theorem aBZ {α : Type} [Inhabited α] {A B : List α} {x : α} {i : Int} (h : i = A.length) : gt (A ++ x :: B) i = x := by
 subst h
 rw [fT (by simp)]
 simp
theorem vX {α : Type} {A B : List α} {x y : α} {i : Int} (h : i = A.length) : st (A ++ x :: B) i y = A ++ y :: B := by
 subst h
 simp [st]
theorem rC {α : Type} {n : Nat} {z : α} (h : 0 < n) : List.replicate n z = z :: List.replicate (n - 1) z := by
 obtain ⟨m, rfl⟩ : ∃ m, n = m + 1 := ⟨n - 1, by omega⟩
 rfl
theorem rX {α : Type} {enc : α → List Value} {sz : Nat} [h : Sized enc sz] (hsz : 0 < sz) (zz : α) (mm : Nat) : (madeCells (enc zz).toArray (mm * sz)).toList = recs enc (List.replicate mm zz) := by
 have hl : (enc zz).length = sz := h.len zz
 apply List.ext_getElem
 ·rw [Array.length_toList, size_madeCells, iL, List.length_replicate]
 ·intro i h1 h2
  rw [Array.length_toList, size_madeCells] at h1
  have hq : i / sz < mm := by rw [Nat.div_lt_iff_lt_mul hsz]; exact h1
  have hr : i % sz < sz := Nat.mod_lt _ hsz
  have hv : (enc zz)[i % sz]? = some ((enc zz)[i % sz]'(by omega)) := List.getElem?_eq_getElem (by omega)
  have := aAE (enc := enc) (List.replicate mm zz) (i / sz) (i % sz) zz _ (by rw [List.getElem?_replicate, if_pos hq]) hv
  rw [Nat.div_add_mod'] at this
  have h3 := (List.getElem?_eq_some_iff.1 this).2
  rw [h3]
  simp [madeCells, hl, hr]
def MkP (R C : Nat) (F : Nat → Nat → Rat) (k : Nat) (M0 : List Ent) (I0 : List aY) (v : Value) (M : List Ent) (I : List aY) : Prop :=
 ∃ (bo : Nat) (rows : List MR), v = .slice (some ⟨bo, 0, none⟩) R R ∧ rows.length = R ∧ (∀ r ∈ rows, r.es.length = C) ∧ (rows.map (fun r => r.es.map (·.q)) = (List.range R).map (fun i => (List.range C).map (F i))) ∧
  M = .blk bo (recs eM rows) 53 :: (rows.map fM ++ M0) ∧ I = allM rows k :: I0
section
variable {P : Program} {n : Nat} {Q : Exit → Act → World → Prop} {G : Env} {X : List Nat} {w0 : World} {M M' : List Ent} {I : List aY}
theorem uD {ex : Exit} (h : M.Perm M') (k : ND n Q ex G X w0 M' I) : ND n Q ex G X w0 M I := yY (fun _ hw => hw.perm h) k
theorem mO {c : Code} (h : M.Perm M') (k : TD P n c Q G X w0 M' I) : TD P n c Q G X w0 M I := yT (fun _ hw => hw.perm h) k
theorem zC {ops l : List Oper} {m : Fx.Mode} (h : M.Perm M') (k : RD P n ops Q m l G X w0 M' I) : RD P n ops Q m l G X w0 M I := sW (fun _ hw => hw.perm h) k
theorem aCZ {x o : Ent} {A B : List Ent} : (x :: o :: (A ++ B)).Perm (o :: ((A ++ [x]) ++ B)) := by
 refine (List.Perm.swap _ _ _).trans (List.Perm.cons _ ?_)
 rw [List.append_assoc]
 exact List.perm_middle.symm
end
section
variable {X : List Nat} {w0 : World} {M0 : List Ent} {I0 : List aY}
theorem aBH {g : FuncId} [FnOk Tryz.prog g] {fs cs : Array Value} {R C k0 : Nat} (hR : R ≤ 100) (hC : C ≤ 200) (F : Nat → Nat → Rat)
  (hg : ∀ M I, (∀ φ ∈ I0, φ ∈ I) → ∀ i j : Nat, i < R → j < C → CD Tryz.prog g (fs.toList ++ [.int .i64 (i : Int), .int .i64 (j : Int)] ++ cs.toList) X w0 M I (RQ (F i j) k0 M I)) :
  CD Tryz.prog 175 [.int .i64 (R : Int), .int .i64 (C : Int), .func (.func g) fs cs] X w0 M0 I0 (MkP R C F k0 M0 I0) := by
 refine jU Tryz.func175 rfl Tryz.ntmps175 rfl ?_
 repeat (refine aV ?_)
 (refine kD (R) rfl rfl (by omega) (by omega) (by omega) (by omega) (rX (enc := eH) (by decide) ⟨none, 0, 0⟩ R) rfl rfl ?_; intro bo; refine ⟨okF, ?_⟩)
 refine dP (φ := allM [] k0) Hv.nilM ?_
 repeat (refine aV ?_)
 refine aT [1, 2, 7, 13] rfl (fun k G M I => ∃ (i : Nat) (rows : List MR), i ≤ R ∧ k = R - i ∧ rows.length = i ∧ (∀ r ∈ rows, r.es.length = C) ∧ (rows.map (fun r => r.es.map (·.q)) = (List.range i).map (fun i => (List.range C).map (F i))) ∧ G = [(14, .int .i64 i)] ∧ M = .blk bo (recs eH (rows.map hdM ++ List.replicate (R - i) ⟨none, 0, 0⟩)) 53 :: (rows.map fM ++ M0) ∧ I = allM rows k0 :: I0) (R) _ _ _ aP aD aC (⟨0, [], by omega, by omega, rfl, by simp, by simp, rfl, rfl, rfl⟩) ?_
 rintro k G M I ⟨i, rows, hi, rfl, hrl, hrc, hrF, rfl, rfl, rfl⟩
 by_cases hiR : i < R
 ·have hz := rC (n := R - i) (z := (⟨none, 0, 0⟩ : HD)) (by omega)
  repeat (refine aV ?_)
  (refine kD (C) rfl rfl (by omega) (by omega) (by omega) (by omega) (rX (enc := e4) (by decide) z4 C) rfl rfl ?_; intro bi; refine ⟨okF, ?_⟩)
  rw [hz]
  have hlh0 : ((rows.map hdM ++ (⟨none, 0, 0⟩ : HD) :: List.replicate (R - i - 1) ⟨none, 0, 0⟩).length : Int) = R := by simp; omega
  repeat (refine yXf ?_)
  refine kI rfl rfl rfl lN (StAt.r1 (⟨some ⟨bi, 0, none⟩, C, C⟩ : HD) (by omega) rfl) rfl rfl ⟨okF, ?_⟩
  rw [vX (by simp; omega)]
  obtain ⟨hs, hhs⟩ : ∃ hs, hs = rows.map hdM ++ (⟨some ⟨bi, 0, none⟩, C, C⟩ : HD) :: List.replicate (R - i - 1) ⟨none, 0, 0⟩ := ⟨_, rfl⟩
  rw [← hhs]
  have hgh : gt hs (i : Int) = ⟨some ⟨bi, 0, none⟩, C, C⟩ := by rw [hhs]; exact aBZ (by simp; omega)
  have hlh : hs.length = R := by rw [hhs]; simp; omega
  have hgp : (gt hs (i : Int)).p = some ⟨bi, 0, none⟩ := by rw [hgh]
  have hgn : (gt hs (i : Int)).n = C := by rw [hgh]
  have hgc : (gt hs (i : Int)).c = C := by rw [hgh]
  repeat (refine aV ?_)
  rw [hgp, hgn, hgc]
  refine iB (φ := cO [] k0) Hv.nilR ?_
  refine aT [1, 2, 7, 8, 13, 14, 26] rfl (fun k G M I => ∃ (j : Nat) (es : List RE), j ≤ C ∧ k = C - j ∧ es.length = j ∧ es.map (·.q) = (List.range j).map (F i) ∧ G = [(27, .int .i64 j)] ∧ M = .blk bi (recs e4 (es.map t4 ++ List.replicate (C - j) z4)) 50 :: .blk bo (recs eH hs) 53 :: (rows.map fM ++ M0) ∧ I = cO es k0 :: allM rows k0 :: I0) (C) _ _ _ aP aD aC (⟨0, [], by omega, by omega, rfl, rfl, rfl, rfl, rfl⟩) ?_
  rintro k G M I ⟨j, es, hj, rfl, hel, heF, rfl, rfl, rfl⟩
  by_cases hjC : j < C
  ·have hz2 := rC (n := C - j) (z := z4) (by omega)
   rw [hz2]
   have hl2 : ((es.map t4 ++ z4 :: List.replicate (C - j - 1) z4).length : Int) = C := by simp; omega
   repeat (refine aV ?_)
   (repeat refine aG ?_); refine bG 1 [0, 1, 2, 3, 4, 5, 6, 7, 8, 9, 10] [1, 1, 1, 1, 1, 0, 0, 0, 0, 0, 0] mixed (by kernel_rfl) ?_
   repeat (refine aV ?_)
   rw [hgp, hgn, hgc]
   (refine fD rfl rfl (hg _ _ (fun φ h => List.Mem.tail _ (List.Mem.tail _ h)) i j hiR hjC) rfl rfl rfl ?_; rintro _ _ _ ⟨rfl, e, rfl, he, rfl⟩; refine ⟨okF, ?_⟩)
   repeat (refine yXf ?_)
   refine iC (vs := eR e) rfl rfl rfl (Ones.one e) lN (StAts.r (t4 e) (by omega) rfl) rfl rfl ⟨okF, ?_⟩
   rw [vX (by simp; omega)]
   repeat (refine aV ?_)
   refine gV (φ := cO (es ++ [e]) k0) (Hv.snoc aB aB) ?_
   have e9 : es.map t4 ++ t4 e :: List.replicate (C - j - 1) z4 = (es ++ [e]).map t4 ++ List.replicate (C - (j + 1)) z4 := by simp [Nat.sub_sub]
   rw [e9]
   refine aL (C - (j + 1)) _ _ _ (by first | omega | (simp only [List.length_append, List.length_cons, List.length_nil]; omega)) aP aD aC (⟨j + 1, es ++ [e], by omega, rfl, by simp; omega, by simp [heF, List.range_succ, he], rfl, rfl, rfl⟩)
  ·obtain rfl : j = C := by omega
   rw [Nat.sub_self, List.replicate_zero, List.append_nil, aEP]
   have e8 : hs = (rows ++ [(⟨bi, es⟩ : MR)]).map hdM ++ List.replicate (R - (i + 1)) ⟨none, 0, 0⟩ := by rw [hhs]; simp [hel, Nat.sub_sub]
   repeat (refine aV ?_)
   rw [e8]
   refine gV (φ := allM (rows ++ [(⟨bi, es⟩ : MR)]) k0) (Hv.snocM aB aB) ?_
   refine uD (M' := .blk bo (recs eH ((rows ++ [(⟨bi, es⟩ : MR)]).map hdM ++ List.replicate (R - (i + 1)) ⟨none, 0, 0⟩)) 53 :: ((rows ++ [(⟨bi, es⟩ : MR)]).map fM ++ M0)) (by rw [List.map_append (f := fM)]; exact aCZ) ?_
   refine aL (R - (i + 1)) _ _ _ (by first | omega | (simp only [List.length_append, List.length_cons, List.length_nil]; omega)) aP aD aC (⟨i + 1, rows ++ [(⟨bi, es⟩ : MR)], by omega, rfl, by simp; omega, fun r hr => by rcases List.mem_append.1 hr with h | h; exact hrc r h; rw [List.mem_singleton.1 h]; exact hel, by rw [List.map_append, hrF, List.range_succ, List.map_append]; simp [heF], rfl, rfl, rfl⟩)
 ·obtain rfl : i = R := by omega
  have hz : List.replicate (i - i) (⟨none, 0, 0⟩ : HD) = [] := by rw [Nat.sub_self]; rfl
  rw [hz, List.append_nil, aQN]
  repeat (refine aV ?_)
  refine aH (by first | exact .inl rfl | exact .inr rfl) rfl rfl _ _ aD aC (⟨bo, rows, rfl, hrl, hrc, hrF, rfl, rfl⟩)
end
end Go.Proofs.YtjbhdfpjnjedhaaGreat
namespace Go.Proofs.YtjbhdfpjnjedhaaGreat
open Go Go.Fx
theorem oO (q : Rat) : q.num.sign = 0 ↔ q = 0 := ⟨fun h => Rat.num_eq_zero.1 (Int.sign_eq_zero_iff_zero.1 h), fun h => by rw [h]; rfl⟩
theorem Hv.stR {I : List aY} {es : List RE} {e : RE} {i : Int} {k : Nat} (h1 : cO es k ∈ I) (h2 : bS e k ∈ I) : Hv I (cO (st es i e) k) := ⟨fun X w hw => ⟨fun x hx => by
 rcases List.mem_or_eq_of_mem_set hx with hx | hx
 ·exact (hw _ h1 : AllR es k X w).go x hx
 ·rw [hx]; exact hw _ h2⟩⟩
theorem aAK {es : List RE} {e : RE} {i t : Nat} (hi : i < es.length) : gt (st es (i : Int) e) (t : Int) = if t = i then e else gt es (t : Int) := by
 rw [aPU e ⟨by omega, by omega⟩ (by omega)]
 by_cases h : t = i
 ·rw [if_pos h, if_pos (by omega)]
 ·rw [if_neg h, if_neg (by omega)]
section
variable {X : List Nat} {w0 : World} {M0 : List Ent} {I0 : List aY}
theorem aTI {i j : Int} : CD Tryz.prog 176 [.int .i64 i, .int .i64 j] X w0 M0 I0 (RQ (if i = j then 1 else 0) 0 M0 I0) := by
 have h1 := fun M0 I0 => rO (X := X) (w0 := w0) (M0 := M0) (I0 := I0) (x := 1) (by decide) (k := 0) (by decide)
 have h0 := fun M0 I0 => rO (X := X) (w0 := w0) (M0 := M0) (I0 := I0) (x := 0) (by decide) (k := 0) (by decide)
 refine aX Tryz.func176 rfl Tryz.ntmps176 rfl ?_
 refine aG ?_
 refine aJ ?_
 (refine aI rfl rfl ?_; intro b2; refine ⟨okF, ?_⟩)
 by_cases h : i = j
 ·rw [if_pos h]
  repeat (refine aV ?_)
  (refine aA rfl (h1 _ _) rfl rfl ?_; rintro _ _ _ ⟨rfl, e, rfl, he, rfl⟩; refine ⟨okF, ?_⟩)
  repeat (refine aV ?_)
  refine bD (cs := eR e) (.inl rfl) rfl rfl aB rfl M0 (bS e 0 :: I0) aD aC ⟨rfl, e, rfl, he, rfl⟩
 ·rw [if_neg h]
  repeat (refine aV ?_)
  (refine aA rfl (h0 _ _) rfl rfl ?_; rintro _ _ _ ⟨rfl, e, rfl, he, rfl⟩; refine ⟨okF, ?_⟩)
  repeat (refine aV ?_)
  refine bD (cs := eR e) (.inl rfl) rfl rfl aB rfl M0 (bS e 0 :: I0) aD aC ⟨rfl, e, rfl, he, rfl⟩
theorem yL {a b : RE} {k m : Nat} (hk : k + m ≤ 500000000000) (hb0 : b.q ≠ 0) (ha : Hv I0 (bS a k)) (hb : Hv I0 (bS b m)) :
  CD Tryz.prog 165 [rv a, rv b] X w0 M0 I0 (RQ (a.q / b.q) (k + m) M0 I0) := by
 refine aX Tryz.func165 rfl Tryz.ntmps165 rfl ?_
 refine aG ?_
 refine aJ ?_
 (refine aR rfl rfl rfl ?_; intro b1; refine ⟨okF, ?_⟩)
 (refine aR rfl rfl rfl ?_; intro b2; refine ⟨okF, ?_⟩)
 (refine aI rfl rfl ?_; intro b3; refine ⟨okF, ?_⟩)
 repeat (refine aV ?_)
 (refine aA rfl (aBR hk hb0 ha hb) rfl rfl ?_; rintro _ _ _ ⟨rfl, e, rfl, he, rfl⟩; refine ⟨okF, ?_⟩)
 repeat (refine aV ?_)
 (refine aI rfl rfl ?_; intro b4; refine ⟨okF, ?_⟩)
 repeat (refine aV ?_)
 refine bD (cs := eR e) (.inl rfl) rfl rfl aB rfl M0 (bS e (k + m) :: I0) aD aC ⟨rfl, e, rfl, he, rfl⟩
theorem yO {b1 b2 : Nat} {es os : List RE} {κ : RE} {kz h m fr n : Nat} {M1 : List Ent} (hn : n ≤ 1000) (hK : kz + (m + h) + 1 ≤ 400000000000) (hes : es.length = n) (hos : os.length = n) (hfr : fr ≤ n)
  (he : cO es kz ∈ I0) (ho : cO os h ∈ I0) (hκ : bS κ m ∈ I0) (hM : M0 = .blk b1 (recs eR es) 50 :: .blk b2 (recs eR os) 50 :: M1) :
  CD Tryz.prog 164 [.slice (some ⟨b1, 0, none⟩) n n, .slice (some ⟨b2, 0, none⟩) n n, rv κ, .int .i64 (fr : Int)] X w0 M0 I0 (fun v M I => v = .tuple #[] ∧ ∃ es' : List RE, es'.length = n ∧ (∀ t : Nat, t < n → (gt es' (t : Int)).q = if t < fr then (gt es (t : Int)).q else (gt es (t : Int)).q - κ.q * (gt os (t : Int)).q) ∧ M = .blk b1 (recs eR es') 50 :: .blk b2 (recs eR os) 50 :: M1 ∧ I = cO es' (kz + (m + h) + 1) :: I0) := by
 subst hM
 refine wT Tryz.func164 rfl Tryz.ntmps164 rfl ?_
 refine aG ?_
 refine aJ ?_
 (refine aR rfl rfl rfl ?_; intro bk; refine ⟨okF, ?_⟩)
 repeat (refine aV ?_)
 refine iB (φ := cO es (kz + (m + h) + 1)) (Hv.allMono he (by omega)) ?_
 refine aT [0, 1, 6] rfl (fun k G M I => ∃ (j : Nat) (e1 : List RE), fr ≤ j ∧ j ≤ n ∧ k = n - j ∧ e1.length = n ∧ (∀ t : Nat, j ≤ t → gt e1 (t : Int) = gt es (t : Int)) ∧ (∀ t : Nat, t < j → (gt e1 (t : Int)).q = if t < fr then (gt es (t : Int)).q else (gt es (t : Int)).q - κ.q * (gt os (t : Int)).q) ∧ G = [(8, .int .i64 j)] ∧ M = .blk bk (eR κ) 50 :: .blk b1 (recs eR e1) 50 :: .blk b2 (recs eR os) 50 :: M1 ∧ I = cO e1 (kz + (m + h) + 1) :: I0) (n - fr) _ _ _ aP aD aC (⟨fr, es, by omega, hfr, rfl, hes, fun _ _ => rfl, fun t ht => by rw [if_pos ht], rfl, rfl, rfl⟩) ?_
 rintro kk G M I ⟨j, e1, hj1, hj, rfl, hel, hkeep, hdone, rfl, rfl, rfl⟩
 by_cases hjn : j < n
 ·have hgj : gt e1 (j : Int) = gt es (j : Int) := hkeep j (Nat.le_refl _)
  have hvj : Hv (cO e1 (kz + (m + h) + 1) :: I0) (bS (gt os (j : Int)) h) := (Hv.all (i := (j : Int)) ho (by omega) (Nat.le_refl _)).cons
  have hve : Hv (cO e1 (kz + (m + h) + 1) :: I0) (bS (gt e1 (j : Int)) kz) := by rw [hgj]; exact (Hv.all (i := (j : Int)) he (by omega) (Nat.le_refl _)).cons
  have hvk : Hv (cO e1 (kz + (m + h) + 1) :: I0) (bS κ m) := (Hv.mem hκ).cons
  have hS := mF (X := X) (w0 := w0) (M0 := .blk bk (eR κ) 50 :: .blk b1 (recs eR e1) 50 :: .blk b2 (recs eR os) 50 :: M1) (e := gt os (j : Int)) (k := h) (by omega) hvj
  by_cases h0 : (gt os (j : Int)).q = 0
  ·rw [(oO _).2 h0] at hS
   repeat (refine aV ?_)
   (refine aA rfl (hS) rfl rfl ?_; rintro _ _ _ ⟨rfl, rfl, rfl⟩; refine ⟨okF, ?_⟩)
   repeat (refine aV ?_)
   refine aL (n - (j + 1)) _ _ _ (by first | omega | (simp only [List.length_append, List.length_cons, List.length_nil]; omega)) aP aD aC (⟨j + 1, e1, by omega, by omega, rfl, hel, fun t ht => hkeep t (by omega), fun t ht => ?_, rfl, rfl, rfl⟩)
   by_cases htj : t = j
   ·subst htj
    rw [if_neg (by omega), hgj, h0, Rat.mul_zero, Rat.sub_eq_add_neg, Rat.neg_zero, Rat.add_zero]
   ·exact hdone t (by omega)
  ·have hs0 : ¬ (gt os (j : Int)).q.num.sign = 0 := fun h => h0 ((oO _).1 h)
   generalize (gt os (j : Int)).q.num.sign = sg at *
   repeat (refine aV ?_)
   (refine aA rfl (hS) rfl rfl ?_; rintro _ _ _ ⟨rfl, rfl, rfl⟩; refine ⟨okF, ?_⟩)
   repeat (refine aV ?_)
   (repeat refine aG ?_); refine bG 2 [0, 1, 2, 3, 4, 5, 6, 7, 8, 9, 10, 11, 12, 13, 14] [2, 2, 2, 2, 2, 1, 1, 2, 2, 2, 1, 0, 0, 0, 0] mixed (by kernel_rfl) ?_
   repeat (refine aV ?_)
   (refine aA rfl (qC (k := m) (m := h) (by omega) hvk hvj) rfl rfl ?_; rintro _ _ _ ⟨rfl, e2, rfl, he2, rfl⟩; refine ⟨okF, ?_⟩)
   (refine aA rfl (aJU (k := kz) (m := m + h) (by omega) hve.cons (Hv.mem (List.Mem.head _))) rfl rfl ?_; rintro _ _ _ ⟨rfl, e3, rfl, he3, rfl⟩; refine ⟨okF, ?_⟩)
   repeat (refine yXf ?_)
   refine iC (vs := eR e3) rfl rfl rfl (Ones.one e3) lN (StAts.r e3 (by omega) rfl) rfl rfl ⟨okF, ?_⟩
   repeat (refine aV ?_)
   refine gV (φ := cO (st e1 (j : Int) e3) (kz + (m + h) + 1)) (Hv.stR aB aB) ?_
   refine aL (n - (j + 1)) _ _ _ (by first | omega | (simp only [List.length_append, List.length_cons, List.length_nil]; omega)) aP aD aC (⟨j + 1, st e1 (j : Int) e3, by omega, by omega, rfl, by rw [eQ]; exact hel, fun t ht => ?_, fun t ht => ?_, rfl, rfl, rfl⟩)
   ·rw [aAK (by omega), if_neg (by omega)]; exact hkeep t (by omega)
   ·rw [aAK (by omega)]
    by_cases htj : t = j
    ·subst htj
     rw [if_pos rfl, if_neg (by omega), he3, he2, hgj]
    ·rw [if_neg htj]; exact hdone t (by omega)
 ·obtain rfl : j = n := by omega
  repeat (refine aV ?_)
  refine mK (by first | exact .inl rfl | exact .inr rfl) rfl _ _ aD aC (⟨rfl, e1, hel, hdone, rfl, rfl⟩)
end
end Go.Proofs.YtjbhdfpjnjedhaaGreat
namespace Go.Proofs.YtjbhdfpjnjedhaaGreat
open Go Go.Fx
abbrev Mt := List (List Rat)
def rowAt (A : Mt) (i : Nat) : List Rat := A.getD i []
def at2 (A : Mt) (i j : Nat) : Rat := (rowAt A i).getD j 0
def swp (A : Mt) (r k : Nat) : Mt := (A.set r (rowAt A k)).set k (rowAt A r)
def jE (j : Nat) (κ : Rat) (l : List Rat) : List Rat := l.mapIdx (fun c x => if c < j then x else κ * x)
def jZ (j : Nat) (κ : Rat) (p : List Rat) (l : List Rat) : List Rat := l.mapIdx (fun c x => if c < j then x else x - κ * p.getD c 0)
def nG (A : Mt) (j : Nat) : Nat → Nat → Nat
 | 0, k => k
 | f + 1, k => if k < A.length ∧ at2 A k j = 0 then nG A j f (k + 1) else k
def uM (A : Mt) (r j : Nat) (pr : List Rat) : Mt := A.mapIdx (fun i row => if i = r then row else if row.getD j 0 = 0 then row else jZ j (row.getD j 0) pr row)
def wC (A : Mt) (r j k : Nat) : Mt :=
 uM ((swp A r k).set r (jE j (1 / at2 (swp A r k) r j) (rowAt (swp A r k) r))) r j (jE j (1 / at2 (swp A r k) r j) (rowAt (swp A r k) r))
def aQY (s : Mt × List Nat) (j : Nat) : Mt × List Nat :=
 if nG s.1 j (s.1.length - s.2.length) s.2.length < s.1.length then (wC s.1 s.2.length j (nG s.1 j (s.1.length - s.2.length) s.2.length), s.2 ++ [j]) else s
def qA (A : Mt) (n : Nat) : Mt × List Nat := (List.range n).foldl aQY (A, [])
theorem xD (A : Mt) (n : Nat) : qA A (n + 1) = aQY (qA A n) n := by
 unfold qA
 rw [List.range_succ, List.foldl_append]
 rfl
abbrev qs (es : List RE) : List Rat := es.map (·.q)
abbrev mq (rows : List MR) : Mt := rows.map (fun r => qs r.es)
theorem fB {α : Type} [Inhabited α] {ms : List α} {i : Nat} (h : i < ms.length) : gt ms (i : Int) = ms[i] := fT h
theorem mH {rows : List MR} {i : Nat} (h : i < rows.length) : rowAt (mq rows) i = qs (gt rows (i : Int)).es := by
 unfold rowAt
 rw [fB h]
 simp [List.getD, h]
theorem jK {es : List RE} {j : Nat} (h : j < es.length) : (qs es).getD j 0 = (gt es (j : Int)).q := by
 rw [fB h]
 simp [List.getD, h]
theorem vV {rows : List MR} {i j : Nat} (h : i < rows.length) (hj : j < (gt rows (i : Int)).es.length) : at2 (mq rows) i j = (gt (gt rows (i : Int)).es (j : Int)).q := by
 unfold at2
 rw [mH h, jK hj]
theorem aBQ {rows : List MR} {i : Nat} {r : MR} : mq (rows.set i r) = (mq rows).set i (qs r.es) := by simp [List.map_set]
theorem aFR {A : Mt} {j : Nat} : ∀ (f k : Nat), k + f = A.length → k ≤ nG A j f k ∧ nG A j f k ≤ A.length ∧ (nG A j f k < A.length → at2 A (nG A j f k) j ≠ 0)
 | 0, k, h => ⟨Nat.le_refl _, by simp [nG]; omega, fun h' => by simp [nG] at h'; omega⟩
 | f + 1, k, h => by
  unfold nG
  by_cases hc : k < A.length ∧ at2 A k j = 0
  ·rw [if_pos hc]
   obtain ⟨h1, h2, h3⟩ := aFR (A := A) (j := j) f (k + 1) (by omega)
   exact ⟨by omega, h2, h3⟩
  ·rw [if_neg hc]
   exact ⟨Nat.le_refl _, by omega, fun hk h0 => hc ⟨hk, h0⟩⟩
/- permutations -/
theorem nX {α : Type} : ∀ (l : List α) (i : Nat) (h : i < l.length), l.Perm (l[i] :: l.eraseIdx i)
 | [], _, h => by simp at h
 | x :: r, 0, _ => by simp
 | x :: r, i + 1, h => by
  have ih := nX r i (by simpa using h)
  simp only [List.getElem_cons_succ, List.eraseIdx_cons_succ]
  exact (List.Perm.cons _ ih).trans (List.Perm.swap _ _ _)
def lL {α : Type} (l : List α) (i j : Nat) : List α := (l.eraseIdx (max i j)).eraseIdx (min i j)
theorem tY {α : Type} (l : List α) (i j : Nat) (hi : i < l.length) (hj : j < l.length) (hij : i ≠ j) : l.Perm (l[i] :: l[j] :: lL l i j) := by
 rcases Nat.lt_or_ge i j with h | h
 ·have e1 : max i j = j := by omega
  have e2 : min i j = i := by omega
  unfold lL
  rw [e1, e2]
  have h1 := nX l j hj
  have hl : i < (l.eraseIdx j).length := by rw [List.length_eraseIdx_of_lt hj]; omega
  have h2 := nX (l.eraseIdx j) i hl
  rw [List.getElem_eraseIdx_of_lt hl h] at h2
  exact (h1.trans (List.Perm.cons _ h2)).trans (List.Perm.swap _ _ _)
 ·have e1 : max i j = i := by omega
  have e2 : min i j = j := by omega
  unfold lL
  rw [e1, e2]
  have h1 := nX l i hi
  have hl : j < (l.eraseIdx i).length := by rw [List.length_eraseIdx_of_lt hi]; omega
  have h2 := nX (l.eraseIdx i) j hl
  rw [List.getElem_eraseIdx_of_lt hl (by omega)] at h2
  exact h1.trans (List.Perm.cons _ h2)
theorem uE {α : Type} (l : List α) (i j : Nat) (x : α) (hij : i ≠ j) : lL (l.set i x) i j = lL l i j := by
 unfold lL
 rcases Nat.lt_or_ge i j with h | h
 ·have e1 : max i j = j := by omega
  have e2 : min i j = i := by omega
  rw [e1, e2]
  apply List.ext_getElem?
  intro n
  simp only [List.getElem?_eraseIdx, List.getElem?_set]
  split <;> split <;> (try split) <;> first | rfl | omega
 ·have e1 : max i j = i := by omega
  rw [e1, List.eraseIdx_set_eq]
theorem aCI {α : Type} (l : List α) (i : Nat) (x : α) : (l.set i x).eraseIdx i = l.eraseIdx i := List.eraseIdx_set_eq ..
theorem tN {rows : List MR} {i : Nat} {es : List RE} (hi : i < rows.length) (hl : es.length = (gt rows (i : Int)).es.length) : recs eM (rows.set i ⟨(gt rows (i : Int)).b, es⟩) = recs eM rows := by
 have h1 := oJ (enc := eM) rows i ⟨(gt rows (i : Int)).b, es⟩ hi
 rw [← h1]
 have e : eM ⟨(gt rows (i : Int)).b, es⟩ = eM (gt rows (i : Int)) := by simp [eM, hl]
 rw [e, oJ (enc := eM) rows i _ hi, fB hi, List.set_getElem_self]
end Go.Proofs.YtjbhdfpjnjedhaaGreat
