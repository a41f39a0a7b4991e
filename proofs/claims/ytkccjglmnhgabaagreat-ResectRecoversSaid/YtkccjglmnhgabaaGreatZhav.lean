/- fiducialref02: Add, Sub, Mul, Divide, Compare, Same Fractions as they come in: whatever bits, canonical or not. The plane of a line sensor, plain: slopes, conditions, the position. Drawn regions whose order forks more than once: what is left of a region as an end. -/
import Derived.Test.YtkccjglmnhgabaaGreatZhau
import Derived.Test.YtkccjglmnhgabaaGreatZhao
set_option linter.unusedSimpArgs false
set_option linter.unusedVariables false
set_option maxRecDepth 100000
set_option maxHeartbeats 4000000
namespace Go.Proofs.YtkccjglmnhgabaaGreat
open Go Go.Fx
theorem aDE {n d : Int} (hd : 0 < d) : (Rat.divInt n d).num.sign = n.sign := by
 obtain ⟨m, hm, h1, h2, h3, h4⟩ := uF (n := n) (d := d) (by omega)
 have hm0 : 0 < m := by
  rcases Int.lt_trichotomy m 0 with h | h | h
  ·have := h4.1 h; omega
  ·exact absurd h hm
  ·exact h
 have : n.sign = ((Rat.divInt n d).num * m).sign := congrArg Int.sign h1
 rw [this, Int.sign_mul, Int.sign_eq_one_of_pos hm0, Int.mul_one]
theorem aJQ (p q : Rat) : (p - q).num.sign = aDT p q := by
 rw [Rat.sub_eq_add_neg, uP, aDE (by rw [Rat.neg_den]; exact Int.mul_pos (vH p) (vH q)), Rat.neg_num, Rat.neg_den, Int.neg_mul, ← Int.sub_eq_add_neg, aFZ]
 rfl
section
variable {X : List Nat} {w0 : World} {M0 : List Ent} {I0 : List aZ}
theorem aKS {a b : RE} {k m : Nat} (hk : k + m + 1 ≤ 100000000000) (ha : Hv I0 (bM a k)) (hb : Hv I0 (bM b m)) :
  CD Tryz.prog 132 [rv a, rv b] X w0 M0 I0 (RQ (a.q + b.q) (k + m + 1) M0 I0) := by
 have hM1 := fun u v M0 I0 => sZ (X := X) (w0 := w0) (M0 := M0) (I0 := I0) (u := u) (v := v) (y := a.q.num) (z := b.q.den) (k0 := k) (m0 := m) (by omega)
 have hM2 := fun u v M0 I0 => sZ (X := X) (w0 := w0) (M0 := M0) (I0 := I0) (u := u) (v := v) (y := b.q.num) (z := a.q.den) (k0 := m) (m0 := k) (by omega)
 have hM3 := fun u v M0 I0 => sZ (X := X) (w0 := w0) (M0 := M0) (I0 := I0) (u := u) (v := v) (y := a.q.den) (z := b.q.den) (k0 := k) (m0 := m) (by omega)
 have hA := fun u v M0 I0 => aGM (X := X) (w0 := w0) (M0 := M0) (I0 := I0) (u := u) (v := v) (y := a.q.num * b.q.den) (z := b.q.num * a.q.den) (k := k + m) (m := m + k) (c := k + m + 1) (by omega) (by omega) (by omega) (aGC k m)
 have hR := fun u v M0 I0 => xJ (X := X) (w0 := w0) (M0 := M0) (I0 := I0) (u := u) (v := v) (n := a.q.num * b.q.den + b.q.num * a.q.den) (d := a.q.den * b.q.den) (k := k + m + 1) (by omega) (qR _ _)
 rw [← uP] at hR
 refine bE Tryz.func132 rfl Tryz.ntmps132 rfl ?_
 refine aL ?_
 refine aM ?_
 (refine aR rfl rfl rfl ?_; intro b1; refine ⟨okF, ?_⟩)
 (refine aR rfl rfl rfl ?_; intro b2; refine ⟨okF, ?_⟩)
 (refine aB rfl rfl ?_; intro b3; refine ⟨okF, ?_⟩)
 repeat (refine aV ?_)
 (refine aA rfl (nK (k := k) (by omega) ha) rfl rfl ?_; rintro _ _ _ ⟨rfl, rfl, rfl⟩; refine ⟨okF, ?_⟩)
 (refine aB rfl rfl ?_; intro b4; refine ⟨okF, ?_⟩)
 repeat (refine aV ?_)
 (refine aA rfl (nK (k := m) (by omega) hb) rfl rfl ?_; rintro _ _ _ ⟨rfl, rfl, rfl⟩; refine ⟨okF, ?_⟩)
 (refine aB rfl rfl ?_; intro b5; refine ⟨okF, ?_⟩)
 refine iG (e := a) (k := k) ha ?_
 refine iG (e := b) (k := m) hb.cons.cons ?_
 repeat (refine aV ?_)
 (repeat refine aL ?_); refine dJ (.blk b5 (eR b) 37 :: .blk b4 (eR a) 37 :: M0) (I0) [0, 1, 2, 3, 5, 6, 7, 8, 11, 12, 13, 14, 4, 9, 10, 15, 16, 17] [5, 4, 5, 4, 5, 4, 5, 4, 5, 4, 5, 4, 0, 0, 0, 0, 0, 0] aD aF mixed (by kernel_rfl) ?_
 repeat (refine aV ?_)
 (refine aA rfl (hM1 _ _ _ _ aC aC) rfl rfl ?_; rintro _ _ _ ⟨rfl, rfl⟩; refine ⟨okF, ?_⟩)
 (refine aA rfl (hM2 _ _ _ _ aC aC) rfl rfl ?_; rintro _ _ _ ⟨rfl, rfl⟩; refine ⟨okF, ?_⟩)
 (refine aA rfl (hA _ _ _ _ aC aC) rfl rfl ?_; rintro _ _ _ ⟨rfl, rfl⟩; refine ⟨okF, ?_⟩)
 (refine aA rfl (hM3 _ _ _ _ aC aC) rfl rfl ?_; rintro _ _ _ ⟨rfl, rfl⟩; refine ⟨okF, ?_⟩)
 refine aDV (k2 := k + m + 1) (List.Mem.head _) (by omega) ?_
 (refine aA rfl (hR _ _ _ _ aC aC) rfl rfl ?_; rintro _ _ _ ⟨rfl, e, rfl, he, rfl⟩; refine ⟨okF, ?_⟩)
 repeat (refine aV ?_)
 refine bK (cs := eR e) (.inl rfl) rfl rfl aC rfl M0 (bM e (k + m + 1) :: I0) aD aF ⟨rfl, e, rfl, he, rfl⟩
theorem aKL {a b : RE} {k m : Nat} (hk : k + m + 1 ≤ 100000000000) (ha : Hv I0 (bM a k)) (hb : Hv I0 (bM b m)) :
  CD Tryz.prog 124 [rv a, rv b] X w0 M0 I0 (RQ (a.q - b.q) (k + m + 1) M0 I0) := by
 refine bE Tryz.func124 rfl Tryz.ntmps124 rfl ?_
 refine aL ?_
 refine aM ?_
 (refine aR rfl rfl rfl ?_; intro b1; refine ⟨okF, ?_⟩)
 (refine aR rfl rfl rfl ?_; intro b2; refine ⟨okF, ?_⟩)
 (refine aB rfl rfl ?_; intro b3; refine ⟨okF, ?_⟩)
 repeat (refine aV ?_)
 (repeat refine aL ?_); refine bT 1 [0, 1, 2, 3, 4] [1, 1, 0, 0, 0] mixed (by kernel_rfl) ?_
 repeat (refine aV ?_)
 (refine aA rfl (aJM (k := m) (by omega) hb) rfl rfl ?_; rintro _ _ _ ⟨rfl, y, rfl, hy, rfl⟩; refine ⟨okF, ?_⟩)
 rw [Rat.sub_eq_add_neg, ← hy]
 (refine aA rfl (aKS hk ha.cons (Hv.mem (List.Mem.head _))) rfl rfl ?_; rintro _ _ _ ⟨rfl, e, rfl, he, rfl⟩; refine ⟨okF, ?_⟩)
 repeat (refine aV ?_)
 refine bK (cs := eR e) (.inl rfl) rfl rfl aC rfl M0 (bM e (k + m + 1) :: I0) aD aF ⟨rfl, e, rfl, he, rfl⟩
theorem aNV {u v : Value} {n d : Int} {k : Nat} (hk : k ≤ 150000000000) (hd0 : d ≠ 0) (hu : iE u n k ∈ I0) (hv : iE v d k ∈ I0) :
  CD Tryz.prog 157 [u, v] X w0 M0 I0 (RQc (Rat.divInt n d) k M0 I0) := by
 have hs0 : ¬ d.sign = 0 := fun h => hd0 (Int.sign_eq_zero_iff_zero.1 h)
 have hS := fun M0 I0 => sJ (X := X) (w0 := w0) (M0 := M0) (I0 := I0) (u := v) (z := d) (k := k) (by omega)
 have hR := fun M0 I0 => xJ (X := X) (w0 := w0) (M0 := M0) (I0 := I0) (u := u) (v := v) (n := n) (d := d) (k := k) (by omega) hd0
 generalize d.sign = sd at *
 refine CD.post (K := fun v M I => ∃ q q', RQc (Rat.divInt n d) k M0 (bI q' (recs eG (gr d.natAbs)) :: bI q (recs eG (gr n.natAbs)) :: I0) v M I) (dC hu (fun q cq e hc hy => ?_)) (fun v M I w h hw => ?_)
 case refine_2 =>
  obtain ⟨q, q', e1, e2, h2, h3, h4⟩ := h
  subst e1; subst h4
  exact ⟨_, _, ⟨rfl, e2, h2, h3, rfl⟩, hw.inc (Inc.cons (List.Mem.head _) (Inc.wk (Inc.wk (Inc.wk Inc.refl))))⟩
 subst e
 refine dC (List.Mem.tail _ hv) (fun q' cq' e hc' hz => ?_)
 subst e
 unfold iv at *
 refine bE Tryz.func157 rfl Tryz.ntmps157 rfl ?_
 refine aL ?_
 refine aM ?_
 (refine aR rfl rfl rfl ?_; intro b1; refine ⟨okF, ?_⟩)
 (refine aR rfl rfl rfl ?_; intro b2; refine ⟨okF, ?_⟩)
 (refine aB rfl rfl ?_; intro b3; refine ⟨okF, ?_⟩)
 repeat (refine aV ?_)
 (refine aA rfl (hS _ _ aC) rfl rfl ?_; rintro _ _ _ ⟨rfl, rfl, rfl⟩; refine ⟨okF, ?_⟩)
 repeat (refine aV ?_)
 (refine aA rfl (hR _ _ aC aC) rfl rfl ?_; rintro _ _ _ ⟨rfl, e, rfl, he, rfl⟩; refine ⟨okF, ?_⟩)
 repeat (refine aV ?_)
 refine iW (rs := [.cell 4 37, .tmp 5]) (vs := [rv e, .int .i64 0]) (.inl rfl) rfl (.cellN (cs := eR e) inferInstance rfl aC rfl (.tmp rfl .nil)) rfl M0 (bM e k :: bI q' (recs eG (gr d.natAbs)) :: bI q (recs eG (gr n.natAbs)) :: I0) aD aF ⟨q, q', rfl, e, rfl, he, rfl⟩
theorem aEA {a b : RE} {k m : Nat} (hk : k + m ≤ 100000000000) (hb0 : b.q ≠ 0) (ha : Hv I0 (bM a k)) (hb : Hv I0 (bM b m)) :
  CD Tryz.prog 111 [rv a, rv b] X w0 M0 I0 (RQc (a.q / b.q) (k + m) M0 I0) := by
 have hM1 := fun u v M0 I0 => sZ (X := X) (w0 := w0) (M0 := M0) (I0 := I0) (u := u) (v := v) (y := a.q.num) (z := b.q.den) (k0 := k) (m0 := m) (by omega)
 have hM3 := fun u v M0 I0 => sZ (X := X) (w0 := w0) (M0 := M0) (I0 := I0) (u := u) (v := v) (y := a.q.den) (z := b.q.num) (k0 := k) (m0 := m) (by omega)
 have hR := fun u v M0 I0 => aNV (X := X) (w0 := w0) (M0 := M0) (I0 := I0) (u := u) (v := v) (n := a.q.num * b.q.den) (d := a.q.den * b.q.num) (k := k + m) (by omega) (yA hb0)
 rw [← xY] at hR
 refine bE Tryz.func111 rfl Tryz.ntmps111 rfl ?_
 refine aL ?_
 refine aM ?_
 (refine aR rfl rfl rfl ?_; intro b1; refine ⟨okF, ?_⟩)
 (refine aR rfl rfl rfl ?_; intro b2; refine ⟨okF, ?_⟩)
 (refine aB rfl rfl ?_; intro b3; refine ⟨okF, ?_⟩)
 repeat (refine aV ?_)
 (refine aA rfl (nK (k := k) (by omega) ha) rfl rfl ?_; rintro _ _ _ ⟨rfl, rfl, rfl⟩; refine ⟨okF, ?_⟩)
 (refine aB rfl rfl ?_; intro b4; refine ⟨okF, ?_⟩)
 repeat (refine aV ?_)
 (refine aA rfl (nK (k := m) (by omega) hb) rfl rfl ?_; rintro _ _ _ ⟨rfl, rfl, rfl⟩; refine ⟨okF, ?_⟩)
 (refine aB rfl rfl ?_; intro b5; refine ⟨okF, ?_⟩)
 refine iG (e := a) (k := k) ha ?_
 refine iG (e := b) (k := m) hb.cons.cons ?_
 repeat (refine aV ?_)
 (repeat refine aL ?_); refine dJ (.blk b5 (eR b) 37 :: .blk b4 (eR a) 37 :: M0) (I0) [0, 1, 2, 3, 5, 6, 7, 8, 4, 9, 10, 11, 12, 13, 14] [3, 2, 3, 2, 3, 2, 3, 2, 0, 0, 0, 0, 0, 0, 0] aD aF mixed (by kernel_rfl) ?_
 repeat (refine aV ?_)
 (refine aA rfl (hM1 _ _ _ _ aC aC) rfl rfl ?_; rintro _ _ _ ⟨rfl, rfl⟩; refine ⟨okF, ?_⟩)
 (refine aA rfl (hM3 _ _ _ _ aC aC) rfl rfl ?_; rintro _ _ _ ⟨rfl, rfl⟩; refine ⟨okF, ?_⟩)
 (refine aA rfl (hR _ _ _ _ aC aC) rfl rfl ?_; rintro _ _ _ ⟨rfl, e, rfl, he, rfl⟩; refine ⟨okF, ?_⟩)
 repeat (refine aV ?_)
 refine iW (rs := [.cell 4 37, .tmp 5]) (vs := [rv e, .int .i64 0]) (.inl rfl) rfl (.cellN (cs := eR e) inferInstance rfl aC rfl (.tmp rfl .nil)) rfl M0 (bM e (k + m) :: I0) aD aF ⟨rfl, e, rfl, he, rfl⟩
theorem qX {a b : RE} {k m : Nat} (hk : k + m + 1 ≤ 100000000000) (ha : Hv I0 (bM a k)) (hb : Hv I0 (bM b m)) :
  CD Tryz.prog 94 [rv a, rv b] X w0 M0 I0 (fun v M I => M0 = M ∧ I0 = I ∧ v = .int .i64 (aDT a.q b.q)) := by
 refine bE Tryz.func94 rfl Tryz.ntmps94 rfl ?_
 refine aL ?_
 refine aM ?_
 (refine aR rfl rfl rfl ?_; intro b1; refine ⟨okF, ?_⟩)
 (refine aR rfl rfl rfl ?_; intro b2; refine ⟨okF, ?_⟩)
 repeat (refine aV ?_)
 (refine aA rfl (aKL hk ha hb) rfl rfl ?_; rintro _ _ _ ⟨rfl, e, rfl, he, rfl⟩; refine ⟨okF, ?_⟩)
 (refine aA rfl (wH (k := k + m + 1) (by omega) (Hv.mem (List.Mem.head _))) rfl rfl ?_; rintro _ _ _ ⟨rfl, rfl, rfl⟩; refine ⟨okF, ?_⟩)
 repeat (refine aV ?_)
 refine aQ (by first | exact .inl rfl | exact .inr rfl) rfl rfl _ _ aD aF (⟨rfl, rfl, by rw [he, aJQ]⟩)
theorem aDN {a b : RE} {k m : Nat} (hk : k + m + 1 ≤ 100000000000) (ha : Hv I0 (bM a k)) (hb : Hv I0 (bM b m)) :
  CD Tryz.prog 42 [rv a, rv b] X w0 M0 I0 (fun v M I => M0 = M ∧ I0 = I ∧ v = .bool (B (a.q = b.q))) := by
 refine bE Tryz.func42 rfl Tryz.ntmps42 rfl ?_
 refine aL ?_
 refine aM ?_
 (refine aR rfl rfl rfl ?_; intro b1; refine ⟨okF, ?_⟩)
 (refine aR rfl rfl rfl ?_; intro b2; refine ⟨okF, ?_⟩)
 repeat (refine aV ?_)
 (refine aA rfl (uH (k := k) (by omega) ha) rfl rfl ?_; rintro _ _ _ ⟨rfl, rfl, rfl⟩; refine ⟨okF, ?_⟩)
 repeat (refine aV ?_)
 (refine aA rfl (uH (k := m) (by omega) hb) rfl rfl ?_; rintro _ _ _ ⟨rfl, rfl, rfl⟩; refine ⟨okF, ?_⟩)
 repeat (refine aV ?_)
 (refine aA rfl (qX hk ha hb) rfl rfl ?_; rintro _ _ _ ⟨rfl, rfl, rfl⟩; refine ⟨okF, ?_⟩)
 repeat (refine aV ?_)
 refine aQ (by first | exact .inl rfl | exact .inr rfl) rfl rfl _ _ aD aF (⟨rfl, rfl, congrArg Value.bool (gD aBW)⟩)
end
end Go.Proofs.YtkccjglmnhgabaaGreat
namespace Go.Proofs.YtkccjglmnhgabaaGreat
open Go Go.Fx
structure RW where
 n1 : Bool
 p1 : Option Addr
 g1 : List Int
 c1 : Nat
 n2 : Bool
 p2 : Option Addr
 g2 : List Int
 c2 : Nat
instance : Inhabited RW := ⟨⟨false, none, [], 0, false, none, [], 0⟩⟩
abbrev eW (r : RW) : List Value := [.bool r.n1, .slice r.p1 r.g1.length r.c1, .bool r.n2, .slice r.p2 r.g2.length r.c2]
abbrev wv (r : RW) : Value := .agg #[.bool r.n1, .slice r.p1 r.g1.length r.c1, .bool r.n2, .slice r.p2 r.g2.length r.c2]
instance : Sized eW 4 := ⟨fun _ => rfl⟩
instance : Ones eW := ⟨fun m u hu => by
 simp only [eW, List.mem_cons, List.not_mem_nil, or_false] at hu
 rcases hu with rfl | rfl | rfl | rfl <;> rfl⟩
abbrev Cap (p : Option Addr) (n c : Nat) : Prop := n ≤ c ∧ (Ok p ∨ (n = 0 ∧ c = 0))
structure RW.Fit (r : RW) : Prop where
 u1 : ∀ x ∈ r.g1, 0 ≤ x
 u2 : ∀ x ∈ r.g2, 0 ≤ x
 l1 : (r.g1.length : Int) ≤ 9223372036854775807
 l2 : (r.g2.length : Int) ≤ 9223372036854775807
 k1 : Cap r.p1 r.g1.length r.c1
 k2 : Cap r.p2 r.g2.length r.c2
structure IsW (r : RW) (X : List Nat) (w : World) : Prop where
 fit : r.Fit
 s1 : Sl X w r.p1 (recs eG r.g1)
 s2 : Sl X w r.p2 (recs eG r.g2)
abbrev isW (r : RW) : aZ := IsW r
instance (r : RW) : Fx.Good (IsW r) := ⟨fun X Y w w' h he hY => ⟨h.fit, Sl.carry h.s1 he hY, Sl.carry h.s2 he hY⟩⟩
def zI (n : Bool) (g : List Int) : Int := if n = true then -val g else val g
theorem aHE {n : Bool} {g : List Int} (h : qU n g) (hu : ∀ x ∈ g, 0 ≤ x) : B (zI n g < 0) = n ∧ gr (zI n g).natAbs = g := by
 rcases h with ⟨rfl, rfl⟩ | ⟨h1, h2, h3⟩
 ·exact ⟨bN (by simp [zI, val]), by simp [zI, val, gF]⟩
 ·have hd : Dig g := fun x hx => ⟨hu x hx, by
   have : ¬ 1000000000 ≤ x := fun e => h3 ⟨x, hx, e⟩
   omega⟩
  have hc : Can g := ⟨hd, h2⟩
  have hp : 0 < g.length := by cases g with | nil => exact absurd rfl h1 | cons a l => simp
  have hv := wP hc hp
  have hpp := iR (g.length - 1)
  have ha : (zI n g).natAbs = (val g).toNat := by unfold zI; split <;> omega
  refine ⟨?_, by rw [ha]; exact (aOL hc).symm⟩
  cases n with
  | true => exact dG (by simp only [zI, if_pos]; omega)
  | false => exact bN (by simp only [zI]; rw [if_neg (by decide)]; omega)
theorem aBH (z : Int) : zI (B (z < 0)) (gr z.natAbs) = z := by
 unfold zI
 rw [dB, qN]
 by_cases h : z < 0
 ·rw [if_pos (by simpa using h)]; omega
 ·rw [if_neg (by simpa using h)]; omega
theorem aMV (n : Nat) : (1000000000 : Nat) ^ n ≤ 2 ^ (30 * n) := by
 rw [Nat.pow_mul]
 exact Nat.pow_le_pow_left (by decide) n
theorem aOJ {z : Int} : z.natAbs ≤ 2 ^ (30 * (gr z.natAbs).length) := by
 have h1 := jO (bV z.natAbs)
 rw [dB] at h1
 have h2 := aMV (gr z.natAbs).length
 have h3 : ((1000000000 ^ (gr z.natAbs).length : Nat) : Int) = (1000000000 : Int) ^ (gr z.natAbs).length := by rw [Int.natCast_pow]; rfl
 omega
def RW.good (r : RW) : Prop := qU r.n1 r.g1 ∧ qU r.n2 r.g2 ∧ 0 < zI r.n2 r.g2 ∧ Int.gcd (zI r.n1 r.g1) (zI r.n2 r.g2) = 1
instance (r : RW) : Decidable r.good := by unfold RW.good; exact inferInstance
def RE.raw (e : RE) : RW := ⟨B (e.q.num < 0), e.p1, gr e.q.num.natAbs, e.c1, B ((e.q.den : Int) < 0), e.p2, gr (e.q.den : Int).natAbs, e.c2⟩
theorem RE.raw_good (e : RE) : e.raw.good := by
 refine ⟨wT _, wT _, ?_, ?_⟩
 ·show 0 < zI (B ((e.q.den : Int) < 0)) (gr (e.q.den : Int).natAbs)
  rw [aBH]; have := e.q.den_nz; omega
 ·show Int.gcd (zI (B (e.q.num < 0)) (gr e.q.num.natAbs)) (zI (B ((e.q.den : Int) < 0)) (gr (e.q.den : Int).natAbs)) = 1
  rw [aBH, aBH]
  exact e.q.reduced
theorem RE.fit {e : RE} {k : Nat} {X : List Nat} {w : World} (hk : k ≤ 1000000000000) (h : IsR e k X w) : IsW e.raw X w := by
 obtain ⟨q, c, h1, h2, h3, h4⟩ := h.num.ex
 obtain ⟨q', c', i1, i2, i3, i4⟩ := h.den.ex
 simp only [iv, Value.agg.injEq, Array.mk.injEq, List.cons.injEq, Value.slice.injEq, and_true, true_and] at h1 i1
 obtain ⟨rfl, rfl⟩ := h1
 obtain ⟨rfl, rfl⟩ := i1
 have a1 := fZ h3 hk
 have a2 := fZ i3 hk
 exact ⟨⟨fun x hx => (bV _ x hx).1, fun x hx => (bV _ x hx).1, by show ((gr e.q.num.natAbs).length : Int) ≤ _; omega, by show ((gr (e.q.den : Int).natAbs).length : Int) ≤ _; omega, h2, i2⟩, h4, i4⟩
theorem Hv.toW {I : List aZ} {e : RE} {k : Nat} (h : Hv I (bM e k)) (hk : k ≤ 1000000000000) : Hv I (isW e.raw) := ⟨fun X w hw => RE.fit hk (h.go X w hw)⟩
section
variable {X : List Nat} {w0 : World} {M0 : List Ent} {I0 : List aZ}
theorem aJV {P : Program} {f : FuncId} {vs : List Value} {K : Value → Prop} {r : RW} (h : Hv I0 (isW r)) (c : r.Fit → CD P f vs X w0 M0 (bI r.p1 (recs eG r.g1) :: bI r.p2 (recs eG r.g2) :: I0) (fun v M I => M0 = M ∧ bI r.p1 (recs eG r.g1) :: bI r.p2 (recs eG r.g2) :: I0 = I ∧ K v)) :
  CD P f vs X w0 M0 I0 (fun v M I => M0 = M ∧ I0 = I ∧ K v) := ⟨fun w hw => by
 have hr : IsW r (muts M0) w := h.go _ _ (fun ψ hm => (hw.imm ψ hm).2)
 have hw' := (hw.add (φ := bI r.p2 (recs eG r.g2)) ⟨hr.s2⟩).add (φ := bI r.p1 (recs eG r.g1)) ⟨hr.s1⟩
 refine ((c hr.fit).go w hw').mono (fun _ _ h => ?_)
 obtain ⟨_, _, ⟨rfl, rfl, h3⟩, hm⟩ := h
 exact ⟨_, _, ⟨rfl, rfl, h3⟩, hm.inc (Inc.wk (Inc.wk Inc.refl))⟩⟩
theorem aAX {P : Program} {f : FuncId} {vs : List Value} {K : Value → Prop} {p : Option Addr} {c k : Nat} {z : Int} (hs : bI p (recs eG (gr z.natAbs)) ∈ I0) (hc : Cap p (gr z.natAbs).length c) (hk : 30 * (gr z.natAbs).length ≤ k) (h : CD P f vs X w0 M0 (iE (vI p c z) z k :: I0) (fun v M I => M0 = M ∧ iE (vI p c z) z k :: I0 = I ∧ K v)) :
  CD P f vs X w0 M0 I0 (fun v M I => M0 = M ∧ I0 = I ∧ K v) := ⟨fun w hw => by
 have hw' := aBK hw hs hc (Nat.le_trans aOJ (Nat.pow_le_pow_right (by decide) hk))
 refine (h.go w hw').mono (fun _ _ h => ?_)
 obtain ⟨_, _, ⟨rfl, rfl, h3⟩, hm⟩ := h
 exact ⟨_, _, ⟨rfl, rfl, h3⟩, hm.inc (Inc.wk Inc.refl)⟩⟩
theorem aMJ (n : Nat) : (fO (n : Int) 1 = 0) ↔ n = 1 := by
 unfold fO
 split
 ·omega
 ·split <;> omega
theorem aEW {p1 p2 : Option Addr} {c1 c2 k : Nat} {y z : Int} (hk : k ≤ 500000000000) (h1 : iE (vI p1 c1 y) y k ∈ I0) (h2 : iE (vI p2 c2 z) z k ∈ I0) :
  CD Tryz.prog 74 [.agg #[.bool (B (y < 0)), .slice p1 (gr y.natAbs).length c1, .bool (B (z < 0)), .slice p2 (gr z.natAbs).length c2]] X w0 M0 I0 (fun v M I => M0 = M ∧ I0 = I ∧ v = .bool (B (0 < z ∧ Int.gcd y z = 1))) := by
 have hV1 := fun M0 I0 h => tT (X := X) (w0 := w0) (M0 := M0) (I0 := I0) (u := vI p1 c1 y) (z := y) (k := k) (by omega) h
 have hV2 := fun M0 I0 h => tT (X := X) (w0 := w0) (M0 := M0) (I0 := I0) (u := vI p2 c2 z) (z := z) (k := k) (by omega) h
 have hS := fun M0 I0 => oM (X := X) (w0 := w0) (M0 := M0) (I0 := I0) (u := vI p2 c2 z) (z := z) (k := k) (by omega)
 have hs : z.sign ≤ 0 ↔ ¬ 0 < z := by rw [← Int.sign_pos_iff]; omega
 have hG := fun M0 I0 => aEY (X := X) (w0 := w0) (M0 := M0) (I0 := I0) (u := vI p1 c1 y) (v := vI p2 c2 z) (y := y) (z := z) (k0 := k) (m := k) (by omega) (by omega)
 generalize hg : Int.gcd y z = g at *
 have hC := fun u v M0 I0 => yD (X := X) (w0 := w0) (M0 := M0) (I0 := I0) (u := u) (v := v) (y := g) (z := 1) (k := k + k) (m := 63) (by omega) (by omega)
 have hc := aMJ g
 generalize fO (g : Int) 1 = cv at *
 generalize z.sign = sz at *
 refine cO Tryz.func74 rfl Tryz.ntmps74 rfl ?_
 refine aL ?_
 refine aM ?_
 (refine aR rfl rfl rfl ?_; intro b; refine ⟨okF, ?_⟩)
 repeat (refine aV ?_)
 (refine aA rfl (hV1 _ _ aC) rfl rfl ?_; rintro _ _ _ ⟨rfl, rfl, rfl⟩; refine ⟨okF, ?_⟩)
 repeat (refine aV ?_)
 (refine aA rfl (hV2 _ _ aC) rfl rfl ?_; rintro _ _ _ ⟨rfl, rfl, rfl⟩; refine ⟨okF, ?_⟩)
 repeat (refine aV ?_)
 (refine aA rfl (hS _ _ aC) rfl rfl ?_; rintro _ _ _ ⟨rfl, rfl, rfl⟩; refine ⟨okF, ?_⟩)
 repeat' (first | refine aV ?_ | refine aU rfl (fun h => ?_) (fun h => ?_) | refine aT rfl rfl (fun h => ?_) (fun h => ?_) | fail)
 ·refine aQ (by first | exact .inl rfl | exact .inr rfl) rfl rfl _ _ aD aF (⟨rfl, rfl, congrArg Value.bool (bN (fun e => hs.1 (by assumption) e.1)).symm⟩)
 (refine aA rfl (hG _ _ aC aC) rfl rfl ?_; rintro _ _ _ ⟨rfl, rfl⟩; refine ⟨okF, ?_⟩)
 repeat (refine aV ?_)
 (refine aA rfl (aBM (x := 1) (by decide)) rfl rfl ?_; rintro _ _ _ ⟨rfl, rfl⟩; refine ⟨okF, ?_⟩)
 (refine aA rfl (hC _ _ _ _ aC aC) rfl rfl ?_; rintro _ _ _ ⟨rfl, rfl, rfl⟩; refine ⟨okF, ?_⟩)
 repeat (refine aV ?_)
 refine aQ (by first | exact .inl rfl | exact .inr rfl) rfl rfl _ _ aD aF (⟨rfl, rfl, congrArg Value.bool (gD ⟨fun e => ⟨by omega, hc.1 e⟩, fun e => hc.2 e.2⟩)⟩)
theorem pR {r : RW} (hl : r.g1.length ≤ 1000000000 ∧ r.g2.length ≤ 1000000000) (h : Hv I0 (isW r)) :
  CD Tryz.prog 74 [wv r] X w0 M0 I0 (fun v M I => M0 = M ∧ I0 = I ∧ v = .bool (B r.good)) := by
 refine aJV h (fun hf => ?_)
 obtain ⟨n1, p1, g1, c1, n2, p2, g2, c2⟩ := r
 simp only at hl
 by_cases k1 : qU n1 g1
 ·by_cases k2 : qU n2 g2
  ·obtain ⟨a1, a2⟩ := aHE k1 hf.u1
   obtain ⟨b1, b2⟩ := aHE k2 hf.u2
   have hg : (RW.mk n1 p1 g1 c1 n2 p2 g2 c2).good ↔ (0 < zI n2 g2 ∧ Int.gcd (zI n1 g1) (zI n2 g2) = 1) := ⟨fun h => h.2.2, fun h => ⟨k1, k2, h⟩⟩
   rw [gD hg]
   generalize zI n1 g1 = y at *
   generalize zI n2 g2 = z at *
   subst a1; subst a2; subst b1; subst b2
   refine aAX (p := p1) (c := c1) (z := y) (k := 30000000000) (List.Mem.head _) hf.k1 (by omega) ?_
   refine aAX (p := p2) (c := c2) (z := z) (k := 30000000000) (List.Mem.tail _ (List.Mem.tail _ (List.Mem.head _))) hf.k2 (by omega) ?_
   exact aEW (by omega) (List.Mem.tail _ (List.Mem.head _)) (List.Mem.head _)
  ·have hg : ¬ (RW.mk n1 p1 g1 c1 n2 p2 g2 c2).good := fun h => k2 h.2.1
   rw [bN hg]
   have hV1 := fun M0 I0 => rR (X := X) (w0 := w0) (M0 := M0) (I0 := I0) (neg := n1) (q := p1) (gs := g1) (c := c1) hf.l1
   have hV2 := fun M0 I0 => rR (X := X) (w0 := w0) (M0 := M0) (I0 := I0) (neg := n2) (q := p2) (gs := g2) (c := c2) hf.l2
   rw [dG k1] at hV1
   rw [bN k2] at hV2
   refine cO Tryz.func74 rfl Tryz.ntmps74 rfl ?_
   refine aL ?_
   refine aM ?_
   (refine aR rfl rfl rfl ?_; intro b; refine ⟨okF, ?_⟩)
   repeat (refine aV ?_)
   (refine aA rfl (hV1 _ _ aC) rfl rfl ?_; rintro _ _ _ ⟨rfl, rfl, rfl⟩; refine ⟨okF, ?_⟩)
   repeat (refine aV ?_)
   (refine aA rfl (hV2 _ _ aC) rfl rfl ?_; rintro _ _ _ ⟨rfl, rfl, rfl⟩; refine ⟨okF, ?_⟩)
   repeat (refine aV ?_)
   refine aQ (by first | exact .inl rfl | exact .inr rfl) rfl rfl _ _ aD aF (⟨rfl, rfl, rfl⟩)
 ·have hg : ¬ (RW.mk n1 p1 g1 c1 n2 p2 g2 c2).good := fun h => k1 h.1
  rw [bN hg]
  have hV1 := fun M0 I0 => rR (X := X) (w0 := w0) (M0 := M0) (I0 := I0) (neg := n1) (q := p1) (gs := g1) (c := c1) hf.l1
  rw [bN k1] at hV1
  refine cO Tryz.func74 rfl Tryz.ntmps74 rfl ?_
  refine aL ?_
  refine aM ?_
  (refine aR rfl rfl rfl ?_; intro b; refine ⟨okF, ?_⟩)
  repeat (refine aV ?_)
  (refine aA rfl (hV1 _ _ aC) rfl rfl ?_; rintro _ _ _ ⟨rfl, rfl, rfl⟩; refine ⟨okF, ?_⟩)
  repeat (refine aV ?_)
  refine aQ (by first | exact .inl rfl | exact .inr rfl) rfl rfl _ _ aD aF (⟨rfl, rfl, rfl⟩)
end
end Go.Proofs.YtkccjglmnhgabaaGreat
namespace Go.Proofs.YtkccjglmnhgabaaGreat
open Go Go.Fx
structure V2 where
 x : Rat
 y : Rat
deriving DecidableEq
namespace V2
def sub (a b : V2) : V2 := ⟨a.x - b.x, a.y - b.y⟩
def add (a b : V2) : V2 := ⟨a.x + b.x, a.y + b.y⟩
def dot (a b : V2) : Rat := a.x * b.x + a.y * b.y
def crs (a b : V2) : Rat := a.x * b.y - a.y * b.x
def scl (a : V2) (k : Rat) : V2 := ⟨k * a.x, k * a.y⟩
def sd (a : V2) : V2 := ⟨a.y, -a.x⟩
def z0 (a : V2) : Prop := a.x = 0 ∧ a.y = 0
instance (a : V2) : Decidable a.z0 := by unfold z0; exact inferInstance
end V2
def ahd (c f p : V2) : Rat := (p.sub c).dot f
def slp (c f p : V2) : Rat := (p.sub c).dot f.sd / ahd c f p
def cnA (own org : Rat) : Rat := own - org
def cnB (p : V2) (own org : Rat) : V2 := ((p.sd).scl (-(1 + own * org))).sub (p.scl (own - org))
def mtZ (a0 a1 : Rat) (b0 b1 : V2) : V2 := ((b0.sd).scl a1).sub ((b1.sd).scl a0)
def mtC (a0 a1 : Rat) (b0 b1 : V2) : V2 := (mtZ a0 a1 b0 b1).scl (b0.crs b1 / (mtZ a0 a1 b0 b1).dot (mtZ a0 a1 b0 b1))
theorem aPP {x y : Rat} (h : ¬ (x = 0 ∧ y = 0)) : 0 < x * x + y * y := by
 have hx : 0 ≤ x * x := by
  rcases (Rat.le_total : 0 ≤ x ∨ x ≤ 0) with h | h
  ·exact Rat.mul_nonneg h h
  ·have h2 : 0 ≤ -x := by grind
   have := Rat.mul_nonneg h2 h2
   grind
 have hy : 0 ≤ y * y := by
  rcases (Rat.le_total : 0 ≤ y ∨ y ≤ 0) with h | h
  ·exact Rat.mul_nonneg h h
  ·have h2 : 0 ≤ -y := by grind
   have := Rat.mul_nonneg h2 h2
   grind
 by_cases h1 : x = 0
 ·have h2 : y ≠ 0 := fun e => h ⟨h1, e⟩
  have : y * y ≠ 0 := fun e => by rcases Rat.mul_eq_zero.1 e with e | e <;> exact h2 e
  grind
 ·have : x * x ≠ 0 := fun e => by rcases Rat.mul_eq_zero.1 e with e | e <;> exact h1 e
  grind
end Go.Proofs.YtkccjglmnhgabaaGreat
namespace Go.Fx
def Rest (P : Program) (l : List Oper) (Q : Exit → Act → World → Prop) (Cs : Nat → World → Prop) (fuel k : Nat) (listed : Array Bool) : Exit → Act → World → Prop
 | .normal, a, w => oG P l.toArray Q Cs fuel k listed a w
 | _, _, _ => False
section
variable {P : Program} {n : Nat} {Q : Exit → Act → World → Prop} {G : Env} {w : World} {l : List Oper} {Cs : Nat → World → Prop}
theorem sQ {fuel fuel' k : Nat} {listed listed' : Array Bool} (p ms : List Nat) (hm : ∀ s w, Cs s w → Cs (s + 1) w) (hs : Region.noSelect l.toArray = true) (hok : lJ l.toArray p ms listed = some listed') (hf : fuel' = fuel + p.length) (hsz : listed.size = l.toArray.size) (hC : Cs k w)
  (h : R P n l (Rest P l Q Cs fuel (k + vY l.toArray p) listed') (.any Cs k ms) (pick l p) G w) : N n (Rest P l Q Cs fuel' k listed) .normal G w := ⟨fun a ha => by
 subst hf
 exact oD hm hs p ms k listed a w hC hsz hok (fun _ _ _ _ hq => hq) (h.go a ha)⟩
theorem aAM {fuel k : Nat} {listed : Array Bool} (p ms : List Nat) (hm : ∀ s w, Cs s w → Cs (s + 1) w) (hs : Region.noSelect l.toArray = true) (hok : iI l.toArray p ms listed = true) (hf : fuel = p.length) (hsz : listed.size = l.toArray.size) (hC : Cs k w)
  (h : R P n l Q (.any Cs k ms) (pick l p) G w) : N n (Rest P l Q Cs fuel k listed) .normal G w := ⟨fun a ha => by
 subst hf
 exact jL hm hs p ms k listed a w hC hsz hok (h.go a ha)⟩
theorem rV {fuel k i : Nat} {listed : Array Bool} {o : Oper} {a : Act} (hi : l.toArray[i]? = some o) (hk : fA o.op = false)
  (h : wpM P l.toArray (Rest P l Q Cs fuel (k + 1) (listed.setIfInBounds i true)) (.any Cs k []) (pick l [i]) a w) :
  wpOp P l.toArray QF i (fun a' w' => Cs (k + eAt l.toArray i) w' ∧ oG P l.toArray Q Cs fuel (k + eAt l.toArray i) (listed.setIfInBounds i true) a' w') a w := by
 have hg : nth l i = o := aBN l i o (by simpa using hi)
 simp only [pick, hg] at h
 rw [uS hi hk]
 unfold wpOp
 simp only [hi]
 by_cases hw : Region.wanted o (yielded l.toArray a.tmps) = true
 ·rw [if_pos hw]
  rcases h.1 hw with ⟨hk2, _⟩ | ⟨_, hk2⟩
  ·rw [hk] at hk2; cases hk2
  ·exact .inl (Oper.wp_mono (fun a' w' ⟨h1, h2⟩ => ⟨h1, h2⟩) hk2)
 ·rw [if_neg hw]
  obtain ⟨hh1, hh2⟩ := h.2 (by simpa using hw)
  simp only [Mode.held, hk, cond_false] at hh1
  exact ⟨hh1, hh2⟩
def tY (ops : Array Oper) (i : Nat) : Bool :=
 match ops[i]? with
 | some o => !fA o.op
 | none => false
theorem yB {fuel k i j : Nat} {listed : Array Bool} (hr : (Region.ready .any l.toArray listed == [i, j] && tY l.toArray i && tY l.toArray j) = true)
  (h1 : R P n l (Rest P l Q Cs fuel (k + 1) (listed.setIfInBounds i true)) (.any Cs k []) (pick l [i]) G w)
  (h2 : R P n l (Rest P l Q Cs fuel (k + 1) (listed.setIfInBounds j true)) (.any Cs k []) (pick l [j]) G w) : N n (Rest P l Q Cs (fuel + 1) k listed) .normal G w := ⟨fun a ha => by
 simp only [Bool.and_eq_true, beq_iff_eq] at hr
 obtain ⟨⟨hr, e1⟩, e2⟩ := hr
 have get : ∀ x, tY l.toArray x = true → ∃ o, l.toArray[x]? = some o ∧ fA o.op = false := fun x hx => by
  unfold tY at hx
  cases ho : l.toArray[x]? with
  | none => simp [ho] at hx
  | some o => simp [ho] at hx; exact ⟨o, rfl, hx⟩
 obtain ⟨o1, ho1, hk1⟩ := get i e1
 obtain ⟨o2, ho2, hk2⟩ := get j e2
 refine ⟨fun h0 => (by rw [hr] at h0; cases h0), fun x hx => ?_⟩
 rw [hr] at hx
 simp only [List.mem_cons, List.not_mem_nil, or_false] at hx
 rcases hx with rfl | rfl
 ·exact rV ho1 hk1 (h1.go a ha)
 ·exact rV ho2 hk2 (h2.go a ha)⟩
theorem aDI {fuel k i j m : Nat} {listed : Array Bool} (hr : (Region.ready .any l.toArray listed == [i, j, m] && tY l.toArray i && tY l.toArray j && tY l.toArray m) = true)
  (h1 : R P n l (Rest P l Q Cs fuel (k + 1) (listed.setIfInBounds i true)) (.any Cs k []) (pick l [i]) G w)
  (h2 : R P n l (Rest P l Q Cs fuel (k + 1) (listed.setIfInBounds j true)) (.any Cs k []) (pick l [j]) G w)
  (h3 : R P n l (Rest P l Q Cs fuel (k + 1) (listed.setIfInBounds m true)) (.any Cs k []) (pick l [m]) G w) : N n (Rest P l Q Cs (fuel + 1) k listed) .normal G w := ⟨fun a ha => by
 simp only [Bool.and_eq_true, beq_iff_eq] at hr
 obtain ⟨⟨⟨hr, e1⟩, e2⟩, e3⟩ := hr
 have get : ∀ x, tY l.toArray x = true → ∃ o, l.toArray[x]? = some o ∧ fA o.op = false := fun x hx => by
  unfold tY at hx
  cases ho : l.toArray[x]? with
  | none => simp [ho] at hx
  | some o => simp [ho] at hx; exact ⟨o, rfl, hx⟩
 obtain ⟨o1, ho1, hk1⟩ := get i e1
 obtain ⟨o2, ho2, hk2⟩ := get j e2
 obtain ⟨o3, ho3, hk3⟩ := get m e3
 refine ⟨fun h0 => (by rw [hr] at h0; cases h0), fun x hx => ?_⟩
 rw [hr] at hx
 simp only [List.mem_cons, List.not_mem_nil, or_false] at hx
 rcases hx with rfl | rfl | rfl
 ·exact rV ho1 hk1 (h1.go a ha)
 ·exact rV ho2 hk2 (h2.go a ha)
 ·exact rV ho3 hk3 (h3.go a ha)⟩
theorem aKZ {id : Nat} (Cs : Nat → World → Prop) (hx : P.follows .mixedOrders = true) (h : N n (Rest P l Q Cs l.length 0 (Array.replicate l.length false)) .normal G w.drew) : T P n (.region id l.toArray true) Q G w := ⟨fun a ha => by
 refine wp_region_any hx ?_
 have := h.go a ha
 have e : l.toArray.size = l.length := by simp
 rw [e]
 exact oI _ _ _ _ _ this⟩
end
section
variable {P : Program} {n : Nat} {Q : Exit → Act → World → Prop} {G : Env} {X : List Nat} {w0 : World} {M M1 : List Ent} {I I1 : List aZ} {l : List Oper}
theorem iL {id : Nat} (M1 : List Ent) (I1 : List aZ) (hx : P.follows .mixedOrders = true) (h : ND n (Rest P l Q (uI X w0 M1 I1) l.length 0 (Array.replicate l.length false)) .normal G X w0 M I) : TD P n (.region id l.toArray true) Q G X w0 M I :=
 ⟨fun w hw => aKZ (uI X w0 M1 I1) hx (h.go w.drew hw.drew)⟩
theorem bH {fuel fuel' k : Nat} {listed listed' : Array Bool} (p ms : List Nat) (hM : SubP M M1) (hI : Inc I I1) (hs : Region.noSelect l.toArray = true) (hok : lJ l.toArray p ms listed = some listed') (hf : fuel' = fuel + p.length) (hsz : listed.size = l.toArray.size)
  (h : RD P n l (Rest P l Q (uI X w0 M1 I1) fuel (k + vY l.toArray p) listed') (.any (uI X w0 M1 I1) k ms) (pick l p) G X w0 M I) : ND n (Rest P l Q (uI X w0 M1 I1) fuel' k listed) .normal G X w0 M I :=
 ⟨fun w hw => sQ p ms (fun _ _ h => h) hs hok hf hsz (hw.weak hM hI) (h.go w hw)⟩
theorem aG {fuel k : Nat} {listed : Array Bool} (p ms : List Nat) (hM : SubP M M1) (hI : Inc I I1) (hs : Region.noSelect l.toArray = true) (hok : iI l.toArray p ms listed = true) (hf : fuel = p.length) (hsz : listed.size = l.toArray.size)
  (h : RD P n l Q (.any (uI X w0 M1 I1) k ms) (pick l p) G X w0 M I) : ND n (Rest P l Q (uI X w0 M1 I1) fuel k listed) .normal G X w0 M I :=
 ⟨fun w hw => aAM p ms (fun _ _ h => h) hs hok hf hsz (hw.weak hM hI) (h.go w hw)⟩
theorem aK {fuel k i j : Nat} {listed : Array Bool} (hr : (Region.ready .any l.toArray listed == [i, j] && tY l.toArray i && tY l.toArray j) = true)
  (h1 : RD P n l (Rest P l Q (uI X w0 M1 I1) fuel (k + 1) (listed.setIfInBounds i true)) (.any (uI X w0 M1 I1) k []) (pick l [i]) G X w0 M I)
  (h2 : RD P n l (Rest P l Q (uI X w0 M1 I1) fuel (k + 1) (listed.setIfInBounds j true)) (.any (uI X w0 M1 I1) k []) (pick l [j]) G X w0 M I) : ND n (Rest P l Q (uI X w0 M1 I1) (fuel + 1) k listed) .normal G X w0 M I :=
 ⟨fun w hw => yB hr (h1.go w hw) (h2.go w hw)⟩
theorem fB {fuel k i j m : Nat} {listed : Array Bool} (hr : (Region.ready .any l.toArray listed == [i, j, m] && tY l.toArray i && tY l.toArray j && tY l.toArray m) = true)
  (h1 : RD P n l (Rest P l Q (uI X w0 M1 I1) fuel (k + 1) (listed.setIfInBounds i true)) (.any (uI X w0 M1 I1) k []) (pick l [i]) G X w0 M I)
  (h2 : RD P n l (Rest P l Q (uI X w0 M1 I1) fuel (k + 1) (listed.setIfInBounds j true)) (.any (uI X w0 M1 I1) k []) (pick l [j]) G X w0 M I)
  (h3 : RD P n l (Rest P l Q (uI X w0 M1 I1) fuel (k + 1) (listed.setIfInBounds m true)) (.any (uI X w0 M1 I1) k []) (pick l [m]) G X w0 M I) : ND n (Rest P l Q (uI X w0 M1 I1) (fuel + 1) k listed) .normal G X w0 M I :=
 ⟨fun w hw => aDI hr (h1.go w hw) (h2.go w hw) (h3.go w hw)⟩
end
end Go.Fx
