/- fiducialref02: Add, Sub, Mul, Divide, Compare, Same Fractions as they come in: whatever bits, canonical or not. The plane of a line sensor, plain: slopes, conditions, the position. Drawn regions whose order forks more than once: what is left of a region as an end. -/
import Derived.Test.YtgeagiikkeiioaaGreatZgau
import Derived.Test.YtgeagiikkeiioaaGreatZgao
set_option linter.unusedSimpArgs false
set_option linter.unusedVariables false
set_option maxRecDepth 100000
set_option maxHeartbeats 4000000
namespace Go.Proofs.YtgeagiikkeiioaaGreat
open Go Go.Fx
section
variable {X : List Nat} {w0 : World} {M0 : List Ent} {I0 : List bA}
theorem aBP {a b : RE} {k m : Nat} (hk : k + m + 1 ≤ 100000000000) (ha : Hv I0 (eQ a k)) (hb : Hv I0 (eQ b m)) :
  CD Tryz.prog 139 [rv a, rv b] X w0 M0 I0 (RQ (a.q + b.q) (k + m + 1) M0 I0) := by
 have hM1 := fun u v M0 I0 => qM (X := X) (w0 := w0) (M0 := M0) (I0 := I0) (u := u) (v := v) (y := a.q.num) (z := b.q.den) (k0 := k) (m0 := m) (by omega)
 have hM2 := fun u v M0 I0 => qM (X := X) (w0 := w0) (M0 := M0) (I0 := I0) (u := u) (v := v) (y := b.q.num) (z := a.q.den) (k0 := m) (m0 := k) (by omega)
 have hM3 := fun u v M0 I0 => qM (X := X) (w0 := w0) (M0 := M0) (I0 := I0) (u := u) (v := v) (y := a.q.den) (z := b.q.den) (k0 := k) (m0 := m) (by omega)
 have hA := fun u v M0 I0 => aKQ (X := X) (w0 := w0) (M0 := M0) (I0 := I0) (u := u) (v := v) (y := a.q.num * b.q.den) (z := b.q.num * a.q.den) (k := k + m) (m := m + k) (c := k + m + 1) (by omega) (by omega) (by omega) (aJZ k m)
 have hR := fun u v M0 I0 => tH (X := X) (w0 := w0) (M0 := M0) (I0 := I0) (u := u) (v := v) (n := a.q.num * b.q.den + b.q.num * a.q.den) (d := a.q.den * b.q.den) (k := k + m + 1) (by omega) (sF _ _)
 rw [← aBG] at hR
 refine bD Tryz.func139 rfl Tryz.ntmps139 rfl ?_
 refine aJ ?_
 refine aI ?_
 (refine aP rfl rfl rfl ?_; intro b1; refine ⟨okF, ?_⟩)
 (refine aP rfl rfl rfl ?_; intro b2; refine ⟨okF, ?_⟩)
 (refine aN rfl rfl ?_; intro b3; refine ⟨okF, ?_⟩)
 repeat (refine aV ?_)
 (refine aA rfl (lH (k := k) (by omega) ha) rfl rfl ?_; rintro _ _ _ ⟨rfl, rfl, rfl⟩; refine ⟨okF, ?_⟩)
 (refine aN rfl rfl ?_; intro b4; refine ⟨okF, ?_⟩)
 repeat (refine aV ?_)
 (refine aA rfl (lH (k := m) (by omega) hb) rfl rfl ?_; rintro _ _ _ ⟨rfl, rfl, rfl⟩; refine ⟨okF, ?_⟩)
 (refine aN rfl rfl ?_; intro b5; refine ⟨okF, ?_⟩)
 refine iB (e := a) (k := k) ha ?_
 refine iB (e := b) (k := m) hb.cons.cons ?_
 repeat (refine aV ?_)
 (repeat refine aJ ?_); refine fT (.blk b5 (eR b) 42 :: .blk b4 (eR a) 42 :: M0) (I0) [0, 1, 2, 3, 5, 6, 7, 8, 11, 12, 13, 14, 4, 9, 10, 15, 16, 17] [5, 4, 5, 4, 5, 4, 5, 4, 5, 4, 5, 4, 0, 0, 0, 0, 0, 0] aC aD mixed (by kernel_rfl) ?_
 repeat (refine aV ?_)
 (refine aA rfl (hM1 _ _ _ _ aB aB) rfl rfl ?_; rintro _ _ _ ⟨rfl, rfl⟩; refine ⟨okF, ?_⟩)
 (refine aA rfl (hM2 _ _ _ _ aB aB) rfl rfl ?_; rintro _ _ _ ⟨rfl, rfl⟩; refine ⟨okF, ?_⟩)
 (refine aA rfl (hA _ _ _ _ aB aB) rfl rfl ?_; rintro _ _ _ ⟨rfl, rfl⟩; refine ⟨okF, ?_⟩)
 (refine aA rfl (hM3 _ _ _ _ aB aB) rfl rfl ?_; rintro _ _ _ ⟨rfl, rfl⟩; refine ⟨okF, ?_⟩)
 refine aFF (k2 := k + m + 1) (List.Mem.head _) (by omega) ?_
 (refine aA rfl (hR _ _ _ _ aB aB) rfl rfl ?_; rintro _ _ _ ⟨rfl, e, rfl, he, rfl⟩; refine ⟨okF, ?_⟩)
 repeat (refine aV ?_)
 refine bG (cs := eR e) (.inl rfl) rfl rfl aB rfl M0 (eQ e (k + m + 1) :: I0) aC aD ⟨rfl, e, rfl, he, rfl⟩
theorem aBY {a b : RE} {k m : Nat} (hk : k + m ≤ 100000000000) (ha : Hv I0 (eQ a k)) (hb : Hv I0 (eQ b m)) :
  CD Tryz.prog 140 [rv a, rv b] X w0 M0 I0 (RQ (a.q * b.q) (k + m) M0 I0) := by
 have hM1 := fun u v M0 I0 => qM (X := X) (w0 := w0) (M0 := M0) (I0 := I0) (u := u) (v := v) (y := a.q.num) (z := b.q.num) (k0 := k) (m0 := m) (by omega)
 have hM3 := fun u v M0 I0 => qM (X := X) (w0 := w0) (M0 := M0) (I0 := I0) (u := u) (v := v) (y := a.q.den) (z := b.q.den) (k0 := k) (m0 := m) (by omega)
 have hR := fun u v M0 I0 => tH (X := X) (w0 := w0) (M0 := M0) (I0 := I0) (u := u) (v := v) (n := a.q.num * b.q.num) (d := a.q.den * b.q.den) (k := k + m) (by omega) (sF _ _)
 rw [← aBT] at hR
 refine bD Tryz.func140 rfl Tryz.ntmps140 rfl ?_
 refine aJ ?_
 refine aI ?_
 (refine aP rfl rfl rfl ?_; intro b1; refine ⟨okF, ?_⟩)
 (refine aP rfl rfl rfl ?_; intro b2; refine ⟨okF, ?_⟩)
 (refine aN rfl rfl ?_; intro b3; refine ⟨okF, ?_⟩)
 repeat (refine aV ?_)
 (refine aA rfl (lH (k := k) (by omega) ha) rfl rfl ?_; rintro _ _ _ ⟨rfl, rfl, rfl⟩; refine ⟨okF, ?_⟩)
 (refine aN rfl rfl ?_; intro b4; refine ⟨okF, ?_⟩)
 repeat (refine aV ?_)
 (refine aA rfl (lH (k := m) (by omega) hb) rfl rfl ?_; rintro _ _ _ ⟨rfl, rfl, rfl⟩; refine ⟨okF, ?_⟩)
 (refine aN rfl rfl ?_; intro b5; refine ⟨okF, ?_⟩)
 refine iB (e := a) (k := k) ha ?_
 refine iB (e := b) (k := m) hb.cons.cons ?_
 repeat (refine aV ?_)
 (repeat refine aJ ?_); refine fT (.blk b5 (eR b) 42 :: .blk b4 (eR a) 42 :: M0) (I0) [0, 1, 2, 3, 5, 6, 7, 8, 4, 9, 10, 11] [3, 2, 3, 2, 3, 2, 3, 2, 0, 0, 0, 0] aC aD mixed (by kernel_rfl) ?_
 repeat (refine aV ?_)
 (refine aA rfl (hM1 _ _ _ _ aB aB) rfl rfl ?_; rintro _ _ _ ⟨rfl, rfl⟩; refine ⟨okF, ?_⟩)
 (refine aA rfl (hM3 _ _ _ _ aB aB) rfl rfl ?_; rintro _ _ _ ⟨rfl, rfl⟩; refine ⟨okF, ?_⟩)
 (refine aA rfl (hR _ _ _ _ aB aB) rfl rfl ?_; rintro _ _ _ ⟨rfl, e, rfl, he, rfl⟩; refine ⟨okF, ?_⟩)
 repeat (refine aV ?_)
 refine bG (cs := eR e) (.inl rfl) rfl rfl aB rfl M0 (eQ e (k + m) :: I0) aC aD ⟨rfl, e, rfl, he, rfl⟩
theorem aOV {a b : RE} {k m : Nat} (hk : k + m + 1 ≤ 100000000000) (ha : Hv I0 (eQ a k)) (hb : Hv I0 (eQ b m)) :
  CD Tryz.prog 149 [rv a, rv b] X w0 M0 I0 (RQ (a.q - b.q) (k + m + 1) M0 I0) := by
 refine bD Tryz.func149 rfl Tryz.ntmps149 rfl ?_
 refine aJ ?_
 refine aI ?_
 (refine aP rfl rfl rfl ?_; intro b1; refine ⟨okF, ?_⟩)
 (refine aP rfl rfl rfl ?_; intro b2; refine ⟨okF, ?_⟩)
 (refine aN rfl rfl ?_; intro b3; refine ⟨okF, ?_⟩)
 repeat (refine aV ?_)
 (repeat refine aJ ?_); refine bK 1 [0, 1, 2, 3, 4] [1, 1, 0, 0, 0] mixed (by kernel_rfl) ?_
 repeat (refine aV ?_)
 (refine aA rfl (aQM (k := m) (by omega) hb) rfl rfl ?_; rintro _ _ _ ⟨rfl, y, rfl, hy, rfl⟩; refine ⟨okF, ?_⟩)
 rw [Rat.sub_eq_add_neg, ← hy]
 (refine aA rfl (aBP hk ha.cons (Hv.mem (List.Mem.head _))) rfl rfl ?_; rintro _ _ _ ⟨rfl, e, rfl, he, rfl⟩; refine ⟨okF, ?_⟩)
 repeat (refine aV ?_)
 refine bG (cs := eR e) (.inl rfl) rfl rfl aB rfl M0 (eQ e (k + m + 1) :: I0) aC aD ⟨rfl, e, rfl, he, rfl⟩
theorem aSJ {u v : Value} {n d : Int} {k : Nat} (hk : k ≤ 150000000000) (hd0 : d ≠ 0) (hu : iF u n k ∈ I0) (hv : iF v d k ∈ I0) :
  CD Tryz.prog 189 [u, v] X w0 M0 I0 (RQc (Rat.divInt n d) k M0 I0) := by
 have hs0 : ¬ d.sign = 0 := fun h => hd0 (Int.sign_eq_zero_iff_zero.1 h)
 have hS := fun M0 I0 => qZ (X := X) (w0 := w0) (M0 := M0) (I0 := I0) (u := v) (z := d) (k := k) (by omega)
 have hR := fun M0 I0 => tH (X := X) (w0 := w0) (M0 := M0) (I0 := I0) (u := u) (v := v) (n := n) (d := d) (k := k) (by omega) hd0
 generalize d.sign = sd at *
 refine CD.post (K := fun v M I => ∃ q q', RQc (Rat.divInt n d) k M0 (aT q' (recs eG (gr d.natAbs)) :: aT q (recs eG (gr n.natAbs)) :: I0) v M I) (dC hu (fun q cq e hc hy => ?_)) (fun v M I w h hw => ?_)
 case refine_2 =>
  obtain ⟨q, q', e1, e2, h2, h3, h4⟩ := h
  subst e1; subst h4
  exact ⟨_, _, ⟨rfl, e2, h2, h3, rfl⟩, hw.inc (Inc.cons (List.Mem.head _) (Inc.wk (Inc.wk (Inc.wk Inc.refl))))⟩
 subst e
 refine dC (List.Mem.tail _ hv) (fun q' cq' e hc' hz => ?_)
 subst e
 unfold iv at *
 refine bD Tryz.func189 rfl Tryz.ntmps189 rfl ?_
 refine aJ ?_
 refine aI ?_
 (refine aP rfl rfl rfl ?_; intro b1; refine ⟨okF, ?_⟩)
 (refine aP rfl rfl rfl ?_; intro b2; refine ⟨okF, ?_⟩)
 (refine aN rfl rfl ?_; intro b3; refine ⟨okF, ?_⟩)
 repeat (refine aV ?_)
 (refine aA rfl (hS _ _ aB) rfl rfl ?_; rintro _ _ _ ⟨rfl, rfl, rfl⟩; refine ⟨okF, ?_⟩)
 repeat (refine aV ?_)
 (refine aA rfl (hR _ _ aB aB) rfl rfl ?_; rintro _ _ _ ⟨rfl, e, rfl, he, rfl⟩; refine ⟨okF, ?_⟩)
 repeat (refine aV ?_)
 refine qC (rs := [.cell 4 42, .tmp 5]) (vs := [rv e, .int .i64 0]) (.inl rfl) rfl (.cellN (cs := eR e) inferInstance rfl aB rfl (.tmp rfl .nil)) rfl M0 (eQ e k :: aT q' (recs eG (gr d.natAbs)) :: aT q (recs eG (gr n.natAbs)) :: I0) aC aD ⟨q, q', rfl, e, rfl, he, rfl⟩
theorem aHG {a b : RE} {k m : Nat} (hk : k + m ≤ 100000000000) (hb0 : b.q ≠ 0) (ha : Hv I0 (eQ a k)) (hb : Hv I0 (eQ b m)) :
  CD Tryz.prog 148 [rv a, rv b] X w0 M0 I0 (RQc (a.q / b.q) (k + m) M0 I0) := by
 have hM1 := fun u v M0 I0 => qM (X := X) (w0 := w0) (M0 := M0) (I0 := I0) (u := u) (v := v) (y := a.q.num) (z := b.q.den) (k0 := k) (m0 := m) (by omega)
 have hM3 := fun u v M0 I0 => qM (X := X) (w0 := w0) (M0 := M0) (I0 := I0) (u := u) (v := v) (y := a.q.den) (z := b.q.num) (k0 := k) (m0 := m) (by omega)
 have hR := fun u v M0 I0 => aSJ (X := X) (w0 := w0) (M0 := M0) (I0 := I0) (u := u) (v := v) (n := a.q.num * b.q.den) (d := a.q.den * b.q.num) (k := k + m) (by omega) (aAN hb0)
 rw [← aBK] at hR
 refine bD Tryz.func148 rfl Tryz.ntmps148 rfl ?_
 refine aJ ?_
 refine aI ?_
 (refine aP rfl rfl rfl ?_; intro b1; refine ⟨okF, ?_⟩)
 (refine aP rfl rfl rfl ?_; intro b2; refine ⟨okF, ?_⟩)
 (refine aN rfl rfl ?_; intro b3; refine ⟨okF, ?_⟩)
 repeat (refine aV ?_)
 (refine aA rfl (lH (k := k) (by omega) ha) rfl rfl ?_; rintro _ _ _ ⟨rfl, rfl, rfl⟩; refine ⟨okF, ?_⟩)
 (refine aN rfl rfl ?_; intro b4; refine ⟨okF, ?_⟩)
 repeat (refine aV ?_)
 (refine aA rfl (lH (k := m) (by omega) hb) rfl rfl ?_; rintro _ _ _ ⟨rfl, rfl, rfl⟩; refine ⟨okF, ?_⟩)
 (refine aN rfl rfl ?_; intro b5; refine ⟨okF, ?_⟩)
 refine iB (e := a) (k := k) ha ?_
 refine iB (e := b) (k := m) hb.cons.cons ?_
 repeat (refine aV ?_)
 (repeat refine aJ ?_); refine fT (.blk b5 (eR b) 42 :: .blk b4 (eR a) 42 :: M0) (I0) [0, 1, 2, 3, 5, 6, 7, 8, 4, 9, 10, 11, 12, 13, 14] [3, 2, 3, 2, 3, 2, 3, 2, 0, 0, 0, 0, 0, 0, 0] aC aD mixed (by kernel_rfl) ?_
 repeat (refine aV ?_)
 (refine aA rfl (hM1 _ _ _ _ aB aB) rfl rfl ?_; rintro _ _ _ ⟨rfl, rfl⟩; refine ⟨okF, ?_⟩)
 (refine aA rfl (hM3 _ _ _ _ aB aB) rfl rfl ?_; rintro _ _ _ ⟨rfl, rfl⟩; refine ⟨okF, ?_⟩)
 (refine aA rfl (hR _ _ _ _ aB aB) rfl rfl ?_; rintro _ _ _ ⟨rfl, e, rfl, he, rfl⟩; refine ⟨okF, ?_⟩)
 repeat (refine aV ?_)
 refine qC (rs := [.cell 4 42, .tmp 5]) (vs := [rv e, .int .i64 0]) (.inl rfl) rfl (.cellN (cs := eR e) inferInstance rfl aB rfl (.tmp rfl .nil)) rfl M0 (eQ e (k + m) :: I0) aC aD ⟨rfl, e, rfl, he, rfl⟩
end
end Go.Proofs.YtgeagiikkeiioaaGreat
namespace Go.Proofs.YtgeagiikkeiioaaGreat
open Go Go.Fx
structure RW where
 n1 : Bool
 p1 : Option Addr
 g1 : List Int
 c1 : Nat
 n2 : Bool
 p2 : Option Addr
 g2 : List Int
 c2 : Nat
instance : Inhabited RW := ⟨⟨false, none, [], 0, false, none, [], 0⟩⟩
abbrev eW (r : RW) : List Value := [.bool r.n1, .slice r.p1 r.g1.length r.c1, .bool r.n2, .slice r.p2 r.g2.length r.c2]
abbrev wv (r : RW) : Value := .agg #[.bool r.n1, .slice r.p1 r.g1.length r.c1, .bool r.n2, .slice r.p2 r.g2.length r.c2]
instance : Sized eW 4 := ⟨fun _ => rfl⟩
instance : Ones eW := ⟨fun m u hu => by
 simp only [eW, List.mem_cons, List.not_mem_nil, or_false] at hu
 rcases hu with rfl | rfl | rfl | rfl <;> rfl⟩
abbrev Cap (p : Option Addr) (n c : Nat) : Prop := n ≤ c ∧ (Ok p ∨ (n = 0 ∧ c = 0))
structure RW.Fit (r : RW) : Prop where
 u1 : ∀ x ∈ r.g1, 0 ≤ x
 u2 : ∀ x ∈ r.g2, 0 ≤ x
 l1 : (r.g1.length : Int) ≤ 9223372036854775807
 l2 : (r.g2.length : Int) ≤ 9223372036854775807
 k1 : Cap r.p1 r.g1.length r.c1
 k2 : Cap r.p2 r.g2.length r.c2
structure IsW (r : RW) (X : List Nat) (w : World) : Prop where
 fit : r.Fit
 s1 : Sl X w r.p1 (recs eG r.g1)
 s2 : Sl X w r.p2 (recs eG r.g2)
abbrev isW (r : RW) : bA := IsW r
instance (r : RW) : Fx.Good (IsW r) := ⟨fun X Y w w' h he hY => ⟨h.fit, Sl.carry h.s1 he hY, Sl.carry h.s2 he hY⟩⟩
def zI (n : Bool) (g : List Int) : Int := if n = true then -val g else val g
theorem uR {n : Bool} {g : List Int} (h : qQ n g) (hu : ∀ x ∈ g, 0 ≤ x) : B (zI n g < 0) = n ∧ gr (zI n g).natAbs = g := by
 rcases h with ⟨rfl, rfl⟩ | ⟨h1, h2, h3⟩
 ·exact ⟨aY (by simp [zI, val]), by simp [zI, val, gG]⟩
 ·have hd : Dig g := fun x hx => ⟨hu x hx, by
   have : ¬ 1000000000 ≤ x := fun e => h3 ⟨x, hx, e⟩
   omega⟩
  have hc : Can g := ⟨hd, h2⟩
  have hp : 0 < g.length := by cases g with | nil => exact absurd rfl h1 | cons a l => simp
  have hv := yE hc hp
  have hpp := iX (g.length - 1)
  have ha : (zI n g).natAbs = (val g).toNat := by unfold zI; split <;> omega
  refine ⟨?_, by rw [ha]; exact (aTK hc).symm⟩
  cases n with
  | true => exact bR (by simp only [zI, if_pos]; omega)
  | false => exact aY (by simp only [zI]; rw [if_neg (by decide)]; omega)
theorem sS (z : Int) : zI (B (z < 0)) (gr z.natAbs) = z := by
 unfold zI
 rw [cO, rP]
 by_cases h : z < 0
 ·rw [if_pos (by simpa using h)]; omega
 ·rw [if_neg (by simpa using h)]; omega
theorem aSO (n : Nat) : (1000000000 : Nat) ^ n ≤ 2 ^ (30 * n) := by
 rw [Nat.pow_mul]
 exact Nat.pow_le_pow_left (by decide) n
theorem aDW {z : Int} : z.natAbs ≤ 2 ^ (30 * (gr z.natAbs).length) := by
 have h1 := jR (bT z.natAbs)
 rw [cO] at h1
 have h2 := aSO (gr z.natAbs).length
 have h3 : ((1000000000 ^ (gr z.natAbs).length : Nat) : Int) = (1000000000 : Int) ^ (gr z.natAbs).length := by rw [Int.natCast_pow]; rfl
 omega
def RW.good (r : RW) : Prop := qQ r.n1 r.g1 ∧ qQ r.n2 r.g2 ∧ 0 < zI r.n2 r.g2 ∧ Int.gcd (zI r.n1 r.g1) (zI r.n2 r.g2) = 1
instance (r : RW) : Decidable r.good := by unfold RW.good; exact inferInstance
def RE.raw (e : RE) : RW := ⟨B (e.q.num < 0), e.p1, gr e.q.num.natAbs, e.c1, B ((e.q.den : Int) < 0), e.p2, gr (e.q.den : Int).natAbs, e.c2⟩
theorem RE.raw_good (e : RE) : e.raw.good := by
 refine ⟨xY _, xY _, ?_, ?_⟩
 ·show 0 < zI (B ((e.q.den : Int) < 0)) (gr (e.q.den : Int).natAbs)
  rw [sS]; have := e.q.den_nz; omega
 ·show Int.gcd (zI (B (e.q.num < 0)) (gr e.q.num.natAbs)) (zI (B ((e.q.den : Int) < 0)) (gr (e.q.den : Int).natAbs)) = 1
  rw [sS, sS]
  exact e.q.reduced
theorem RW.good_raw {r : RW} (hf : r.Fit) (h : r.good) : ∃ e : RE, r = e.raw := by
 obtain ⟨n1, p1, g1, c1, n2, p2, g2, c2⟩ := r
 obtain ⟨h1, h2, h3, h4⟩ := h
 simp only at h1 h2 h3 h4
 obtain ⟨a1, a2⟩ := uR h1 hf.u1
 obtain ⟨b1, b2⟩ := uR h2 hf.u2
 generalize zI n1 g1 = z1 at *
 generalize zI n2 g2 = z2 at *
 subst a1; subst a2; subst b1; subst b2
 have e2 : ((z2.natAbs : Nat) : Int) = z2 := by omega
 refine ⟨⟨⟨z1, z2.natAbs, by omega, ?_⟩, p1, c1, p2, c2⟩, ?_⟩
 ·exact h4
 ·unfold RE.raw
  simp only [e2]
theorem RE.fit {e : RE} {k : Nat} {X : List Nat} {w : World} (hk : k ≤ 1000000000000) (h : IsR e k X w) : IsW e.raw X w := by
 obtain ⟨q, c, h1, h2, h3, h4⟩ := h.num.ex
 obtain ⟨q', c', i1, i2, i3, i4⟩ := h.den.ex
 simp only [iv, Value.agg.injEq, Array.mk.injEq, List.cons.injEq, Value.slice.injEq, and_true, true_and] at h1 i1
 obtain ⟨rfl, rfl⟩ := h1
 obtain ⟨rfl, rfl⟩ := i1
 have a1 := fV h3 hk
 have a2 := fV i3 hk
 exact ⟨⟨fun x hx => (bT _ x hx).1, fun x hx => (bT _ x hx).1, by show ((gr e.q.num.natAbs).length : Int) ≤ _; omega, by show ((gr (e.q.den : Int).natAbs).length : Int) ≤ _; omega, h2, i2⟩, h4, i4⟩
theorem RE.isR_raw {e : RE} {k : Nat} {X : List Nat} {w : World} (h : IsW e.raw X w) (k1 : 30 * e.raw.g1.length ≤ k) (k2 : 30 * e.raw.g2.length ≤ k) : IsR e k X w :=
 ⟨⟨⟨e.p1, e.c1, rfl, h.fit.k1, Nat.le_trans aDW (Nat.pow_le_pow_right (by decide) k1), h.s1⟩⟩, ⟨⟨e.p2, e.c2, rfl, h.fit.k2, Nat.le_trans aDW (Nat.pow_le_pow_right (by decide) k2), h.s2⟩⟩⟩
theorem Hv.ofW {I : List bA} {e : RE} {k : Nat} (h : Hv I (isW e.raw)) (k1 : 30 * e.raw.g1.length ≤ k) (k2 : 30 * e.raw.g2.length ≤ k) : Hv I (eQ e k) := ⟨fun X w hw => RE.isR_raw (h.go X w hw) k1 k2⟩
section
variable {X : List Nat} {w0 : World} {M0 : List Ent} {I0 : List bA}
theorem aAK {P : Program} {f : FuncId} {vs : List Value} {K : Value → Prop} {r : RW} (h : Hv I0 (isW r)) (c : r.Fit → CD P f vs X w0 M0 (aT r.p1 (recs eG r.g1) :: aT r.p2 (recs eG r.g2) :: I0) (fun v M I => M0 = M ∧ aT r.p1 (recs eG r.g1) :: aT r.p2 (recs eG r.g2) :: I0 = I ∧ K v)) :
  CD P f vs X w0 M0 I0 (fun v M I => M0 = M ∧ I0 = I ∧ K v) := ⟨fun w hw => by
 have hr : IsW r (muts M0) w := h.go _ _ (fun ψ hm => (hw.imm ψ hm).2)
 have hw' := (hw.add (φ := aT r.p2 (recs eG r.g2)) ⟨hr.s2⟩).add (φ := aT r.p1 (recs eG r.g1)) ⟨hr.s1⟩
 refine ((c hr.fit).go w hw').mono (fun _ _ h => ?_)
 obtain ⟨_, _, ⟨rfl, rfl, h3⟩, hm⟩ := h
 exact ⟨_, _, ⟨rfl, rfl, h3⟩, hm.inc (Inc.wk (Inc.wk Inc.refl))⟩⟩
theorem uK {P : Program} {f : FuncId} {vs : List Value} {K : Value → Prop} {p : Option Addr} {c k : Nat} {z : Int} (hs : aT p (recs eG (gr z.natAbs)) ∈ I0) (hc : Cap p (gr z.natAbs).length c) (hk : 30 * (gr z.natAbs).length ≤ k) (h : CD P f vs X w0 M0 (iF (vI p c z) z k :: I0) (fun v M I => M0 = M ∧ iF (vI p c z) z k :: I0 = I ∧ K v)) :
  CD P f vs X w0 M0 I0 (fun v M I => M0 = M ∧ I0 = I ∧ K v) := ⟨fun w hw => by
 have hw' := aEY hw hs hc (Nat.le_trans aDW (Nat.pow_le_pow_right (by decide) hk))
 refine (h.go w hw').mono (fun _ _ h => ?_)
 obtain ⟨_, _, ⟨rfl, rfl, h3⟩, hm⟩ := h
 exact ⟨_, _, ⟨rfl, rfl, h3⟩, hm.inc (Inc.wk Inc.refl)⟩⟩
theorem aKI (n : Nat) : (fJ (n : Int) 1 = 0) ↔ n = 1 := by
 unfold fJ
 split
 ·omega
 ·split <;> omega
theorem aIP {p1 p2 : Option Addr} {c1 c2 k : Nat} {y z : Int} (hk : k ≤ 500000000000) (h1 : iF (vI p1 c1 y) y k ∈ I0) (h2 : iF (vI p2 c2 z) z k ∈ I0) :
  CD Tryz.prog 129 [.agg #[.bool (B (y < 0)), .slice p1 (gr y.natAbs).length c1, .bool (B (z < 0)), .slice p2 (gr z.natAbs).length c2]] X w0 M0 I0 (fun v M I => M0 = M ∧ I0 = I ∧ v = .bool (B (0 < z ∧ Int.gcd y z = 1))) := by
 have hV1 := fun M0 I0 h => uP (X := X) (w0 := w0) (M0 := M0) (I0 := I0) (u := vI p1 c1 y) (z := y) (k := k) (by omega) h
 have hV2 := fun M0 I0 h => uP (X := X) (w0 := w0) (M0 := M0) (I0 := I0) (u := vI p2 c2 z) (z := z) (k := k) (by omega) h
 have hS := fun M0 I0 => sG (X := X) (w0 := w0) (M0 := M0) (I0 := I0) (u := vI p2 c2 z) (z := z) (k := k) (by omega)
 have hs : z.sign ≤ 0 ↔ ¬ 0 < z := by rw [← Int.sign_pos_iff]; omega
 have hG := fun M0 I0 => aHZ (X := X) (w0 := w0) (M0 := M0) (I0 := I0) (u := vI p1 c1 y) (v := vI p2 c2 z) (y := y) (z := z) (k0 := k) (m := k) (by omega) (by omega)
 generalize hg : Int.gcd y z = g at *
 have hC := fun u v M0 I0 => vX (X := X) (w0 := w0) (M0 := M0) (I0 := I0) (u := u) (v := v) (y := g) (z := 1) (k := k + k) (m := 63) (by omega) (by omega)
 have hc := aKI g
 generalize fJ (g : Int) 1 = cv at *
 generalize z.sign = sz at *
 refine bE Tryz.func129 rfl Tryz.ntmps129 rfl ?_
 refine aJ ?_
 refine aI ?_
 (refine aP rfl rfl rfl ?_; intro b; refine ⟨okF, ?_⟩)
 repeat (refine aV ?_)
 (refine aA rfl (hV1 _ _ aB) rfl rfl ?_; rintro _ _ _ ⟨rfl, rfl, rfl⟩; refine ⟨okF, ?_⟩)
 repeat (refine aV ?_)
 (refine aA rfl (hV2 _ _ aB) rfl rfl ?_; rintro _ _ _ ⟨rfl, rfl, rfl⟩; refine ⟨okF, ?_⟩)
 repeat (refine aV ?_)
 (refine aA rfl (hS _ _ aB) rfl rfl ?_; rintro _ _ _ ⟨rfl, rfl, rfl⟩; refine ⟨okF, ?_⟩)
 repeat' (first | refine aV ?_ | refine aQ rfl (fun h => ?_) (fun h => ?_) | refine aR rfl rfl (fun h => ?_) (fun h => ?_) | fail)
 ·refine aH (by first | exact .inl rfl | exact .inr rfl) rfl rfl _ _ aC aD (⟨rfl, rfl, congrArg Value.bool (aY (fun e => hs.1 (by assumption) e.1)).symm⟩)
 (refine aA rfl (hG _ _ aB aB) rfl rfl ?_; rintro _ _ _ ⟨rfl, rfl⟩; refine ⟨okF, ?_⟩)
 repeat (refine aV ?_)
 (refine aA rfl (aEK (x := 1) (by decide)) rfl rfl ?_; rintro _ _ _ ⟨rfl, rfl⟩; refine ⟨okF, ?_⟩)
 (refine aA rfl (hC _ _ _ _ aB aB) rfl rfl ?_; rintro _ _ _ ⟨rfl, rfl, rfl⟩; refine ⟨okF, ?_⟩)
 repeat (refine aV ?_)
 refine aH (by first | exact .inl rfl | exact .inr rfl) rfl rfl _ _ aC aD (⟨rfl, rfl, congrArg Value.bool (jU ⟨fun e => ⟨by omega, hc.1 e⟩, fun e => hc.2 e.2⟩)⟩)
theorem aGU {p1 p2 : Option Addr} {c1 c2 k : Nat} {y z : Int} (hk : k ≤ 100000000000) (h1 : iF (vI p1 c1 y) y k ∈ I0) (h2 : iF (vI p2 c2 z) z k ∈ I0) :
  CD Tryz.prog 86 [.agg #[.bool (B (y < 0)), .slice p1 (gr y.natAbs).length c1, .bool (B (z < 0)), .slice p2 (gr z.natAbs).length c2]] X w0 M0 I0 (fun v M I => M0 = M ∧ I0 = I ∧ v = .bool (B (0 < z ∧ Int.gcd y z = 1))) := by
 have hV1 := fun M0 I0 h => xL (X := X) (w0 := w0) (M0 := M0) (I0 := I0) (u := vI p1 c1 y) (z := y) (k := k) (by omega) h
 have hV2 := fun M0 I0 h => xL (X := X) (w0 := w0) (M0 := M0) (I0 := I0) (u := vI p2 c2 z) (z := z) (k := k) (by omega) h
 have hS := fun M0 I0 => qZ (X := X) (w0 := w0) (M0 := M0) (I0 := I0) (u := vI p2 c2 z) (z := z) (k := k) (by omega)
 have hs : z.sign ≤ 0 ↔ ¬ 0 < z := by rw [← Int.sign_pos_iff]; omega
 have hG := fun M0 I0 => aES (X := X) (w0 := w0) (M0 := M0) (I0 := I0) (u := vI p1 c1 y) (v := vI p2 c2 z) (y := y) (z := z) (k0 := k) (m := k) (by omega) (by omega)
 generalize hg : Int.gcd y z = g at *
 have hC := fun u v M0 I0 => zC (X := X) (w0 := w0) (M0 := M0) (I0 := I0) (u := u) (v := v) (y := g) (z := 1) (k := k + k) (m := 63) (by omega) (by omega)
 have hc := aKI g
 generalize fJ (g : Int) 1 = cv at *
 generalize z.sign = sz at *
 refine bE Tryz.func86 rfl Tryz.ntmps86 rfl ?_
 refine aJ ?_
 refine aI ?_
 (refine aP rfl rfl rfl ?_; intro b; refine ⟨okF, ?_⟩)
 repeat (refine aV ?_)
 (refine aA rfl (hV1 _ _ aB) rfl rfl ?_; rintro _ _ _ ⟨rfl, rfl, rfl⟩; refine ⟨okF, ?_⟩)
 repeat (refine aV ?_)
 (refine aA rfl (hV2 _ _ aB) rfl rfl ?_; rintro _ _ _ ⟨rfl, rfl, rfl⟩; refine ⟨okF, ?_⟩)
 repeat (refine aV ?_)
 (refine aA rfl (hS _ _ aB) rfl rfl ?_; rintro _ _ _ ⟨rfl, rfl, rfl⟩; refine ⟨okF, ?_⟩)
 repeat' (first | refine aV ?_ | refine aQ rfl (fun h => ?_) (fun h => ?_) | refine aR rfl rfl (fun h => ?_) (fun h => ?_) | fail)
 ·refine aH (by first | exact .inl rfl | exact .inr rfl) rfl rfl _ _ aC aD (⟨rfl, rfl, congrArg Value.bool (aY (fun e => hs.1 (by assumption) e.1)).symm⟩)
 (refine aA rfl (hG _ _ aB aB) rfl rfl ?_; rintro _ _ _ ⟨rfl, rfl⟩; refine ⟨okF, ?_⟩)
 repeat (refine aV ?_)
 (refine aA rfl (uZ (x := 1) (by decide)) rfl rfl ?_; rintro _ _ _ ⟨rfl, rfl⟩; refine ⟨okF, ?_⟩)
 (refine aA rfl (hC _ _ _ _ aB aB) rfl rfl ?_; rintro _ _ _ ⟨rfl, rfl, rfl⟩; refine ⟨okF, ?_⟩)
 repeat (refine aV ?_)
 refine aH (by first | exact .inl rfl | exact .inr rfl) rfl rfl _ _ aC aD (⟨rfl, rfl, congrArg Value.bool (jU ⟨fun e => ⟨by omega, hc.1 e⟩, fun e => hc.2 e.2⟩)⟩)
theorem yQ {r : RW} (hl : r.g1.length ≤ 1000000000 ∧ r.g2.length ≤ 1000000000) (h : Hv I0 (isW r)) :
  CD Tryz.prog 129 [wv r] X w0 M0 I0 (fun v M I => M0 = M ∧ I0 = I ∧ v = .bool (B r.good)) := by
 refine aAK h (fun hf => ?_)
 obtain ⟨n1, p1, g1, c1, n2, p2, g2, c2⟩ := r
 simp only at hl
 by_cases k1 : qQ n1 g1
 ·by_cases k2 : qQ n2 g2
  ·obtain ⟨a1, a2⟩ := uR k1 hf.u1
   obtain ⟨b1, b2⟩ := uR k2 hf.u2
   have hg : (RW.mk n1 p1 g1 c1 n2 p2 g2 c2).good ↔ (0 < zI n2 g2 ∧ Int.gcd (zI n1 g1) (zI n2 g2) = 1) := ⟨fun h => h.2.2, fun h => ⟨k1, k2, h⟩⟩
   rw [jU hg]
   generalize zI n1 g1 = y at *
   generalize zI n2 g2 = z at *
   subst a1; subst a2; subst b1; subst b2
   refine uK (p := p1) (c := c1) (z := y) (k := 30000000000) (List.Mem.head _) hf.k1 (by omega) ?_
   refine uK (p := p2) (c := c2) (z := z) (k := 30000000000) (List.Mem.tail _ (List.Mem.tail _ (List.Mem.head _))) hf.k2 (by omega) ?_
   exact aIP (by omega) (List.Mem.tail _ (List.Mem.head _)) (List.Mem.head _)
  ·have hg : ¬ (RW.mk n1 p1 g1 c1 n2 p2 g2 c2).good := fun h => k2 h.2.1
   rw [aY hg]
   have hV1 := fun M0 I0 => uD (X := X) (w0 := w0) (M0 := M0) (I0 := I0) (neg := n1) (q := p1) (gs := g1) (c := c1) hf.l1
   have hV2 := fun M0 I0 => uD (X := X) (w0 := w0) (M0 := M0) (I0 := I0) (neg := n2) (q := p2) (gs := g2) (c := c2) hf.l2
   rw [bR k1] at hV1
   rw [aY k2] at hV2
   refine bE Tryz.func129 rfl Tryz.ntmps129 rfl ?_
   refine aJ ?_
   refine aI ?_
   (refine aP rfl rfl rfl ?_; intro b; refine ⟨okF, ?_⟩)
   repeat (refine aV ?_)
   (refine aA rfl (hV1 _ _ aB) rfl rfl ?_; rintro _ _ _ ⟨rfl, rfl, rfl⟩; refine ⟨okF, ?_⟩)
   repeat (refine aV ?_)
   (refine aA rfl (hV2 _ _ aB) rfl rfl ?_; rintro _ _ _ ⟨rfl, rfl, rfl⟩; refine ⟨okF, ?_⟩)
   repeat (refine aV ?_)
   refine aH (by first | exact .inl rfl | exact .inr rfl) rfl rfl _ _ aC aD (⟨rfl, rfl, rfl⟩)
 ·have hg : ¬ (RW.mk n1 p1 g1 c1 n2 p2 g2 c2).good := fun h => k1 h.1
  rw [aY hg]
  have hV1 := fun M0 I0 => uD (X := X) (w0 := w0) (M0 := M0) (I0 := I0) (neg := n1) (q := p1) (gs := g1) (c := c1) hf.l1
  rw [aY k1] at hV1
  refine bE Tryz.func129 rfl Tryz.ntmps129 rfl ?_
  refine aJ ?_
  refine aI ?_
  (refine aP rfl rfl rfl ?_; intro b; refine ⟨okF, ?_⟩)
  repeat (refine aV ?_)
  (refine aA rfl (hV1 _ _ aB) rfl rfl ?_; rintro _ _ _ ⟨rfl, rfl, rfl⟩; refine ⟨okF, ?_⟩)
  repeat (refine aV ?_)
  refine aH (by first | exact .inl rfl | exact .inr rfl) rfl rfl _ _ aC aD (⟨rfl, rfl, rfl⟩)
theorem aIR {r : RW} (hl : r.g1.length ≤ 1000000000 ∧ r.g2.length ≤ 1000000000) (h : Hv I0 (isW r)) :
  CD Tryz.prog 86 [wv r] X w0 M0 I0 (fun v M I => M0 = M ∧ I0 = I ∧ v = .bool (B r.good)) := by
 refine aAK h (fun hf => ?_)
 obtain ⟨n1, p1, g1, c1, n2, p2, g2, c2⟩ := r
 simp only at hl
 by_cases k1 : qQ n1 g1
 ·by_cases k2 : qQ n2 g2
  ·obtain ⟨a1, a2⟩ := uR k1 hf.u1
   obtain ⟨b1, b2⟩ := uR k2 hf.u2
   have hg : (RW.mk n1 p1 g1 c1 n2 p2 g2 c2).good ↔ (0 < zI n2 g2 ∧ Int.gcd (zI n1 g1) (zI n2 g2) = 1) := ⟨fun h => h.2.2, fun h => ⟨k1, k2, h⟩⟩
   rw [jU hg]
   generalize zI n1 g1 = y at *
   generalize zI n2 g2 = z at *
   subst a1; subst a2; subst b1; subst b2
   refine uK (p := p1) (c := c1) (z := y) (k := 30000000000) (List.Mem.head _) hf.k1 (by omega) ?_
   refine uK (p := p2) (c := c2) (z := z) (k := 30000000000) (List.Mem.tail _ (List.Mem.tail _ (List.Mem.head _))) hf.k2 (by omega) ?_
   exact aGU (by omega) (List.Mem.tail _ (List.Mem.head _)) (List.Mem.head _)
  ·have hg : ¬ (RW.mk n1 p1 g1 c1 n2 p2 g2 c2).good := fun h => k2 h.2.1
   rw [aY hg]
   have hV1 := fun M0 I0 => rQ (X := X) (w0 := w0) (M0 := M0) (I0 := I0) (neg := n1) (q := p1) (gs := g1) (c := c1) hf.l1
   have hV2 := fun M0 I0 => rQ (X := X) (w0 := w0) (M0 := M0) (I0 := I0) (neg := n2) (q := p2) (gs := g2) (c := c2) hf.l2
   rw [bR k1] at hV1
   rw [aY k2] at hV2
   refine bE Tryz.func86 rfl Tryz.ntmps86 rfl ?_
   refine aJ ?_
   refine aI ?_
   (refine aP rfl rfl rfl ?_; intro b; refine ⟨okF, ?_⟩)
   repeat (refine aV ?_)
   (refine aA rfl (hV1 _ _ aB) rfl rfl ?_; rintro _ _ _ ⟨rfl, rfl, rfl⟩; refine ⟨okF, ?_⟩)
   repeat (refine aV ?_)
   (refine aA rfl (hV2 _ _ aB) rfl rfl ?_; rintro _ _ _ ⟨rfl, rfl, rfl⟩; refine ⟨okF, ?_⟩)
   repeat (refine aV ?_)
   refine aH (by first | exact .inl rfl | exact .inr rfl) rfl rfl _ _ aC aD (⟨rfl, rfl, rfl⟩)
 ·have hg : ¬ (RW.mk n1 p1 g1 c1 n2 p2 g2 c2).good := fun h => k1 h.1
  rw [aY hg]
  have hV1 := fun M0 I0 => rQ (X := X) (w0 := w0) (M0 := M0) (I0 := I0) (neg := n1) (q := p1) (gs := g1) (c := c1) hf.l1
  rw [aY k1] at hV1
  refine bE Tryz.func86 rfl Tryz.ntmps86 rfl ?_
  refine aJ ?_
  refine aI ?_
  (refine aP rfl rfl rfl ?_; intro b; refine ⟨okF, ?_⟩)
  repeat (refine aV ?_)
  (refine aA rfl (hV1 _ _ aB) rfl rfl ?_; rintro _ _ _ ⟨rfl, rfl, rfl⟩; refine ⟨okF, ?_⟩)
  repeat (refine aV ?_)
  refine aH (by first | exact .inl rfl | exact .inr rfl) rfl rfl _ _ aC aD (⟨rfl, rfl, rfl⟩)
end
end Go.Proofs.YtgeagiikkeiioaaGreat
namespace Go.Proofs.YtgeagiikkeiioaaGreat
open Go Go.Fx
structure V2 where
 x : Rat
 y : Rat
deriving DecidableEq
namespace V2
def sub (a b : V2) : V2 := ⟨a.x - b.x, a.y - b.y⟩
def add (a b : V2) : V2 := ⟨a.x + b.x, a.y + b.y⟩
def dot (a b : V2) : Rat := a.x * b.x + a.y * b.y
def crs (a b : V2) : Rat := a.x * b.y - a.y * b.x
def scl (a : V2) (k : Rat) : V2 := ⟨k * a.x, k * a.y⟩
def sd (a : V2) : V2 := ⟨a.y, -a.x⟩
def z0 (a : V2) : Prop := a.x = 0 ∧ a.y = 0
instance (a : V2) : Decidable a.z0 := by unfold z0; exact inferInstance
end V2
def ahd (c f p : V2) : Rat := (p.sub c).dot f
def slp (c f p : V2) : Rat := (p.sub c).dot f.sd / ahd c f p
def cnA (own org : Rat) : Rat := own - org
def cnB (p : V2) (own org : Rat) : V2 := ((p.sd).scl (-(1 + own * org))).sub (p.scl (own - org))
def mtZ (a0 a1 : Rat) (b0 b1 : V2) : V2 := ((b0.sd).scl a1).sub ((b1.sd).scl a0)
def mtC (a0 a1 : Rat) (b0 b1 : V2) : V2 := (mtZ a0 a1 b0 b1).scl (b0.crs b1 / (mtZ a0 a1 b0 b1).dot (mtZ a0 a1 b0 b1))
end Go.Proofs.YtgeagiikkeiioaaGreat
namespace Go.Fx
def Rest (P : Program) (l : List Oper) (Q : Exit → Act → World → Prop) (Cs : Nat → World → Prop) (fuel k : Nat) (listed : Array Bool) : Exit → Act → World → Prop
 | .normal, a, w => pY P l.toArray Q Cs fuel k listed a w
 | _, _, _ => False
section
variable {P : Program} {n : Nat} {Q : Exit → Act → World → Prop} {G : Env} {w : World} {l : List Oper} {Cs : Nat → World → Prop}
theorem uU {fuel fuel' k : Nat} {listed listed' : Array Bool} (p ms : List Nat) (hm : ∀ s w, Cs s w → Cs (s + 1) w) (hs : Region.noSelect l.toArray = true) (hok : lU l.toArray p ms listed = some listed') (hf : fuel' = fuel + p.length) (hsz : listed.size = l.toArray.size) (hC : Cs k w)
  (h : R P n l (Rest P l Q Cs fuel (k + xE l.toArray p) listed') (.any Cs k ms) (pick l p) G w) : N n (Rest P l Q Cs fuel' k listed) .normal G w := ⟨fun a ha => by
 subst hf
 exact pX hm hs p ms k listed a w hC hsz hok (fun _ _ _ _ hq => hq) (h.go a ha)⟩
theorem aDP {fuel k : Nat} {listed : Array Bool} (p ms : List Nat) (hm : ∀ s w, Cs s w → Cs (s + 1) w) (hs : Region.noSelect l.toArray = true) (hok : iQ l.toArray p ms listed = true) (hf : fuel = p.length) (hsz : listed.size = l.toArray.size) (hC : Cs k w)
  (h : R P n l Q (.any Cs k ms) (pick l p) G w) : N n (Rest P l Q Cs fuel k listed) .normal G w := ⟨fun a ha => by
 subst hf
 exact jN hm hs p ms k listed a w hC hsz hok (h.go a ha)⟩
theorem uG {fuel k i : Nat} {listed : Array Bool} {o : Oper} {a : Act} (hi : l.toArray[i]? = some o) (hk : eO o.op = false)
  (h : wpM P l.toArray (Rest P l Q Cs fuel (k + 1) (listed.setIfInBounds i true)) (.any Cs k []) (pick l [i]) a w) :
  wpOp P l.toArray QF i (fun a' w' => Cs (k + eAt l.toArray i) w' ∧ pY P l.toArray Q Cs fuel (k + eAt l.toArray i) (listed.setIfInBounds i true) a' w') a w := by
 have hg : nth l i = o := aEU l i o (by simpa using hi)
 simp only [pick, hg] at h
 rw [xB hi hk]
 unfold wpOp
 simp only [hi]
 by_cases hw : Region.wanted o (yielded l.toArray a.tmps) = true
 ·rw [if_pos hw]
  rcases h.1 hw with ⟨hk2, _⟩ | ⟨_, hk2⟩
  ·rw [hk] at hk2; cases hk2
  ·exact .inl (Oper.wp_mono (fun a' w' ⟨h1, h2⟩ => ⟨h1, h2⟩) hk2)
 ·rw [if_neg hw]
  obtain ⟨hh1, hh2⟩ := h.2 (by simpa using hw)
  simp only [Mode.held, hk, cond_false] at hh1
  exact ⟨hh1, hh2⟩
def sQ (ops : Array Oper) (i : Nat) : Bool :=
 match ops[i]? with
 | some o => !eO o.op
 | none => false
theorem aBC {fuel k i j : Nat} {listed : Array Bool} (hr : (Region.ready .any l.toArray listed == [i, j] && sQ l.toArray i && sQ l.toArray j) = true)
  (h1 : R P n l (Rest P l Q Cs fuel (k + 1) (listed.setIfInBounds i true)) (.any Cs k []) (pick l [i]) G w)
  (h2 : R P n l (Rest P l Q Cs fuel (k + 1) (listed.setIfInBounds j true)) (.any Cs k []) (pick l [j]) G w) : N n (Rest P l Q Cs (fuel + 1) k listed) .normal G w := ⟨fun a ha => by
 simp only [Bool.and_eq_true, beq_iff_eq] at hr
 obtain ⟨⟨hr, e1⟩, e2⟩ := hr
 have get : ∀ x, sQ l.toArray x = true → ∃ o, l.toArray[x]? = some o ∧ eO o.op = false := fun x hx => by
  unfold sQ at hx
  cases ho : l.toArray[x]? with
  | none => simp [ho] at hx
  | some o => simp [ho] at hx; exact ⟨o, rfl, hx⟩
 obtain ⟨o1, ho1, hk1⟩ := get i e1
 obtain ⟨o2, ho2, hk2⟩ := get j e2
 refine ⟨fun h0 => (by rw [hr] at h0; cases h0), fun x hx => ?_⟩
 rw [hr] at hx
 simp only [List.mem_cons, List.not_mem_nil, or_false] at hx
 rcases hx with rfl | rfl
 ·exact uG ho1 hk1 (h1.go a ha)
 ·exact uG ho2 hk2 (h2.go a ha)⟩
theorem zF {fuel k i j m : Nat} {listed : Array Bool} (hr : (Region.ready .any l.toArray listed == [i, j, m] && sQ l.toArray i && sQ l.toArray j && sQ l.toArray m) = true)
  (h1 : R P n l (Rest P l Q Cs fuel (k + 1) (listed.setIfInBounds i true)) (.any Cs k []) (pick l [i]) G w)
  (h2 : R P n l (Rest P l Q Cs fuel (k + 1) (listed.setIfInBounds j true)) (.any Cs k []) (pick l [j]) G w)
  (h3 : R P n l (Rest P l Q Cs fuel (k + 1) (listed.setIfInBounds m true)) (.any Cs k []) (pick l [m]) G w) : N n (Rest P l Q Cs (fuel + 1) k listed) .normal G w := ⟨fun a ha => by
 simp only [Bool.and_eq_true, beq_iff_eq] at hr
 obtain ⟨⟨⟨hr, e1⟩, e2⟩, e3⟩ := hr
 have get : ∀ x, sQ l.toArray x = true → ∃ o, l.toArray[x]? = some o ∧ eO o.op = false := fun x hx => by
  unfold sQ at hx
  cases ho : l.toArray[x]? with
  | none => simp [ho] at hx
  | some o => simp [ho] at hx; exact ⟨o, rfl, hx⟩
 obtain ⟨o1, ho1, hk1⟩ := get i e1
 obtain ⟨o2, ho2, hk2⟩ := get j e2
 obtain ⟨o3, ho3, hk3⟩ := get m e3
 refine ⟨fun h0 => (by rw [hr] at h0; cases h0), fun x hx => ?_⟩
 rw [hr] at hx
 simp only [List.mem_cons, List.not_mem_nil, or_false] at hx
 rcases hx with rfl | rfl | rfl
 ·exact uG ho1 hk1 (h1.go a ha)
 ·exact uG ho2 hk2 (h2.go a ha)
 ·exact uG ho3 hk3 (h3.go a ha)⟩
theorem aNF {id : Nat} (Cs : Nat → World → Prop) (hx : P.follows .mixedOrders = true) (h : N n (Rest P l Q Cs l.length 0 (Array.replicate l.length false)) .normal G w.drew) : T P n (.region id l.toArray true) Q G w := ⟨fun a ha => by
 refine wp_region_any hx ?_
 have := h.go a ha
 have e : l.toArray.size = l.length := by simp
 rw [e]
 exact pV _ _ _ _ _ this⟩
end
section
variable {P : Program} {n : Nat} {Q : Exit → Act → World → Prop} {G : Env} {X : List Nat} {w0 : World} {M M1 : List Ent} {I I1 : List bA} {l : List Oper}
theorem aEG {id : Nat} (M1 : List Ent) (I1 : List bA) (hx : P.follows .mixedOrders = true) (h : ND n (Rest P l Q (uM X w0 M1 I1) l.length 0 (Array.replicate l.length false)) .normal G X w0 M I) : TD P n (.region id l.toArray true) Q G X w0 M I :=
 ⟨fun w hw => aNF (uM X w0 M1 I1) hx (h.go w.drew hw.drew)⟩
theorem vU {fuel fuel' k : Nat} {listed listed' : Array Bool} (p ms : List Nat) (hM : SubP M M1) (hI : Inc I I1) (hs : Region.noSelect l.toArray = true) (hok : lU l.toArray p ms listed = some listed') (hf : fuel' = fuel + p.length) (hsz : listed.size = l.toArray.size)
  (h : RD P n l (Rest P l Q (uM X w0 M1 I1) fuel (k + xE l.toArray p) listed') (.any (uM X w0 M1 I1) k ms) (pick l p) G X w0 M I) : ND n (Rest P l Q (uM X w0 M1 I1) fuel' k listed) .normal G X w0 M I :=
 ⟨fun w hw => uU p ms (fun _ _ h => h) hs hok hf hsz (hw.weak hM hI) (h.go w hw)⟩
theorem dI {fuel k : Nat} {listed : Array Bool} (p ms : List Nat) (hM : SubP M M1) (hI : Inc I I1) (hs : Region.noSelect l.toArray = true) (hok : iQ l.toArray p ms listed = true) (hf : fuel = p.length) (hsz : listed.size = l.toArray.size)
  (h : RD P n l Q (.any (uM X w0 M1 I1) k ms) (pick l p) G X w0 M I) : ND n (Rest P l Q (uM X w0 M1 I1) fuel k listed) .normal G X w0 M I :=
 ⟨fun w hw => aDP p ms (fun _ _ h => h) hs hok hf hsz (hw.weak hM hI) (h.go w hw)⟩
theorem fA {fuel k i j : Nat} {listed : Array Bool} (hr : (Region.ready .any l.toArray listed == [i, j] && sQ l.toArray i && sQ l.toArray j) = true)
  (h1 : RD P n l (Rest P l Q (uM X w0 M1 I1) fuel (k + 1) (listed.setIfInBounds i true)) (.any (uM X w0 M1 I1) k []) (pick l [i]) G X w0 M I)
  (h2 : RD P n l (Rest P l Q (uM X w0 M1 I1) fuel (k + 1) (listed.setIfInBounds j true)) (.any (uM X w0 M1 I1) k []) (pick l [j]) G X w0 M I) : ND n (Rest P l Q (uM X w0 M1 I1) (fuel + 1) k listed) .normal G X w0 M I :=
 ⟨fun w hw => aBC hr (h1.go w hw) (h2.go w hw)⟩
theorem xH {fuel k i j m : Nat} {listed : Array Bool} (hr : (Region.ready .any l.toArray listed == [i, j, m] && sQ l.toArray i && sQ l.toArray j && sQ l.toArray m) = true)
  (h1 : RD P n l (Rest P l Q (uM X w0 M1 I1) fuel (k + 1) (listed.setIfInBounds i true)) (.any (uM X w0 M1 I1) k []) (pick l [i]) G X w0 M I)
  (h2 : RD P n l (Rest P l Q (uM X w0 M1 I1) fuel (k + 1) (listed.setIfInBounds j true)) (.any (uM X w0 M1 I1) k []) (pick l [j]) G X w0 M I)
  (h3 : RD P n l (Rest P l Q (uM X w0 M1 I1) fuel (k + 1) (listed.setIfInBounds m true)) (.any (uM X w0 M1 I1) k []) (pick l [m]) G X w0 M I) : ND n (Rest P l Q (uM X w0 M1 I1) (fuel + 1) k listed) .normal G X w0 M I :=
 ⟨fun w hw => zF hr (h1.go w hw) (h2.go w hw) (h3.go w hw)⟩
end
end Go.Fx
