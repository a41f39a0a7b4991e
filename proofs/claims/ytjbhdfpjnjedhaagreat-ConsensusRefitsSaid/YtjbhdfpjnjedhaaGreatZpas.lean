/- fraction: reduced, Valid, Value, Whole, Sign, Neg fraction: copied, Value, Whole, Sign, Neg fraction: Add, Sub, Mul, Divide, Compare fiducialref01: magnitudes: group, made, plus, minus, scaled, shifted, size -/
import Derived.Test.YtjbhdfpjnjedhaaGreatZpaq
import Derived.Test.YtjbhdfpjnjedhaaGreatZpar
import Derived.Test.YtjbhdfpjnjedhaaGreatZpai
import Derived.Test.YtjbhdfpjnjedhaaGreatZpao
import Derived.Test.YtjbhdfpjnjedhaaGreatZpag
set_option linter.unusedSimpArgs false
set_option linter.unusedVariables false
set_option maxRecDepth 100000
set_option maxHeartbeats 4000000
namespace Go.Proofs.YtjbhdfpjnjedhaaGreat
open Go Go.Fx
section
variable {X : List Nat} {w0 : World} {M0 : List Ent} {I0 : List aY}
theorem uI {u : Value} {z : Int} {k : Nat} (hk : k ≤ 1000000000000) (hu : iI u z k ∈ I0) :
  CD Tryz.prog 192 [u] X w0 M0 I0 (fun v M I => M0 = M ∧ I0 = I ∧ v = .bool true) := by
 refine CD.post (K := fun v M I => M0 = M ∧ (∃ q, aO q (recs eG (gr z.natAbs)) :: I0 = I) ∧ v = .bool true) (dE hu (fun q c e hc hz => ?_)) (fun v M I w h hw => ?_)
 case refine_2 =>
  obtain ⟨e1, ⟨q, e2⟩, e3⟩ := h
  subst e1; subst e2
  exact ⟨_, _, ⟨rfl, rfl, e3⟩, hw.inc (Inc.wk Inc.refl)⟩
 subst e
 have hl := gF hz hk
 refine (tZ (neg := B (z < 0)) (gs := gr z.natAbs) (by omega) (List.Mem.head _)).mono (fun v M I h => ⟨h.1, ⟨q, h.2.1⟩, ?_⟩)
 rw [h.2.2]
 exact congrArg Value.bool (bJ (xH z))
theorem vK {u v : Value} {n d : Int} {k : Nat} (hk : k ≤ 500000000000) (hd0 : d ≠ 0) (hu : iI u n k ∈ I0) (hv : iI v d k ∈ I0) :
  CD Tryz.prog 145 [u, v] X w0 M0 I0 (RQ (Rat.divInt n d) k M0 I0) := by
 have hS := fun M0 I0 => sP (X := X) (w0 := w0) (M0 := M0) (I0 := I0) (u := v) (z := d) (k := k) (by omega)
 refine dE hu (fun q cq e hc hy => ?_)
 subst e
 refine dE (List.Mem.tail _ hv) (fun q' cq' e hc' hz => ?_)
 subst e
 obtain ⟨r, hr⟩ : ∃ r, r = Rat.divInt n d := ⟨_, rfl⟩
 have key : ∀ n' d' : Int, 0 < d' → Rat.divInt n' d' = Rat.divInt n d → (∀ u v M0 I0, iI u n' k ∈ I0 → iI v (Int.gcd n' d' : Int) (k + k) ∈ I0 → CD Tryz.prog 187 [u, v] X w0 M0 I0 (DvP r.num (n'.fmod (Int.gcd n' d')) k (k + k) M0 I0)) ∧ (∀ u v M0 I0, iI u d' k ∈ I0 → iI v (Int.gcd n' d' : Int) (k + k) ∈ I0 → CD Tryz.prog 187 [u, v] X w0 M0 I0 (DvP r.den (d'.fmod (Int.gcd n' d')) k (k + k) M0 I0)) := by
  intro n' d' hd' he
  obtain ⟨e1, e2, e3⟩ := aJK (n := n') (d := d') (g := (Int.gcd n' d' : Int)) (by omega) (by rw [if_neg (by omega)])
  rw [he, ← hr] at e1 e2
  refine ⟨fun u v M0 I0 h1 h2 => ?_, fun u v M0 I0 h1 h2 => ?_⟩
  ·have := aDS (X := X) (w0 := w0) (M0 := M0) (I0 := I0) (k := k) (m := k + k) (by omega) (by omega) e3 h1 h2
   rwa [e1] at this
  ·have := aDS (X := X) (w0 := w0) (M0 := M0) (I0 := I0) (k := k) (m := k + k) (by omega) (by omega) e3 h1 h2
   rwa [e2] at this
 rw [← hr]
 have hN := fun u z M0 I0 => aHQ (X := X) (w0 := w0) (M0 := M0) (I0 := I0) (u := u) (z := z) (k := k) (by omega)
 have hG := fun u v n' d' M0 I0 => aIJ (X := X) (w0 := w0) (M0 := M0) (I0 := I0) (u := u) (v := v) (y := n') (z := d') (k0 := k) (m := k) (by omega) (by omega)
 by_cases hneg : d < 0
 ·have hs : d.sign = -1 := Int.sign_eq_neg_one_of_neg hneg
  obtain ⟨hD1, hD2⟩ := key (-n) (-d) (by omega) aCA
  rw [hs] at hS
  clear key
  obtain ⟨g, hg⟩ : ∃ g : Int, g = (Int.gcd (-n) (-d) : Int) := ⟨_, rfl⟩
  rw [← hg] at hD1 hD2
  have hG := fun u v => hG u v (-n) (-d)
  rw [← hg] at hG
  obtain ⟨n1, hn1⟩ : ∃ g : Int, g = -n := ⟨_, rfl⟩
  obtain ⟨d1, hd1⟩ : ∃ g : Int, g = -d := ⟨_, rfl⟩
  have hN1 := fun u => hN u n
  have hN2 := fun u => hN u d
  rw [← hn1] at hN1 hD1 hG
  rw [← hd1] at hN2 hD2 hG
  unfold iv at *
  refine aX Tryz.func145 rfl Tryz.ntmps145 rfl ?_
  refine aG ?_
  refine aJ ?_
  (refine aR rfl rfl rfl ?_; intro b; refine ⟨okF, ?_⟩)
  (refine aR rfl rfl rfl ?_; intro b2; refine ⟨okF, ?_⟩)
  (refine aI rfl rfl ?_; intro b4; refine ⟨okF, ?_⟩)
  repeat (refine aV ?_)
  (refine aA rfl (hS _ _ aB) rfl rfl ?_; rintro _ _ _ ⟨rfl, rfl, rfl⟩; refine ⟨okF, ?_⟩)
  repeat (refine aV ?_)
  (repeat refine aG ?_); refine bG 2 [0, 2, 1, 3, 4, 5] [1, 2, 0, 0, 0, 0] mixed (by kernel_rfl) ?_
  repeat (refine aV ?_)
  (refine aA rfl (hN1 _ _ _ aB) rfl rfl ?_; rintro _ _ _ ⟨rfl, rfl⟩; refine ⟨okF, ?_⟩; refine aW (List.Mem.head _) (fun q1 c1 e__ hc1 hz1 => ?_); subst e__)
  repeat (refine aV ?_)
  (refine aA rfl (hN2 _ _ _ aB) rfl rfl ?_; rintro _ _ _ ⟨rfl, rfl⟩; refine ⟨okF, ?_⟩; refine aW (List.Mem.head _) (fun q2 c2 e__ hc2 hz2 => ?_); subst e__)
  unfold iv
  repeat (refine aV ?_)
  (refine aA rfl (hG _ _ _ _ aB aB) rfl rfl ?_; rintro _ _ _ ⟨rfl, rfl⟩; refine ⟨okF, ?_⟩; refine aW (List.Mem.head _) (fun q3 c3 e__ hc3 hz3 => ?_); subst e__)
  unfold iv
  repeat (refine aV ?_)
  (refine aI rfl rfl ?_; intro b5; refine ⟨okF, ?_⟩)
  repeat (refine aV ?_)
  (refine aA rfl (hD1 _ _ _ _ aB aB) rfl rfl ?_; rintro _ _ _ ⟨rfl, v1, v2, rfl, rfl⟩; refine ⟨okF, ?_⟩)
  refine aW (u := v1) aB (fun q4 c4 e4 hc4 hz4 => ?_)
  subst e4
  unfold iv
  repeat (refine aV ?_)
  (refine aA rfl (hD2 _ _ _ _ aB aB) rfl rfl ?_; rintro _ _ _ ⟨rfl, v3, v4, rfl, rfl⟩; refine ⟨okF, ?_⟩)
  refine aW (u := v3) aB (fun q5 c5 e5 hc5 hz5 => ?_)
  subst e5
  unfold iv
  repeat (refine aV ?_)
  (refine aF rfl (fun _ => bA (pvs := ([vI q4 c4 r.num, vI q5 c5 r.den]).zipIdx.map (fun p => (p.2, p.1))) (cells := eR ⟨r, q4, c4, q5, c5⟩) rfl rfl) rfl rfl ?_)
  repeat (refine aV ?_)
  refine lZ (q := r) (k := k) (p1 := q4) (c1 := c4) (p2 := q5) (c2 := c5) aB aB (Nat.le_refl _) (Nat.le_refl _) ?_
  refine bD (cs := eR ⟨r, q4, c4, q5, c5⟩) (.inl rfl) rfl rfl aB rfl M0 (bS ⟨r, q4, c4, q5, c5⟩ k :: I0) aD aC ⟨rfl, ⟨r, q4, c4, q5, c5⟩, rfl, rfl, rfl⟩
 ·have hs : d.sign = 1 := Int.sign_eq_one_of_pos (by omega)
  obtain ⟨hD1, hD2⟩ := key n d (by omega) rfl
  rw [hs] at hS
  clear key hN
  obtain ⟨g, hg⟩ : ∃ g : Int, g = (Int.gcd n d : Int) := ⟨_, rfl⟩
  rw [← hg] at hD1 hD2
  have hG := fun u v => hG u v n d
  rw [← hg] at hG
  unfold iv at *
  refine aX Tryz.func145 rfl Tryz.ntmps145 rfl ?_
  refine aG ?_
  refine aJ ?_
  (refine aR rfl rfl rfl ?_; intro b; refine ⟨okF, ?_⟩)
  (refine aR rfl rfl rfl ?_; intro b2; refine ⟨okF, ?_⟩)
  (refine aI rfl rfl ?_; intro b4; refine ⟨okF, ?_⟩)
  repeat (refine aV ?_)
  (refine aA rfl (hS _ _ aB) rfl rfl ?_; rintro _ _ _ ⟨rfl, rfl, rfl⟩; refine ⟨okF, ?_⟩)
  repeat (refine aV ?_)
  (refine aA rfl (hG _ _ _ _ aB aB) rfl rfl ?_; rintro _ _ _ ⟨rfl, rfl⟩; refine ⟨okF, ?_⟩; refine aW (List.Mem.head _) (fun q3 c3 e__ hc3 hz3 => ?_); subst e__)
  unfold iv
  repeat (refine aV ?_)
  (refine aI rfl rfl ?_; intro b5; refine ⟨okF, ?_⟩)
  repeat (refine aV ?_)
  (refine aA rfl (hD1 _ _ _ _ aB aB) rfl rfl ?_; rintro _ _ _ ⟨rfl, v1, v2, rfl, rfl⟩; refine ⟨okF, ?_⟩)
  refine aW (u := v1) aB (fun q4 c4 e4 hc4 hz4 => ?_)
  subst e4
  unfold iv
  repeat (refine aV ?_)
  (refine aA rfl (hD2 _ _ _ _ aB aB) rfl rfl ?_; rintro _ _ _ ⟨rfl, v3, v4, rfl, rfl⟩; refine ⟨okF, ?_⟩)
  refine aW (u := v3) aB (fun q5 c5 e5 hc5 hz5 => ?_)
  subst e5
  unfold iv
  repeat (refine aV ?_)
  (refine aF rfl (fun _ => bA (pvs := ([vI q4 c4 r.num, vI q5 c5 r.den]).zipIdx.map (fun p => (p.2, p.1))) (cells := eR ⟨r, q4, c4, q5, c5⟩) rfl rfl) rfl rfl ?_)
  repeat (refine aV ?_)
  refine lZ (q := r) (k := k) (p1 := q4) (c1 := c4) (p2 := q5) (c2 := c5) aB aB (Nat.le_refl _) (Nat.le_refl _) ?_
  refine bD (cs := eR ⟨r, q4, c4, q5, c5⟩) (.inl rfl) rfl rfl aB rfl M0 (bS ⟨r, q4, c4, q5, c5⟩ k :: I0) aD aC ⟨rfl, ⟨r, q4, c4, q5, c5⟩, rfl, rfl, rfl⟩
theorem aNF {e : RE} {k : Nat} (hk : k ≤ 500000000000) (he : Hv I0 (bS e k)) :
  CD Tryz.prog 196 [rv e] X w0 M0 I0 (fun v M I => M0 = M ∧ I0 = I ∧ v = .bool true) := by
 refine CD.post (K := fun v M I => M0 = M ∧ iI (vI e.p1 e.c1 e.q.num) e.q.num k :: iI (vI e.p2 e.c2 e.q.den) e.q.den k :: I0 = I ∧ v = .bool true) (aAM he ?_) (fun v M I w h hw => ?_)
 case refine_2 =>
  obtain ⟨e1, e2, e3⟩ := h
  subst e1; subst e2
  exact ⟨_, _, ⟨rfl, rfl, e3⟩, hw.inc (Inc.wk (Inc.wk Inc.refl))⟩
 have hV1 := fun M0 I0 h => uI (X := X) (w0 := w0) (M0 := M0) (I0 := I0) (u := vI e.p1 e.c1 e.q.num) (z := e.q.num) (k := k) (by omega) h
 have hV2 := fun M0 I0 h => uI (X := X) (w0 := w0) (M0 := M0) (I0 := I0) (u := vI e.p2 e.c2 e.q.den) (z := e.q.den) (k := k) (by omega) h
 have hS := fun M0 I0 => sP (X := X) (w0 := w0) (M0 := M0) (I0 := I0) (u := vI e.p2 e.c2 e.q.den) (z := e.q.den) (k := k) (by omega)
 have hs : ((e.q.den : Int)).sign = 1 := Int.sign_eq_one_of_pos (by have := e.q.den_nz; omega)
 rw [hs] at hS
 have hG := fun M0 I0 => aIJ (X := X) (w0 := w0) (M0 := M0) (I0 := I0) (u := vI e.p1 e.c1 e.q.num) (v := vI e.p2 e.c2 e.q.den) (y := e.q.num) (z := e.q.den) (k0 := k) (m := k) (by omega) (by omega)
 rw [aJO] at hG
 have hC := fun u v M0 I0 => vL (X := X) (w0 := w0) (M0 := M0) (I0 := I0) (u := u) (v := v) (y := 1) (z := 1) (k := k + k) (m := 63) (by omega) (by omega)
 have hc : fP 1 1 = 0 := by decide
 rw [hc] at hC
 refine aZ Tryz.func196 rfl Tryz.ntmps196 rfl ?_
 refine aG ?_
 refine aJ ?_
 (refine aR rfl rfl rfl ?_; intro b; refine ⟨okF, ?_⟩)
 repeat (refine aV ?_)
 (refine aA rfl (hV1 _ _ aB) rfl rfl ?_; rintro _ _ _ ⟨rfl, rfl, rfl⟩; refine ⟨okF, ?_⟩)
 repeat (refine aV ?_)
 (refine aA rfl (hV2 _ _ aB) rfl rfl ?_; rintro _ _ _ ⟨rfl, rfl, rfl⟩; refine ⟨okF, ?_⟩)
 repeat (refine aV ?_)
 (refine aA rfl (hS _ _ aB) rfl rfl ?_; rintro _ _ _ ⟨rfl, rfl, rfl⟩; refine ⟨okF, ?_⟩)
 repeat (refine aV ?_)
 (refine aA rfl (hG _ _ aB aB) rfl rfl ?_; rintro _ _ _ ⟨rfl, rfl⟩; refine ⟨okF, ?_⟩)
 repeat (refine aV ?_)
 (refine aA rfl (aFJ (x := 1) (by decide)) rfl rfl ?_; rintro _ _ _ ⟨rfl, rfl⟩; refine ⟨okF, ?_⟩)
 (refine aA rfl (hC _ _ _ _ aB aB) rfl rfl ?_; rintro _ _ _ ⟨rfl, rfl, rfl⟩; refine ⟨okF, ?_⟩)
 repeat (refine aV ?_)
 refine aH (by first | exact .inl rfl | exact .inr rfl) rfl rfl _ _ aD aC (⟨rfl, rfl, congrArg Value.bool (bJ (by decide))⟩)
end
end Go.Proofs.YtjbhdfpjnjedhaaGreat
namespace Go.Proofs.YtjbhdfpjnjedhaaGreat
open Go Go.Fx
section
variable {X : List Nat} {w0 : World} {M0 : List Ent} {I0 : List aY}
theorem aMP {f : FuncId} {vs : List Value} {e : RE} {k m : Nat} {q : Rat} {P : Program} (h : Hv I0 (bS e k)) (c : CD P f vs X w0 M0 (iI (vI e.p1 e.c1 e.q.num) e.q.num k :: iI (vI e.p2 e.c2 e.q.den) e.q.den k :: I0) (RQ q m M0 (iI (vI e.p1 e.c1 e.q.num) e.q.num k :: iI (vI e.p2 e.c2 e.q.den) e.q.den k :: I0))) : CD P f vs X w0 M0 I0 (RQ q m M0 I0) :=
 CD.post (aAM h c) (fun v M I w ⟨e1, e2, h2, h3, h4⟩ hw => by
  subst e1; subst h4
  exact ⟨_, _, ⟨rfl, e2, h2, h3, rfl⟩, hw.inc (Inc.cons (List.Mem.head _) (Inc.wk (Inc.wk (Inc.wk Inc.refl))))⟩)
theorem aNT {e : RE} {k : Nat} (hk : k ≤ 500000000000) (he : Hv I0 (bS e k)) :
  CD Tryz.prog 197 [rv e] X w0 M0 I0 (RQ e.q k M0 I0) := by
 refine aMP he ?_
 have hN := fun z u M0 I0 => aHQ (X := X) (w0 := w0) (M0 := M0) (I0 := I0) (u := u) (z := z) (k := k) (by omega)
 have h1 := hN (-e.q.num)
 have h2 := hN (-(e.q.den : Int))
 rw [Int.neg_neg] at h1 h2
 refine aZ Tryz.func197 rfl Tryz.ntmps197 rfl ?_
 refine aG ?_
 refine aJ ?_
 (refine aR rfl rfl rfl ?_; intro b; refine ⟨okF, ?_⟩)
 (refine aI rfl rfl ?_; intro b2; refine ⟨okF, ?_⟩)
 repeat (refine aV ?_)
 (repeat refine aG ?_); refine bG 3 [0, 1, 4, 5, 2, 3, 6, 7, 8, 9] [4, 3, 4, 3, 0, 0, 0, 0, 0, 0] mixed (by kernel_rfl) ?_
 repeat (refine aV ?_)
 (refine aA rfl (hN e.q.num _ _ _ aB) rfl rfl ?_; rintro _ _ _ ⟨rfl, rfl⟩; refine ⟨okF, ?_⟩)
 (refine aA rfl (h1 _ _ _ aB) rfl rfl ?_; rintro _ _ _ ⟨rfl, rfl⟩; refine ⟨okF, ?_⟩)
 refine aW (z := e.q.num) (List.Mem.head _) (fun q3 c3 e3 hc3 hz3 => ?_)
 subst e3
 unfold iv
 repeat (refine aV ?_)
 (refine aA rfl (hN e.q.den _ _ _ aB) rfl rfl ?_; rintro _ _ _ ⟨rfl, rfl⟩; refine ⟨okF, ?_⟩)
 (refine aA rfl (h2 _ _ _ aB) rfl rfl ?_; rintro _ _ _ ⟨rfl, rfl⟩; refine ⟨okF, ?_⟩)
 refine aW (z := (e.q.den : Int)) (List.Mem.head _) (fun q4 c4 e4 hc4 hz4 => ?_)
 subst e4
 unfold iv
 (refine aF rfl (fun _ => bA (pvs := ([vI q3 c3 e.q.num, vI q4 c4 e.q.den]).zipIdx.map (fun p => (p.2, p.1))) (cells := eR ⟨e.q, q3, c3, q4, c4⟩) rfl rfl) rfl rfl ?_)
 repeat (refine aV ?_)
 refine lZ (q := e.q) (k := k) (p1 := q3) (c1 := c3) (p2 := q4) (c2 := c4) aB aB (Nat.le_refl _) (Nat.le_refl _) ?_
 refine bD (cs := eR ⟨e.q, q3, c3, q4, c4⟩) (.inl rfl) rfl rfl aB rfl M0 (bS ⟨e.q, q3, c3, q4, c4⟩ k :: _) aD aC ⟨rfl, ⟨e.q, q3, c3, q4, c4⟩, rfl, rfl, rfl⟩
theorem mI {e : RE} {k : Nat} (hk : k ≤ 500000000000) (he : Hv I0 (bS e k)) :
  CD Tryz.prog 146 [rv e] X w0 M0 I0 (RQ e.q k M0 I0) := by
 refine aZ Tryz.func146 rfl Tryz.ntmps146 rfl ?_
 refine aG ?_
 refine aJ ?_
 (refine aR rfl rfl rfl ?_; intro b; refine ⟨okF, ?_⟩)
 (refine aI rfl rfl ?_; intro b2; refine ⟨okF, ?_⟩)
 repeat (refine aV ?_)
 (refine aA rfl (aNF hk he) rfl rfl ?_; rintro _ _ _ ⟨rfl, rfl, rfl⟩; refine ⟨okF, ?_⟩)
 repeat (refine aV ?_)
 (refine aA rfl (aNT hk he) rfl rfl ?_; rintro _ _ _ ⟨rfl, e2, rfl, he2, rfl⟩; refine ⟨okF, ?_⟩)
 repeat (refine aV ?_)
 refine bD (cs := eR e2) (.inl rfl) rfl rfl aB rfl M0 (bS e2 k :: I0) aD aC ⟨rfl, e2, rfl, he2, rfl⟩
theorem rO {x : Int} (hx : -9223372036854775808 ≤ x ∧ x ≤ 9223372036854775807) {k : Nat} (hk : x.natAbs ≤ 2 ^ k) :
  CD Tryz.prog 149 [.int .i64 x] X w0 M0 I0 (RQ (x : Rat) k M0 I0) := by
 have hn : ((x : Rat)).num = x := Rat.num_intCast x
 have hd : (((x : Rat)).den : Int) = 1 := by rw [Rat.den_intCast]; rfl
 have h1 : (1 : Int).natAbs ≤ 2 ^ k := Nat.one_le_two_pow
 obtain ⟨q, hq⟩ : ∃ q : Rat, q = (x : Rat) := ⟨_, rfl⟩
 rw [← hq] at hn hd ⊢
 refine aZ Tryz.func149 rfl Tryz.ntmps149 rfl ?_
 refine aG ?_
 refine aJ ?_
 (refine aI rfl rfl ?_; intro b2; refine ⟨okF, ?_⟩)
 repeat (refine aV ?_)
 (refine aA rfl (aFJ hx) rfl rfl ?_; rintro _ _ _ ⟨rfl, rfl⟩; refine ⟨okF, ?_⟩; refine aW (List.Mem.head _) (fun q3 c3 e__ hc3 hz3 => ?_); subst e__)
 unfold iv
 refine nA (k2 := k) (z := x) (List.Mem.tail _ (List.Mem.head _)) hk ?_
 (refine aA rfl (aFJ (x := 1) (by decide)) rfl rfl ?_; rintro _ _ _ ⟨rfl, rfl⟩; refine ⟨okF, ?_⟩; refine aW (List.Mem.head _) (fun q4 c4 e__ hc4 hz4 => ?_); subst e__)
 unfold iv
 refine nA (k2 := k) (z := 1) (List.Mem.tail _ (List.Mem.head _)) h1 ?_
 rw [← hn, ← hd]
 (refine aF rfl (fun _ => bA (pvs := ([vI q3 c3 q.num, vI q4 c4 q.den]).zipIdx.map (fun p => (p.2, p.1))) (cells := eR ⟨q, q3, c3, q4, c4⟩) rfl rfl) rfl rfl ?_)
 repeat (refine aV ?_)
 refine lZ (q := q) (k := k) (p1 := q3) (c1 := c3) (p2 := q4) (c2 := c4) aB aB (Nat.le_refl _) (Nat.le_refl _) ?_
 refine bD (cs := eR ⟨q, q3, c3, q4, c4⟩) (.inl rfl) rfl rfl aB rfl M0 (bS ⟨q, q3, c3, q4, c4⟩ k :: I0) aD aC ⟨rfl, ⟨q, q3, c3, q4, c4⟩, rfl, rfl, rfl⟩
theorem mF {e : RE} {k : Nat} (hk : k ≤ 500000000000) (he : Hv I0 (bS e k)) :
  CD Tryz.prog 115 [rv e] X w0 M0 I0 (fun v M I => M0 = M ∧ I0 = I ∧ v = .int .i64 e.q.num.sign) := by
 refine aZ Tryz.func115 rfl Tryz.ntmps115 rfl ?_
 refine aG ?_
 refine aJ ?_
 (refine aR rfl rfl rfl ?_; intro b; refine ⟨okF, ?_⟩)
 repeat (refine aV ?_)
 (refine aA rfl (mI hk he) rfl rfl ?_; rintro _ _ _ ⟨rfl, e2, rfl, he2, rfl⟩; refine ⟨okF, ?_⟩)
 refine aF rfl (fun _ => bI rfl) rfl rfl ?_
 refine iH (e := e2) (k := k) (Hv.mem (List.Mem.head _)) ?_
 (refine aA rfl (sP (z := e2.q.num) (k := k) (by omega) aB) rfl rfl ?_; rintro _ _ _ ⟨rfl, rfl, rfl⟩; refine ⟨okF, ?_⟩)
 rw [he2]
 repeat (refine aV ?_)
 refine aH (by first | exact .inl rfl | exact .inr rfl) rfl rfl _ _ aD aC (⟨rfl, rfl, rfl⟩)
theorem aEO {e : RE} {k : Nat} (hk : k ≤ 500000000000) (he : Hv I0 (bS e k)) :
  CD Tryz.prog 163 [rv e] X w0 M0 I0 (RQ (-e.q) k M0 I0) := by
 refine aZ Tryz.func163 rfl Tryz.ntmps163 rfl ?_
 refine aG ?_
 refine aJ ?_
 (refine aR rfl rfl rfl ?_; intro b; refine ⟨okF, ?_⟩)
 (refine aI rfl rfl ?_; intro b2; refine ⟨okF, ?_⟩)
 repeat (refine aV ?_)
 (refine aA rfl (mI hk he) rfl rfl ?_; rintro _ _ _ ⟨rfl, e2, rfl, he2, rfl⟩; refine ⟨okF, ?_⟩)
 refine iH (e := e2) (k := k) (Hv.mem (List.Mem.head _)) ?_
 rw [← he2]
 have hN := fun M0 I0 => aHQ (X := X) (w0 := w0) (M0 := M0) (I0 := I0) (u := vI e2.p1 e2.c1 e2.q.num) (z := e2.q.num) (k := k) (by omega)
 rw [← Rat.neg_num] at hN
 have hd : ((e2.q.den : Int)) = ((-e2.q).den : Int) := by rw [Rat.neg_den]
 repeat (refine aV ?_)
 (repeat refine aG ?_); refine bG 1 [0, 1, 3, 4, 2, 5, 6] [1, 0, 1, 1, 0, 0, 0] mixed (by kernel_rfl) ?_
 repeat (refine aV ?_)
 (refine aA rfl (hN _ _ aB) rfl rfl ?_; rintro _ _ _ ⟨rfl, rfl⟩; refine ⟨okF, ?_⟩; refine aW (List.Mem.head _) (fun q3 c3 e__ hc3 hz3 => ?_); subst e__)
 unfold iv
 rw [hd]
 (refine aF rfl (fun _ => bA (pvs := ([vI q3 c3 (-e2.q).num, vI e2.p2 e2.c2 (-e2.q).den]).zipIdx.map (fun p => (p.2, p.1))) (cells := eR ⟨-e2.q, q3, c3, e2.p2, e2.c2⟩) rfl rfl) rfl rfl ?_)
 repeat (refine aV ?_)
 refine lZ (q := -e2.q) (k := k) (p1 := q3) (c1 := c3) (p2 := e2.p2) (c2 := e2.c2) aB aB (Nat.le_refl _) (Nat.le_refl _) ?_
 refine bD (cs := eR ⟨-e2.q, q3, c3, e2.p2, e2.c2⟩) (.inl rfl) rfl rfl aB rfl M0 (bS ⟨-e2.q, q3, c3, e2.p2, e2.c2⟩ k :: I0) aD aC ⟨rfl, ⟨-e2.q, q3, c3, e2.p2, e2.c2⟩, rfl, rfl, rfl⟩
end
end Go.Proofs.YtjbhdfpjnjedhaaGreat
namespace Go.Proofs.YtjbhdfpjnjedhaaGreat
open Go Go.Fx
theorem aKN (k m : Nat) : 2 ^ (k + m) + 2 ^ (m + k) ≤ 2 ^ (k + m + 1) := by
 rw [Nat.add_comm m k, Nat.pow_succ]; omega
theorem xA (q : Rat) : (0 : Int) < q.den := by have := q.den_nz; omega
theorem sH (p q : Rat) : ((p.den : Int) * q.den) ≠ 0 := by
 have := Int.mul_pos (xA p) (xA q); omega
theorem aBJ {p q : Rat} (h : q ≠ 0) : ((p.den : Int) * q.num) ≠ 0 := fun h0 => by
 rcases Int.mul_eq_zero.1 h0 with h1 | h1
 ·exact absurd h1 (by have := xA p; omega)
 ·exact h (Rat.num_eq_zero.1 h1)
section
variable {X : List Nat} {w0 : World} {M0 : List Ent} {I0 : List aY}
theorem sO {a b : RE} {k m : Nat} (hk : k + m + 1 ≤ 500000000000) (ha : Hv I0 (bS a k)) (hb : Hv I0 (bS b m)) :
  CD Tryz.prog 117 [rv a, rv b] X w0 M0 I0 (RQ (a.q + b.q) (k + m + 1) M0 I0) := by
 refine aX Tryz.func117 rfl Tryz.ntmps117 rfl ?_
 refine aG ?_
 refine aJ ?_
 (refine aR rfl rfl rfl ?_; intro b1; refine ⟨okF, ?_⟩)
 (refine aR rfl rfl rfl ?_; intro b2; refine ⟨okF, ?_⟩)
 (refine aI rfl rfl ?_; intro b3; refine ⟨okF, ?_⟩)
 repeat (refine aV ?_)
 (repeat refine aG ?_); refine bG 2 [0, 2, 1, 3, 4, 5] [1, 2, 0, 0, 0, 0] mixed (by kernel_rfl) ?_
 repeat (refine aV ?_)
 (refine aA rfl (mI (k := k) (by omega) ha) rfl rfl ?_; rintro _ _ _ ⟨rfl, x, rfl, hx, rfl⟩; refine ⟨okF, ?_⟩)
 repeat (refine aV ?_)
 (refine aA rfl (mI (k := m) (by omega) hb.cons) rfl rfl ?_; rintro _ _ _ ⟨rfl, y, rfl, hy, rfl⟩; refine ⟨okF, ?_⟩)
 refine iH (e := x) (k := k) (Hv.mem (List.Mem.tail _ (List.Mem.head _))) ?_
 refine iH (e := y) (k := m) (Hv.mem (List.Mem.tail _ (List.Mem.tail _ (List.Mem.head _)))) ?_
 rw [← hx, ← hy]
 have hM1 := fun u v M0 I0 => sJ (X := X) (w0 := w0) (M0 := M0) (I0 := I0) (u := u) (v := v) (y := x.q.num) (z := y.q.den) (k := k) (m := m) (by omega)
 have hM2 := fun u v M0 I0 => sJ (X := X) (w0 := w0) (M0 := M0) (I0 := I0) (u := u) (v := v) (y := y.q.num) (z := x.q.den) (k := m) (m := k) (by omega)
 have hM3 := fun u v M0 I0 => sJ (X := X) (w0 := w0) (M0 := M0) (I0 := I0) (u := u) (v := v) (y := x.q.den) (z := y.q.den) (k := k) (m := m) (by omega)
 have hA := fun u v M0 I0 => aWV (X := X) (w0 := w0) (M0 := M0) (I0 := I0) (u := u) (v := v) (y := x.q.num * y.q.den) (z := y.q.num * x.q.den) (k := k + m) (m := m + k) (c := k + m + 1) (by omega) (by omega) (by omega) (aKN k m)
 have hR := fun u v M0 I0 => vK (X := X) (w0 := w0) (M0 := M0) (I0 := I0) (u := u) (v := v) (n := x.q.num * y.q.den + y.q.num * x.q.den) (d := x.q.den * y.q.den) (k := k + m + 1) (by omega) (sH _ _)
 rw [← vQ] at hR
 repeat (refine aV ?_)
 (repeat refine aG ?_); refine bZ (.blk b2 (eR y) 50 :: .blk b1 (eR x) 50 :: M0) (I0) [0, 1, 2, 3, 5, 6, 7, 8, 11, 12, 13, 14, 4, 9, 10, 15, 16, 17] [5, 4, 5, 4, 5, 4, 5, 4, 5, 4, 5, 4, 0, 0, 0, 0, 0, 0] aD aC mixed (by kernel_rfl) ?_
 repeat (refine aV ?_)
 (refine aA rfl (hM1 _ _ _ _ aB aB) rfl rfl ?_; rintro _ _ _ ⟨rfl, rfl⟩; refine ⟨okF, ?_⟩)
 (refine aA rfl (hM2 _ _ _ _ aB aB) rfl rfl ?_; rintro _ _ _ ⟨rfl, rfl⟩; refine ⟨okF, ?_⟩)
 (refine aA rfl (hA _ _ _ _ aB aB) rfl rfl ?_; rintro _ _ _ ⟨rfl, rfl⟩; refine ⟨okF, ?_⟩)
 (refine aA rfl (hM3 _ _ _ _ aB aB) rfl rfl ?_; rintro _ _ _ ⟨rfl, rfl⟩; refine ⟨okF, ?_⟩)
 refine aFZ (k2 := k + m + 1) (List.Mem.head _) (by omega) ?_
 (refine aA rfl (hR _ _ _ _ aB aB) rfl rfl ?_; rintro _ _ _ ⟨rfl, e, rfl, he, rfl⟩; refine ⟨okF, ?_⟩)
 repeat (refine aV ?_)
 refine bD (cs := eR e) (.inl rfl) rfl rfl aB rfl M0 (bS e (k + m + 1) :: I0) aD aC ⟨rfl, e, rfl, he, rfl⟩
theorem aJU {a b : RE} {k m : Nat} (hk : k + m + 1 ≤ 500000000000) (ha : Hv I0 (bS a k)) (hb : Hv I0 (bS b m)) :
  CD Tryz.prog 119 [rv a, rv b] X w0 M0 I0 (RQ (a.q - b.q) (k + m + 1) M0 I0) := by
 refine aX Tryz.func119 rfl Tryz.ntmps119 rfl ?_
 refine aG ?_
 refine aJ ?_
 (refine aR rfl rfl rfl ?_; intro b1; refine ⟨okF, ?_⟩)
 (refine aR rfl rfl rfl ?_; intro b2; refine ⟨okF, ?_⟩)
 (refine aI rfl rfl ?_; intro b3; refine ⟨okF, ?_⟩)
 repeat (refine aV ?_)
 (repeat refine aG ?_); refine bG 1 [0, 1, 2, 3, 4] [1, 1, 0, 0, 0] mixed (by kernel_rfl) ?_
 repeat (refine aV ?_)
 (refine aA rfl (aEO (k := m) (by omega) hb) rfl rfl ?_; rintro _ _ _ ⟨rfl, y, rfl, hy, rfl⟩; refine ⟨okF, ?_⟩)
 rw [Rat.sub_eq_add_neg, ← hy]
 (refine aA rfl (sO hk ha.cons (Hv.mem (List.Mem.head _))) rfl rfl ?_; rintro _ _ _ ⟨rfl, e, rfl, he, rfl⟩; refine ⟨okF, ?_⟩)
 repeat (refine aV ?_)
 refine bD (cs := eR e) (.inl rfl) rfl rfl aB rfl M0 (bS e (k + m + 1) :: I0) aD aC ⟨rfl, e, rfl, he, rfl⟩
theorem qC {a b : RE} {k m : Nat} (hk : k + m ≤ 500000000000) (ha : Hv I0 (bS a k)) (hb : Hv I0 (bS b m)) :
  CD Tryz.prog 118 [rv a, rv b] X w0 M0 I0 (RQ (a.q * b.q) (k + m) M0 I0) := by
 refine aX Tryz.func118 rfl Tryz.ntmps118 rfl ?_
 refine aG ?_
 refine aJ ?_
 (refine aR rfl rfl rfl ?_; intro b1; refine ⟨okF, ?_⟩)
 (refine aR rfl rfl rfl ?_; intro b2; refine ⟨okF, ?_⟩)
 (refine aI rfl rfl ?_; intro b3; refine ⟨okF, ?_⟩)
 repeat (refine aV ?_)
 (repeat refine aG ?_); refine bG 2 [0, 2, 1, 3, 4, 5] [1, 2, 0, 0, 0, 0] mixed (by kernel_rfl) ?_
 repeat (refine aV ?_)
 (refine aA rfl (mI (k := k) (by omega) ha) rfl rfl ?_; rintro _ _ _ ⟨rfl, x, rfl, hx, rfl⟩; refine ⟨okF, ?_⟩)
 repeat (refine aV ?_)
 (refine aA rfl (mI (k := m) (by omega) hb.cons) rfl rfl ?_; rintro _ _ _ ⟨rfl, y, rfl, hy, rfl⟩; refine ⟨okF, ?_⟩)
 refine iH (e := x) (k := k) (Hv.mem (List.Mem.tail _ (List.Mem.head _))) ?_
 refine iH (e := y) (k := m) (Hv.mem (List.Mem.tail _ (List.Mem.tail _ (List.Mem.head _)))) ?_
 rw [← hx, ← hy]
 have hM1 := fun u v M0 I0 => sJ (X := X) (w0 := w0) (M0 := M0) (I0 := I0) (u := u) (v := v) (y := x.q.num) (z := y.q.num) (k := k) (m := m) (by omega)
 have hM3 := fun u v M0 I0 => sJ (X := X) (w0 := w0) (M0 := M0) (I0 := I0) (u := u) (v := v) (y := x.q.den) (z := y.q.den) (k := k) (m := m) (by omega)
 have hR := fun u v M0 I0 => vK (X := X) (w0 := w0) (M0 := M0) (I0 := I0) (u := u) (v := v) (n := x.q.num * y.q.num) (d := x.q.den * y.q.den) (k := k + m) (by omega) (sH _ _)
 rw [← aBL] at hR
 repeat (refine aV ?_)
 (repeat refine aG ?_); refine bZ (.blk b2 (eR y) 50 :: .blk b1 (eR x) 50 :: M0) (I0) [0, 1, 2, 3, 5, 6, 7, 8, 4, 9, 10, 11] [3, 2, 3, 2, 3, 2, 3, 2, 0, 0, 0, 0] aD aC mixed (by kernel_rfl) ?_
 repeat (refine aV ?_)
 (refine aA rfl (hM1 _ _ _ _ aB aB) rfl rfl ?_; rintro _ _ _ ⟨rfl, rfl⟩; refine ⟨okF, ?_⟩)
 (refine aA rfl (hM3 _ _ _ _ aB aB) rfl rfl ?_; rintro _ _ _ ⟨rfl, rfl⟩; refine ⟨okF, ?_⟩)
 (refine aA rfl (hR _ _ _ _ aB aB) rfl rfl ?_; rintro _ _ _ ⟨rfl, e, rfl, he, rfl⟩; refine ⟨okF, ?_⟩)
 repeat (refine aV ?_)
 refine bD (cs := eR e) (.inl rfl) rfl rfl aB rfl M0 (bS e (k + m) :: I0) aD aC ⟨rfl, e, rfl, he, rfl⟩
abbrev zR : Value := .agg #[.bool false, .slice none 0 0, .bool false, .slice none 0 0]
theorem aBR {a b : RE} {k m : Nat} (hk : k + m ≤ 500000000000) (hb0 : b.q ≠ 0) (ha : Hv I0 (bS a k)) (hb : Hv I0 (bS b m)) :
  CD Tryz.prog 167 [rv a, rv b] X w0 M0 I0 (RQc (a.q / b.q) (k + m) M0 I0) := by
 refine aX Tryz.func167 rfl Tryz.ntmps167 rfl ?_
 refine aG ?_
 refine aJ ?_
 (refine aR rfl rfl rfl ?_; intro b1; refine ⟨okF, ?_⟩)
 (refine aR rfl rfl rfl ?_; intro b2; refine ⟨okF, ?_⟩)
 (refine aI rfl rfl ?_; intro b3; refine ⟨okF, ?_⟩)
 repeat (refine aV ?_)
 (repeat refine aG ?_); refine bG 2 [0, 2, 1, 3, 4, 5] [1, 2, 0, 0, 0, 0] mixed (by kernel_rfl) ?_
 repeat (refine aV ?_)
 (refine aA rfl (mI (k := k) (by omega) ha) rfl rfl ?_; rintro _ _ _ ⟨rfl, x, rfl, hx, rfl⟩; refine ⟨okF, ?_⟩)
 repeat (refine aV ?_)
 (refine aA rfl (mI (k := m) (by omega) hb.cons) rfl rfl ?_; rintro _ _ _ ⟨rfl, y, rfl, hy, rfl⟩; refine ⟨okF, ?_⟩)
 refine iH (e := x) (k := k) (Hv.mem (List.Mem.tail _ (List.Mem.head _))) ?_
 refine iH (e := y) (k := m) (Hv.mem (List.Mem.tail _ (List.Mem.tail _ (List.Mem.head _)))) ?_
 rw [← hx, ← hy]
 rw [← hy] at hb0
 have hs0 : ¬ y.q.num.sign = 0 := fun h => hb0 (Rat.num_eq_zero.1 (Int.sign_eq_zero_iff_zero.1 h))
 have hS := fun M0 I0 => sP (X := X) (w0 := w0) (M0 := M0) (I0 := I0) (u := vI y.p1 y.c1 y.q.num) (z := y.q.num) (k := m) (by omega)
 have hM1 := fun u v M0 I0 => sJ (X := X) (w0 := w0) (M0 := M0) (I0 := I0) (u := u) (v := v) (y := x.q.num) (z := y.q.den) (k := k) (m := m) (by omega)
 have hM3 := fun u v M0 I0 => sJ (X := X) (w0 := w0) (M0 := M0) (I0 := I0) (u := u) (v := v) (y := x.q.den) (z := y.q.num) (k := k) (m := m) (by omega)
 have hR := fun u v M0 I0 => vK (X := X) (w0 := w0) (M0 := M0) (I0 := I0) (u := u) (v := v) (n := x.q.num * y.q.den) (d := x.q.den * y.q.num) (k := k + m) (by omega) (aBJ hb0)
 rw [← aAX] at hR
 generalize y.q.num.sign = sy at *
 repeat (refine aV ?_)
 (refine aA rfl (hS _ _ aB) rfl rfl ?_; rintro _ _ _ ⟨rfl, rfl, rfl⟩; refine ⟨okF, ?_⟩)
 repeat (refine aV ?_)
 (repeat refine aG ?_); refine bZ (.blk b2 (eR y) 50 :: .blk b1 (eR x) 50 :: M0) (I0) [0, 1, 2, 3, 5, 6, 7, 8, 4, 9, 10, 11, 12] [3, 2, 3, 2, 3, 2, 3, 2, 0, 0, 0, 0, 0] aD aC mixed (by kernel_rfl) ?_
 repeat (refine aV ?_)
 (refine aA rfl (hM1 _ _ _ _ aB aB) rfl rfl ?_; rintro _ _ _ ⟨rfl, rfl⟩; refine ⟨okF, ?_⟩)
 (refine aA rfl (hM3 _ _ _ _ aB aB) rfl rfl ?_; rintro _ _ _ ⟨rfl, rfl⟩; refine ⟨okF, ?_⟩)
 (refine aA rfl (hR _ _ _ _ aB aB) rfl rfl ?_; rintro _ _ _ ⟨rfl, e, rfl, he, rfl⟩; refine ⟨okF, ?_⟩)
 repeat (refine aV ?_)
 refine fO (rs := [.cell 4 50, .tmp 5]) (vs := [rv e, .int .i64 0]) (.inl rfl) rfl (.cellN (cs := eR e) inferInstance rfl aB rfl (.tmp rfl .nil)) rfl M0 (bS e (k + m) :: I0) aD aC ⟨rfl, e, rfl, he, rfl⟩
def xU (p q : Rat) : Int := fP (p.num * q.den) (q.num * p.den)
theorem aTO {p q : Rat} : 0 < xU p q ↔ q < p := by
 unfold xU fP; rw [aVF]; split <;> (try split) <;> omega
theorem aST {p q : Rat} : xU p q = 0 ↔ p = q := by
 unfold xU fP; rw [aXC]; split <;> (try split) <;> omega
theorem zP {p q : Rat} : xU p q ≤ 0 ↔ p ≤ q := by rw [← Rat.not_lt, ← aTO]; omega
theorem aGG {a b : RE} {k m : Nat} (hk : k + m ≤ 400000000000) (ha : Hv I0 (bS a k)) (hb : Hv I0 (bS b m)) :
  CD Tryz.prog 90 [rv a, rv b] X w0 M0 I0 (fun v M I => M0 = M ∧ I0 = I ∧ v = .int .i64 (xU a.q b.q)) := by
 refine aX Tryz.func90 rfl Tryz.ntmps90 rfl ?_
 refine aG ?_
 refine aJ ?_
 (refine aR rfl rfl rfl ?_; intro b1; refine ⟨okF, ?_⟩)
 (refine aR rfl rfl rfl ?_; intro b2; refine ⟨okF, ?_⟩)
 repeat (refine aV ?_)
 (repeat refine aG ?_); refine bG 2 [0, 2, 1, 3, 4, 5] [1, 2, 0, 0, 0, 0] mixed (by kernel_rfl) ?_
 repeat (refine aV ?_)
 (refine aA rfl (mI (k := k) (by omega) ha) rfl rfl ?_; rintro _ _ _ ⟨rfl, x, rfl, hx, rfl⟩; refine ⟨okF, ?_⟩)
 repeat (refine aV ?_)
 (refine aA rfl (mI (k := m) (by omega) hb.cons) rfl rfl ?_; rintro _ _ _ ⟨rfl, y, rfl, hy, rfl⟩; refine ⟨okF, ?_⟩)
 refine iH (e := x) (k := k) (Hv.mem (List.Mem.tail _ (List.Mem.head _))) ?_
 refine iH (e := y) (k := m) (Hv.mem (List.Mem.tail _ (List.Mem.tail _ (List.Mem.head _)))) ?_
 rw [← hx, ← hy]
 have hM1 := fun u v M0 I0 => sJ (X := X) (w0 := w0) (M0 := M0) (I0 := I0) (u := u) (v := v) (y := x.q.num) (z := y.q.den) (k := k) (m := m) (by omega)
 have hM2 := fun u v M0 I0 => sJ (X := X) (w0 := w0) (M0 := M0) (I0 := I0) (u := u) (v := v) (y := y.q.num) (z := x.q.den) (k := m) (m := k) (by omega)
 have hC := fun u v M0 I0 => vL (X := X) (w0 := w0) (M0 := M0) (I0 := I0) (u := u) (v := v) (y := x.q.num * y.q.den) (z := y.q.num * x.q.den) (k := k + m) (m := m + k) (by omega) (by omega)
 repeat (refine aV ?_)
 (repeat refine aG ?_); refine bZ (.blk b2 (eR y) 50 :: .blk b1 (eR x) 50 :: M0) (I0) [0, 1, 2, 3, 5, 6, 7, 8, 4, 9, 10, 11] [3, 2, 3, 2, 3, 2, 3, 2, 0, 0, 0, 0] aD aC mixed (by kernel_rfl) ?_
 repeat (refine aV ?_)
 (refine aA rfl (hM1 _ _ _ _ aB aB) rfl rfl ?_; rintro _ _ _ ⟨rfl, rfl⟩; refine ⟨okF, ?_⟩)
 (refine aA rfl (hM2 _ _ _ _ aB aB) rfl rfl ?_; rintro _ _ _ ⟨rfl, rfl⟩; refine ⟨okF, ?_⟩)
 (refine aA rfl (hC _ _ _ _ aB aB) rfl rfl ?_; rintro _ _ _ ⟨rfl, rfl, rfl⟩; refine ⟨okF, ?_⟩)
 repeat (refine aV ?_)
 refine aH (by first | exact .inl rfl | exact .inr rfl) rfl rfl _ _ aD aC (⟨rfl, rfl, rfl⟩)
end
end Go.Proofs.YtjbhdfpjnjedhaaGreat
namespace Go.Proofs.YtjbhdfpjnjedhaaGreat
open Go Go.Fx
section
variable {P : Program} {n : Nat} {G : Env}
theorem aCR {C : World → Prop} {ty t e : TypeId} {sz : Nat} {x y : Operand} {k : IntKind} {i : Int} {q : Option Addr} [ht : SliceTy P t e sz] (hx : ev G x = some (.slice q 0 0)) (hy : ev G y = some (.int k i)) (hi : i = 0) :
  Const P n G (.slice t x none (some y) none) ty C (.slice q 0 0) := by
 subst hi
 refine ⟨?_⟩
 intro st ha dst pos after guard w _
 cases q with
 | none => simp [execOp, Instr.sliceAt, Instr.slice, ha.ev hx, fF ht.und, Fx.run_sizeOf ht.size, Instr.sliceBounds, Instr.sliceBound, asIntOf, ha.ev hy]
 | some ad => simp [execOp, Instr.sliceAt, Instr.slice, ha.ev hx, fF ht.und, Fx.run_sizeOf ht.size, Instr.sliceBounds, Instr.sliceBound, asIntOf, ha.ev hy, Addr.add]
end
section
variable {X : List Nat} {w0 : World} {M0 : List Ent} {I0 : List aY}
theorem oL {q : Option Addr} {l : List Int} {n c : Nat} {i : Int} (hn : n = l.length) (hi : 0 ≤ i) (hl : aO q (recs eG l) ∈ I0) (hd : Dig l) :
  CD Tryz.prog 218 [.slice q n c, .int .i64 i] X w0 M0 I0 (fun v M I => M0 = M ∧ I0 = I ∧ v = .int .u64 (gt l i)) := by
 subst hn
 have d := hd.gt i
 refine dY Tryz.func218 rfl Tryz.ntmps218 rfl ?_
 repeat' (first | refine lG ?_ | refine aM rfl (fun h => ?_) (fun h => ?_) | refine aN rfl rfl (fun h => ?_) (fun h => ?_) | fail)
 ·refine aH (by first | exact .inl rfl | exact .inr rfl) rfl rfl _ _ bV bT (⟨rfl, rfl, rfl⟩)
 ·refine aH (by first | exact .inl rfl | exact .inr rfl) rfl rfl _ _ bV bT (⟨rfl, rfl, by rw [aKW (by omega)]⟩)
theorem aDI {p : Prop} [Decidable p] {q : Option Addr} {l : List Int} {n c : Nat} (h63 : l.length ≤ 1000000000000) (hc : l.length ≤ c) (hok : Ok q ∨ (l.length = 0 ∧ c = 0)) (hd : Dig l) (hv : val l = n) (hl : aO q (recs eG l) ∈ I0) :
  CD Tryz.prog 158 [.bool (B p), .slice q l.length c] X w0 M0 I0 (fun v M I => M0 = M ∧ ∃ q' c', v = .agg #[.bool (B (p ∧ n ≠ 0)), .slice q' (gr n).length c'] ∧ pW q' n c' ∧ I = aO q' (recs eG (gr n)) :: I0) := by
 have hg : fQ l = gr n := nK hd hv
 refine dY Tryz.func158 rfl Tryz.ntmps158 rfl ?_
 refine aG ?_
 refine aJ ?_
 (refine aI rfl rfl ?_; intro b; refine ⟨nO, ?_⟩)
 repeat (refine lG ?_)
 refine aT [0, 1, 4] rfl (fun k G M I => ∃ m : Nat, m ≤ l.length ∧ k = m ∧ fQ (l.take m) = fQ l ∧ ∃ x : Int, x = m ∧ G = [(5, .int .i64 x)] ∧ M = .blk b [.bool false, .slice none 0 0] 48 :: M0 ∧ I0 = I) (l.length) _ _ _ aP bV bT (⟨l.length, by omega, rfl, by rw [List.take_length], _, rfl, rfl, rfl, rfl⟩) ?_
 rintro k G M I ⟨m, hm, rfl, ht, x, hx, rfl, rfl, rfl⟩
 have hend : fQ l = l.take k → (n ≠ 0 ↔ 0 < k) ∧ (gr n).length = k := fun e => by
  have hl1 : (gr n).length = k := by rw [← hg, e, List.length_take]; omega
  refine ⟨⟨fun h => ?_, fun h h0 => ?_⟩, hl1⟩
  ·rw [← hl1]; exact List.length_pos_iff.2 (fun e => h (nU.1 e))
  ·rw [h0, gX] at hl1; simp at hl1; omega
 have hstep : ∀ j : Nat, j < l.length → l.take (j + 1) = l.take j ++ [gt l (j : Int)] := fun j hj => by rw [List.take_succ_eq_append_getElem hj, fT hj]
 repeat' (first | refine lG ?_ | refine aM rfl (fun h => ?_) (fun h => ?_) | refine aN rfl rfl (fun h => ?_) (fun h => ?_) | fail)
 ·have h1 := h
  refine aL (k - 1) _ _ _ (by first | omega | (simp only [List.length_append, List.length_cons, List.length_nil]; omega)) aP bV bT (⟨k - 1, by omega, rfl, ?_, _, by omega, rfl, rfl, rfl⟩)
  rw [← ht]
  obtain ⟨j, rfl⟩ : ∃ j, k = j + 1 := ⟨k - 1, by omega⟩
  have e : ((j + 1 : Nat) : Int) - 1 = j := by omega
  rw [hx, e] at h1
  rw [hstep j (by omega), h1, vF]
  rfl
 all_goals
  have htk : fQ l = l.take k := by
   rw [← ht]
   refine aBT ?_
   rcases Nat.eq_zero_or_pos k with h0 | h0
   ·subst h0; simp [Top]
   ·obtain ⟨j, rfl⟩ : ∃ j, k = j + 1 := ⟨k - 1, by omega⟩
    have e : ((j + 1 : Nat) : Int) - 1 = j := by omega
    rw [hstep j (by omega), Top.snoc]
    first
     | (rw [← e, ← hx]; assumption)
     | (exfalso; omega)
  obtain ⟨hnz, hlk⟩ := hend htk
  have hgk : gr n = l.take k := by rw [← hg, htk]
 all_goals
  have hsl : aO q (recs eG (gr n)) ∈ aO q (recs eG (gr n)) :: I0 := List.Mem.head _
  refine sW (M' := .blk b [.bool false, .slice none 0 0] 48 :: M0) (I' := aO q (recs eG (gr n)) :: I0) (fun w hw => hw.takeI (cs := recs eG (gr n)) (tl := recs eG (l.drop k)) (by rw [hgk, ← mZ, List.take_append_drop]; exact hl)) ?_
  subst hx
  (refine aQ (cs := recs eG []) ([]) rfl rfl (by intro v hv; repeat (first | exact absurd hv (List.not_mem_nil) | (rcases List.mem_cons.1 hv with rfl | hv; · rfl))) (by omega) rfl rfl rfl ?_; intro b1; refine ⟨nO, ?_⟩)
  repeat (refine lG ?_)
  have hbool : ∀ y : Bool, (y = true ↔ (p ∧ n ≠ 0)) → Value.bool y = .bool (B (p ∧ n ≠ 0)) := fun y hy => by
   refine congrArg Value.bool ?_
   by_cases hp : p ∧ n ≠ 0
   ·rw [bJ hp]; exact hy.2 hp
   ·rw [bB hp]; cases y with
    | false => rfl
    | true => exact absurd (hy.1 rfl) hp
  rcases hok with hok | ⟨hl0, hc0⟩
  ·obtain ⟨b9, o9, rfl⟩ := hok.cases
   refine aF rfl (fun _ => pE k rfl rfl rfl (by omega)) rfl rfl ?_
   refine jI (b := b1) (mm := 0) 1 mV rfl (by omega) ?_
   refine dI (xs := []) (ys := gr n) 0 rfl rfl rfl (Src.imm (List.Mem.head _) (.inl (Ok.mk _ _))) (by decide) hlk (by simp <;> omega) (by simp <;> omega) rfl rfl ?_
   intro a2 c2
   refine ⟨nO, ?_⟩
   rw [List.nil_append]
   refine mR (fun w hw => And.intro (hw.rowLe (List.Mem.head _)) ((hw.rowS (List.Mem.head _)).2.imp id And.right)) (fun ho3 => ?_)
   refine eU vM ?_
   refine aF rfl (fun _ => bA (pvs := [(0, _), (1, _)]) (cells := [_, .slice a2 (gr n).length c2]) rfl rfl) rfl rfl ?_
   repeat (refine lG ?_)
   refine bD (cs := [_, .slice a2 (gr n).length c2]) (.inl rfl) rfl rfl aS rfl M0 (aO a2 (recs eG (gr n)) :: I0) bV bT ⟨rfl, a2, c2, ?_, ho3, rfl⟩
   first
    | exact congrArg (fun x => Value.agg #[x, .slice a2 (gr n).length c2]) (hbool (B ((0 : Int) < ((k : Nat) : Int))) (by rw [qJ, decide_eq_true_iff]; exact ⟨fun h => ⟨by assumption, hnz.2 (by omega)⟩, fun h => by have := hnz.1 h.2; omega⟩))
    | exact congrArg (fun x => Value.agg #[x, .slice a2 (gr n).length c2]) (hbool false ⟨fun h => (by cases h), fun h => absurd h.1 (by assumption)⟩)
  ·subst hc0
   obtain rfl : k = 0 := by omega
   have hn0 : gr n = [] := by rw [hgk]; rfl
   obtain rfl : l = [] := List.eq_nil_of_length_eq_zero hl0
   refine aF rfl (fun _ => aCR rfl rfl rfl) rfl rfl ?_
   refine jI (b := b1) (mm := 0) 1 mV rfl (by omega) ?_
   refine dI (xs := []) (ys := gr n) 0 rfl rfl rfl (Src.imm (List.Mem.head _) (.inr ⟨rfl, rfl⟩)) (by decide) hlk (by simp <;> omega) (by simp <;> omega) rfl rfl ?_
   intro a2 c2
   refine ⟨nO, ?_⟩
   rw [List.nil_append]
   refine mR (fun w hw => And.intro (hw.rowLe (List.Mem.head _)) ((hw.rowS (List.Mem.head _)).2.imp id And.right)) (fun ho3 => ?_)
   refine eU vM ?_
   refine aF rfl (fun _ => bA (pvs := [(0, _), (1, _)]) (cells := [_, .slice a2 (gr n).length c2]) rfl rfl) rfl rfl ?_
   repeat (refine lG ?_)
   refine bD (cs := [_, .slice a2 (gr n).length c2]) (.inl rfl) rfl rfl aS rfl M0 (aO a2 (recs eG (gr n)) :: I0) bV bT ⟨rfl, a2, c2, ?_, ho3, rfl⟩
   first
    | exact congrArg (fun x => Value.agg #[x, .slice a2 (gr n).length c2]) (hbool (B ((0 : Int) < ((0 : Nat) : Int))) (by rw [qJ, decide_eq_true_iff]; exact ⟨fun h => ⟨by assumption, hnz.2 (by omega)⟩, fun h => by have := hnz.1 h.2; omega⟩))
    | exact congrArg (fun x => Value.agg #[x, .slice a2 (gr n).length c2]) (hbool false ⟨fun h => (by cases h), fun h => absurd h.1 (by assumption)⟩)
end
end Go.Proofs.YtjbhdfpjnjedhaaGreat
