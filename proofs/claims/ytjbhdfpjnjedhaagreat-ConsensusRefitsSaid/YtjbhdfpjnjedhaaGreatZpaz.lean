/- Fractions as they come in: whatever bits, canonical or not. Matrices and lists of fractions that are only read: facts about memory; matrices as they come in. Matrices as they come in; which numbers are brief. -/
import Derived.Test.YtjbhdfpjnjedhaaGreatZpax
import Derived.Test.YtjbhdfpjnjedhaaGreatZpar
import Derived.Test.YtjbhdfpjnjedhaaGreatZpay
import Derived.Test.YtjbhdfpjnjedhaaGreatZpam
set_option linter.unusedSimpArgs false
set_option linter.unusedVariables false
set_option maxRecDepth 100000
set_option maxHeartbeats 4000000
namespace Go.Proofs.YtjbhdfpjnjedhaaGreat
open Go Go.Fx
structure RW where
 n1 : Bool
 p1 : Option Addr
 g1 : List Int
 c1 : Nat
 n2 : Bool
 p2 : Option Addr
 g2 : List Int
 c2 : Nat
instance : Inhabited RW := ⟨⟨false, none, [], 0, false, none, [], 0⟩⟩
abbrev eW (r : RW) : List Value := [.bool r.n1, .slice r.p1 r.g1.length r.c1, .bool r.n2, .slice r.p2 r.g2.length r.c2]
abbrev wv (r : RW) : Value := .agg #[.bool r.n1, .slice r.p1 r.g1.length r.c1, .bool r.n2, .slice r.p2 r.g2.length r.c2]
instance : Sized eW 4 := ⟨fun _ => rfl⟩
instance : Ones eW := ⟨fun m u hu => by
 simp only [eW, List.mem_cons, List.not_mem_nil, or_false] at hu
 rcases hu with rfl | rfl | rfl | rfl <;> rfl⟩
abbrev Cap (p : Option Addr) (n c : Nat) : Prop := n ≤ c ∧ (Ok p ∨ (n = 0 ∧ c = 0))
structure RW.Fit (r : RW) : Prop where
 u1 : ∀ x ∈ r.g1, 0 ≤ x
 u2 : ∀ x ∈ r.g2, 0 ≤ x
 l1 : (r.g1.length : Int) ≤ 9223372036854775807
 l2 : (r.g2.length : Int) ≤ 9223372036854775807
 k1 : Cap r.p1 r.g1.length r.c1
 k2 : Cap r.p2 r.g2.length r.c2
structure IsW (r : RW) (X : List Nat) (w : World) : Prop where
 fit : r.Fit
 s1 : Sl X w r.p1 (recs eG r.g1)
 s2 : Sl X w r.p2 (recs eG r.g2)
abbrev isW (r : RW) : aY := IsW r
instance (r : RW) : Fx.Good (IsW r) := ⟨fun X Y w w' h he hY => ⟨h.fit, Sl.carry h.s1 he hY, Sl.carry h.s2 he hY⟩⟩
def zI (n : Bool) (g : List Int) : Int := if n = true then -val g else val g
theorem uK {n : Bool} {g : List Int} (h : qK n g) (hu : ∀ x ∈ g, 0 ≤ x) : B (zI n g < 0) = n ∧ gr (zI n g).natAbs = g := by
 rcases h with ⟨rfl, rfl⟩ | ⟨h1, h2, h3⟩
 ·exact ⟨bB (by simp [zI, val]), by simp [zI, val, gX]⟩
 ·have hd : Dig g := fun x hx => ⟨hu x hx, by
   have : ¬ 1000000000 ≤ x := fun e => h3 ⟨x, hx, e⟩
   omega⟩
  have hc : Can g := ⟨hd, h2⟩
  have hp : 0 < g.length := by cases g with | nil => exact absurd rfl h1 | cons a l => simp
  have hv := xJ hc hp
  have hpp := jH (g.length - 1)
  have ha : (zI n g).natAbs = (val g).toNat := by unfold zI; split <;> omega
  refine ⟨?_, by rw [ha]; exact (aUQ hc).symm⟩
  cases n with
  | true => exact bJ (by simp only [zI, if_pos]; omega)
  | false => exact bB (by simp only [zI]; rw [if_neg (by decide)]; omega)
theorem aEI (z : Int) : zI (B (z < 0)) (gr z.natAbs) = z := by
 unfold zI
 rw [dD, qJ]
 by_cases h : z < 0
 ·rw [if_pos (by simpa using h)]; omega
 ·rw [if_neg (by simpa using h)]; omega
theorem aTJ (n : Nat) : (1000000000 : Nat) ^ n ≤ 2 ^ (30 * n) := by
 rw [Nat.pow_mul]
 exact Nat.pow_le_pow_left (by decide) n
theorem aEK {z : Int} : z.natAbs ≤ 2 ^ (30 * (gr z.natAbs).length) := by
 have h1 := jY (bY z.natAbs)
 rw [dD] at h1
 have h2 := aTJ (gr z.natAbs).length
 have h3 : ((1000000000 ^ (gr z.natAbs).length : Nat) : Int) = (1000000000 : Int) ^ (gr z.natAbs).length := by rw [Int.natCast_pow]; rfl
 omega
def RW.good (r : RW) : Prop := qK r.n1 r.g1 ∧ qK r.n2 r.g2 ∧ 0 < zI r.n2 r.g2 ∧ Int.gcd (zI r.n1 r.g1) (zI r.n2 r.g2) = 1
instance (r : RW) : Decidable r.good := by unfold RW.good; exact inferInstance
def RE.raw (e : RE) : RW := ⟨B (e.q.num < 0), e.p1, gr e.q.num.natAbs, e.c1, B ((e.q.den : Int) < 0), e.p2, gr (e.q.den : Int).natAbs, e.c2⟩
theorem RE.raw_good (e : RE) : e.raw.good := by
 refine ⟨xH _, xH _, ?_, ?_⟩
 ·show 0 < zI (B ((e.q.den : Int) < 0)) (gr (e.q.den : Int).natAbs)
  rw [aEI]; have := e.q.den_nz; omega
 ·show Int.gcd (zI (B (e.q.num < 0)) (gr e.q.num.natAbs)) (zI (B ((e.q.den : Int) < 0)) (gr (e.q.den : Int).natAbs)) = 1
  rw [aEI, aEI]
  exact e.q.reduced
theorem RW.good_raw {r : RW} (hf : r.Fit) (h : r.good) : ∃ e : RE, r = e.raw := by
 obtain ⟨n1, p1, g1, c1, n2, p2, g2, c2⟩ := r
 obtain ⟨h1, h2, h3, h4⟩ := h
 simp only at h1 h2 h3 h4
 obtain ⟨a1, a2⟩ := uK h1 hf.u1
 obtain ⟨b1, b2⟩ := uK h2 hf.u2
 generalize zI n1 g1 = z1 at *
 generalize zI n2 g2 = z2 at *
 subst a1; subst a2; subst b1; subst b2
 have e2 : ((z2.natAbs : Nat) : Int) = z2 := by omega
 refine ⟨⟨⟨z1, z2.natAbs, by omega, ?_⟩, p1, c1, p2, c2⟩, ?_⟩
 ·exact h4
 ·unfold RE.raw
  simp only [e2]
theorem RE.fit {e : RE} {k : Nat} {X : List Nat} {w : World} (hk : k ≤ 1000000000000) (h : IsR e k X w) : IsW e.raw X w := by
 obtain ⟨q, c, h1, h2, h3, h4⟩ := h.num.ex
 obtain ⟨q', c', i1, i2, i3, i4⟩ := h.den.ex
 simp only [iv, Value.agg.injEq, Array.mk.injEq, List.cons.injEq, Value.slice.injEq, and_true, true_and] at h1 i1
 obtain ⟨rfl, rfl⟩ := h1
 obtain ⟨rfl, rfl⟩ := i1
 have a1 := gF h3 hk
 have a2 := gF i3 hk
 exact ⟨⟨fun x hx => (bY _ x hx).1, fun x hx => (bY _ x hx).1, by show ((gr e.q.num.natAbs).length : Int) ≤ _; omega, by show ((gr (e.q.den : Int).natAbs).length : Int) ≤ _; omega, h2, i2⟩, h4, i4⟩
theorem RE.isR_raw {e : RE} {k : Nat} {X : List Nat} {w : World} (h : IsW e.raw X w) (k1 : 30 * e.raw.g1.length ≤ k) (k2 : 30 * e.raw.g2.length ≤ k) : IsR e k X w :=
 ⟨⟨⟨e.p1, e.c1, rfl, h.fit.k1, Nat.le_trans aEK (Nat.pow_le_pow_right (by decide) k1), h.s1⟩⟩, ⟨⟨e.p2, e.c2, rfl, h.fit.k2, Nat.le_trans aEK (Nat.pow_le_pow_right (by decide) k2), h.s2⟩⟩⟩
section
variable {X : List Nat} {w0 : World} {M0 : List Ent} {I0 : List aY}
theorem aBO {P : Program} {f : FuncId} {vs : List Value} {K : Value → Prop} {r : RW} (h : Hv I0 (isW r)) (c : r.Fit → CD P f vs X w0 M0 (aO r.p1 (recs eG r.g1) :: aO r.p2 (recs eG r.g2) :: I0) (fun v M I => M0 = M ∧ aO r.p1 (recs eG r.g1) :: aO r.p2 (recs eG r.g2) :: I0 = I ∧ K v)) :
  CD P f vs X w0 M0 I0 (fun v M I => M0 = M ∧ I0 = I ∧ K v) := ⟨fun w hw => by
 have hr : IsW r (muts M0) w := h.go _ _ (fun ψ hm => (hw.imm ψ hm).2)
 have hw' := (hw.add (φ := aO r.p2 (recs eG r.g2)) ⟨hr.s2⟩).add (φ := aO r.p1 (recs eG r.g1)) ⟨hr.s1⟩
 refine ((c hr.fit).go w hw').mono (fun _ _ h => ?_)
 obtain ⟨_, _, ⟨rfl, rfl, h3⟩, hm⟩ := h
 exact ⟨_, _, ⟨rfl, rfl, h3⟩, hm.inc (Inc.wk (Inc.wk Inc.refl))⟩⟩
theorem uT {P : Program} {f : FuncId} {vs : List Value} {K : Value → Prop} {p : Option Addr} {c k : Nat} {z : Int} (hs : aO p (recs eG (gr z.natAbs)) ∈ I0) (hc : Cap p (gr z.natAbs).length c) (hk : 30 * (gr z.natAbs).length ≤ k) (h : CD P f vs X w0 M0 (iI (vI p c z) z k :: I0) (fun v M I => M0 = M ∧ iI (vI p c z) z k :: I0 = I ∧ K v)) :
  CD P f vs X w0 M0 I0 (fun v M I => M0 = M ∧ I0 = I ∧ K v) := ⟨fun w hw => by
 have hw' := aEG hw hs hc (Nat.le_trans aEK (Nat.pow_le_pow_right (by decide) hk))
 refine (h.go w hw').mono (fun _ _ h => ?_)
 obtain ⟨_, _, ⟨rfl, rfl, h3⟩, hm⟩ := h
 exact ⟨_, _, ⟨rfl, rfl, h3⟩, hm.inc (Inc.wk Inc.refl)⟩⟩
theorem aLA (n : Nat) : (fP (n : Int) 1 = 0) ↔ n = 1 := by
 unfold fP
 split
 ·omega
 ·split <;> omega
theorem aHJ {p1 p2 : Option Addr} {c1 c2 k : Nat} {y z : Int} (hk : k ≤ 500000000000) (h1 : iI (vI p1 c1 y) y k ∈ I0) (h2 : iI (vI p2 c2 z) z k ∈ I0) :
  CD Tryz.prog 196 [.agg #[.bool (B (y < 0)), .slice p1 (gr y.natAbs).length c1, .bool (B (z < 0)), .slice p2 (gr z.natAbs).length c2]] X w0 M0 I0 (fun v M I => M0 = M ∧ I0 = I ∧ v = .bool (B (0 < z ∧ Int.gcd y z = 1))) := by
 have hV1 := fun M0 I0 h => uI (X := X) (w0 := w0) (M0 := M0) (I0 := I0) (u := vI p1 c1 y) (z := y) (k := k) (by omega) h
 have hV2 := fun M0 I0 h => uI (X := X) (w0 := w0) (M0 := M0) (I0 := I0) (u := vI p2 c2 z) (z := z) (k := k) (by omega) h
 have hS := fun M0 I0 => sP (X := X) (w0 := w0) (M0 := M0) (I0 := I0) (u := vI p2 c2 z) (z := z) (k := k) (by omega)
 have hs : z.sign ≤ 0 ↔ ¬ 0 < z := by rw [← Int.sign_pos_iff]; omega
 have hG := fun M0 I0 => aIJ (X := X) (w0 := w0) (M0 := M0) (I0 := I0) (u := vI p1 c1 y) (v := vI p2 c2 z) (y := y) (z := z) (k0 := k) (m := k) (by omega) (by omega)
 generalize hg : Int.gcd y z = g at *
 have hC := fun u v M0 I0 => vL (X := X) (w0 := w0) (M0 := M0) (I0 := I0) (u := u) (v := v) (y := g) (z := 1) (k := k + k) (m := 63) (by omega) (by omega)
 have hc := aLA g
 generalize fP (g : Int) 1 = cv at *
 generalize z.sign = sz at *
 refine aZ Tryz.func196 rfl Tryz.ntmps196 rfl ?_
 refine aG ?_
 refine aJ ?_
 (refine aR rfl rfl rfl ?_; intro b; refine ⟨okF, ?_⟩)
 repeat (refine aV ?_)
 (refine aA rfl (hV1 _ _ aB) rfl rfl ?_; rintro _ _ _ ⟨rfl, rfl, rfl⟩; refine ⟨okF, ?_⟩)
 repeat (refine aV ?_)
 (refine aA rfl (hV2 _ _ aB) rfl rfl ?_; rintro _ _ _ ⟨rfl, rfl, rfl⟩; refine ⟨okF, ?_⟩)
 repeat (refine aV ?_)
 (refine aA rfl (hS _ _ aB) rfl rfl ?_; rintro _ _ _ ⟨rfl, rfl, rfl⟩; refine ⟨okF, ?_⟩)
 repeat' (first | refine aV ?_ | refine aM rfl (fun h => ?_) (fun h => ?_) | refine aN rfl rfl (fun h => ?_) (fun h => ?_) | fail)
 ·refine aH (by first | exact .inl rfl | exact .inr rfl) rfl rfl _ _ aD aC (⟨rfl, rfl, congrArg Value.bool (bB (fun e => hs.1 (by assumption) e.1)).symm⟩)
 (refine aA rfl (hG _ _ aB aB) rfl rfl ?_; rintro _ _ _ ⟨rfl, rfl⟩; refine ⟨okF, ?_⟩)
 repeat (refine aV ?_)
 (refine aA rfl (aFJ (x := 1) (by decide)) rfl rfl ?_; rintro _ _ _ ⟨rfl, rfl⟩; refine ⟨okF, ?_⟩)
 (refine aA rfl (hC _ _ _ _ aB aB) rfl rfl ?_; rintro _ _ _ ⟨rfl, rfl, rfl⟩; refine ⟨okF, ?_⟩)
 repeat (refine aV ?_)
 refine aH (by first | exact .inl rfl | exact .inr rfl) rfl rfl _ _ aD aC (⟨rfl, rfl, congrArg Value.bool (gY ⟨fun e => ⟨by omega, hc.1 e⟩, fun e => hc.2 e.2⟩)⟩)
theorem aGI {p1 p2 : Option Addr} {c1 c2 k : Nat} {y z : Int} (hk : k ≤ 100000000000) (h1 : iI (vI p1 c1 y) y k ∈ I0) (h2 : iI (vI p2 c2 z) z k ∈ I0) :
  CD Tryz.prog 67 [.agg #[.bool (B (y < 0)), .slice p1 (gr y.natAbs).length c1, .bool (B (z < 0)), .slice p2 (gr z.natAbs).length c2]] X w0 M0 I0 (fun v M I => M0 = M ∧ I0 = I ∧ v = .bool (B (0 < z ∧ Int.gcd y z = 1))) := by
 have hV1 := fun M0 I0 h => wH (X := X) (w0 := w0) (M0 := M0) (I0 := I0) (u := vI p1 c1 y) (z := y) (k := k) (by omega) h
 have hV2 := fun M0 I0 h => wH (X := X) (w0 := w0) (M0 := M0) (I0 := I0) (u := vI p2 c2 z) (z := z) (k := k) (by omega) h
 have hS := fun M0 I0 => qU (X := X) (w0 := w0) (M0 := M0) (I0 := I0) (u := vI p2 c2 z) (z := z) (k := k) (by omega)
 have hs : z.sign ≤ 0 ↔ ¬ 0 < z := by rw [← Int.sign_pos_iff]; omega
 have hG := fun M0 I0 => aEY (X := X) (w0 := w0) (M0 := M0) (I0 := I0) (u := vI p1 c1 y) (v := vI p2 c2 z) (y := y) (z := z) (k0 := k) (m := k) (by omega) (by omega)
 generalize hg : Int.gcd y z = g at *
 have hC := fun u v M0 I0 => yJ (X := X) (w0 := w0) (M0 := M0) (I0 := I0) (u := u) (v := v) (y := g) (z := 1) (k := k + k) (m := 63) (by omega) (by omega)
 have hc := aLA g
 generalize fP (g : Int) 1 = cv at *
 generalize z.sign = sz at *
 refine aZ Tryz.func67 rfl Tryz.ntmps67 rfl ?_
 refine aG ?_
 refine aJ ?_
 (refine aR rfl rfl rfl ?_; intro b; refine ⟨okF, ?_⟩)
 repeat (refine aV ?_)
 (refine aA rfl (hV1 _ _ aB) rfl rfl ?_; rintro _ _ _ ⟨rfl, rfl, rfl⟩; refine ⟨okF, ?_⟩)
 repeat (refine aV ?_)
 (refine aA rfl (hV2 _ _ aB) rfl rfl ?_; rintro _ _ _ ⟨rfl, rfl, rfl⟩; refine ⟨okF, ?_⟩)
 repeat (refine aV ?_)
 (refine aA rfl (hS _ _ aB) rfl rfl ?_; rintro _ _ _ ⟨rfl, rfl, rfl⟩; refine ⟨okF, ?_⟩)
 repeat' (first | refine aV ?_ | refine aM rfl (fun h => ?_) (fun h => ?_) | refine aN rfl rfl (fun h => ?_) (fun h => ?_) | fail)
 ·refine aH (by first | exact .inl rfl | exact .inr rfl) rfl rfl _ _ aD aC (⟨rfl, rfl, congrArg Value.bool (bB (fun e => hs.1 (by assumption) e.1)).symm⟩)
 (refine aA rfl (hG _ _ aB aB) rfl rfl ?_; rintro _ _ _ ⟨rfl, rfl⟩; refine ⟨okF, ?_⟩)
 repeat (refine aV ?_)
 (refine aA rfl (uF (x := 1) (by decide)) rfl rfl ?_; rintro _ _ _ ⟨rfl, rfl⟩; refine ⟨okF, ?_⟩)
 (refine aA rfl (hC _ _ _ _ aB aB) rfl rfl ?_; rintro _ _ _ ⟨rfl, rfl, rfl⟩; refine ⟨okF, ?_⟩)
 repeat (refine aV ?_)
 refine aH (by first | exact .inl rfl | exact .inr rfl) rfl rfl _ _ aD aC (⟨rfl, rfl, congrArg Value.bool (gY ⟨fun e => ⟨by omega, hc.1 e⟩, fun e => hc.2 e.2⟩)⟩)
theorem aNA {r : RW} (hl : r.g1.length ≤ 1000000000 ∧ r.g2.length ≤ 1000000000) (h : Hv I0 (isW r)) :
  CD Tryz.prog 196 [wv r] X w0 M0 I0 (fun v M I => M0 = M ∧ I0 = I ∧ v = .bool (B r.good)) := by
 refine aBO h (fun hf => ?_)
 obtain ⟨n1, p1, g1, c1, n2, p2, g2, c2⟩ := r
 simp only at hl
 by_cases k1 : qK n1 g1
 ·by_cases k2 : qK n2 g2
  ·obtain ⟨a1, a2⟩ := uK k1 hf.u1
   obtain ⟨b1, b2⟩ := uK k2 hf.u2
   have hg : (RW.mk n1 p1 g1 c1 n2 p2 g2 c2).good ↔ (0 < zI n2 g2 ∧ Int.gcd (zI n1 g1) (zI n2 g2) = 1) := ⟨fun h => h.2.2, fun h => ⟨k1, k2, h⟩⟩
   rw [gY hg]
   generalize zI n1 g1 = y at *
   generalize zI n2 g2 = z at *
   subst a1; subst a2; subst b1; subst b2
   refine uT (p := p1) (c := c1) (z := y) (k := 30000000000) (List.Mem.head _) hf.k1 (by omega) ?_
   refine uT (p := p2) (c := c2) (z := z) (k := 30000000000) (List.Mem.tail _ (List.Mem.tail _ (List.Mem.head _))) hf.k2 (by omega) ?_
   exact aHJ (by omega) (List.Mem.tail _ (List.Mem.head _)) (List.Mem.head _)
  ·have hg : ¬ (RW.mk n1 p1 g1 c1 n2 p2 g2 c2).good := fun h => k2 h.2.1
   rw [bB hg]
   have hV1 := fun M0 I0 => tZ (X := X) (w0 := w0) (M0 := M0) (I0 := I0) (neg := n1) (q := p1) (gs := g1) (c := c1) hf.l1
   have hV2 := fun M0 I0 => tZ (X := X) (w0 := w0) (M0 := M0) (I0 := I0) (neg := n2) (q := p2) (gs := g2) (c := c2) hf.l2
   rw [bJ k1] at hV1
   rw [bB k2] at hV2
   refine aZ Tryz.func196 rfl Tryz.ntmps196 rfl ?_
   refine aG ?_
   refine aJ ?_
   (refine aR rfl rfl rfl ?_; intro b; refine ⟨okF, ?_⟩)
   repeat (refine aV ?_)
   (refine aA rfl (hV1 _ _ aB) rfl rfl ?_; rintro _ _ _ ⟨rfl, rfl, rfl⟩; refine ⟨okF, ?_⟩)
   repeat (refine aV ?_)
   (refine aA rfl (hV2 _ _ aB) rfl rfl ?_; rintro _ _ _ ⟨rfl, rfl, rfl⟩; refine ⟨okF, ?_⟩)
   repeat (refine aV ?_)
   refine aH (by first | exact .inl rfl | exact .inr rfl) rfl rfl _ _ aD aC (⟨rfl, rfl, rfl⟩)
 ·have hg : ¬ (RW.mk n1 p1 g1 c1 n2 p2 g2 c2).good := fun h => k1 h.1
  rw [bB hg]
  have hV1 := fun M0 I0 => tZ (X := X) (w0 := w0) (M0 := M0) (I0 := I0) (neg := n1) (q := p1) (gs := g1) (c := c1) hf.l1
  rw [bB k1] at hV1
  refine aZ Tryz.func196 rfl Tryz.ntmps196 rfl ?_
  refine aG ?_
  refine aJ ?_
  (refine aR rfl rfl rfl ?_; intro b; refine ⟨okF, ?_⟩)
  repeat (refine aV ?_)
  (refine aA rfl (hV1 _ _ aB) rfl rfl ?_; rintro _ _ _ ⟨rfl, rfl, rfl⟩; refine ⟨okF, ?_⟩)
  repeat (refine aV ?_)
  refine aH (by first | exact .inl rfl | exact .inr rfl) rfl rfl _ _ aD aC (⟨rfl, rfl, rfl⟩)
theorem aIT {r : RW} (hl : r.g1.length ≤ 1000000000 ∧ r.g2.length ≤ 1000000000) (h : Hv I0 (isW r)) :
  CD Tryz.prog 67 [wv r] X w0 M0 I0 (fun v M I => M0 = M ∧ I0 = I ∧ v = .bool (B r.good)) := by
 refine aBO h (fun hf => ?_)
 obtain ⟨n1, p1, g1, c1, n2, p2, g2, c2⟩ := r
 simp only at hl
 by_cases k1 : qK n1 g1
 ·by_cases k2 : qK n2 g2
  ·obtain ⟨a1, a2⟩ := uK k1 hf.u1
   obtain ⟨b1, b2⟩ := uK k2 hf.u2
   have hg : (RW.mk n1 p1 g1 c1 n2 p2 g2 c2).good ↔ (0 < zI n2 g2 ∧ Int.gcd (zI n1 g1) (zI n2 g2) = 1) := ⟨fun h => h.2.2, fun h => ⟨k1, k2, h⟩⟩
   rw [gY hg]
   generalize zI n1 g1 = y at *
   generalize zI n2 g2 = z at *
   subst a1; subst a2; subst b1; subst b2
   refine uT (p := p1) (c := c1) (z := y) (k := 30000000000) (List.Mem.head _) hf.k1 (by omega) ?_
   refine uT (p := p2) (c := c2) (z := z) (k := 30000000000) (List.Mem.tail _ (List.Mem.tail _ (List.Mem.head _))) hf.k2 (by omega) ?_
   exact aGI (by omega) (List.Mem.tail _ (List.Mem.head _)) (List.Mem.head _)
  ·have hg : ¬ (RW.mk n1 p1 g1 c1 n2 p2 g2 c2).good := fun h => k2 h.2.1
   rw [bB hg]
   have hV1 := fun M0 I0 => qY (X := X) (w0 := w0) (M0 := M0) (I0 := I0) (neg := n1) (q := p1) (gs := g1) (c := c1) hf.l1
   have hV2 := fun M0 I0 => qY (X := X) (w0 := w0) (M0 := M0) (I0 := I0) (neg := n2) (q := p2) (gs := g2) (c := c2) hf.l2
   rw [bJ k1] at hV1
   rw [bB k2] at hV2
   refine aZ Tryz.func67 rfl Tryz.ntmps67 rfl ?_
   refine aG ?_
   refine aJ ?_
   (refine aR rfl rfl rfl ?_; intro b; refine ⟨okF, ?_⟩)
   repeat (refine aV ?_)
   (refine aA rfl (hV1 _ _ aB) rfl rfl ?_; rintro _ _ _ ⟨rfl, rfl, rfl⟩; refine ⟨okF, ?_⟩)
   repeat (refine aV ?_)
   (refine aA rfl (hV2 _ _ aB) rfl rfl ?_; rintro _ _ _ ⟨rfl, rfl, rfl⟩; refine ⟨okF, ?_⟩)
   repeat (refine aV ?_)
   refine aH (by first | exact .inl rfl | exact .inr rfl) rfl rfl _ _ aD aC (⟨rfl, rfl, rfl⟩)
 ·have hg : ¬ (RW.mk n1 p1 g1 c1 n2 p2 g2 c2).good := fun h => k1 h.1
  rw [bB hg]
  have hV1 := fun M0 I0 => qY (X := X) (w0 := w0) (M0 := M0) (I0 := I0) (neg := n1) (q := p1) (gs := g1) (c := c1) hf.l1
  rw [bB k1] at hV1
  refine aZ Tryz.func67 rfl Tryz.ntmps67 rfl ?_
  refine aG ?_
  refine aJ ?_
  (refine aR rfl rfl rfl ?_; intro b; refine ⟨okF, ?_⟩)
  repeat (refine aV ?_)
  (refine aA rfl (hV1 _ _ aB) rfl rfl ?_; rintro _ _ _ ⟨rfl, rfl, rfl⟩; refine ⟨okF, ?_⟩)
  repeat (refine aV ?_)
  refine aH (by first | exact .inl rfl | exact .inr rfl) rfl rfl _ _ aD aC (⟨rfl, rfl, rfl⟩)
end
end Go.Proofs.YtjbhdfpjnjedhaaGreat
namespace Go.Proofs.YtjbhdfpjnjedhaaGreat
open Go Go.Fx
structure RL where
 p : Option Addr
 c : Nat
 es : List RE
instance : Inhabited RL := ⟨⟨none, 0, []⟩⟩
abbrev eL (r : RL) : List Value := [.slice r.p r.es.length r.c]
abbrev lv (r : RL) : Value := .slice r.p r.es.length r.c
instance : Sized eL 1 := ⟨fun _ => rfl⟩
instance : Ones eL := ⟨fun m u hu => by simp only [eL, List.mem_cons, List.not_mem_nil, or_false] at hu; subst hu; rfl⟩
structure IsL (r : RL) (k : Nat) (X : List Nat) (w : World) : Prop where
 sl : Sl X w r.p (recs eR r.es)
 el : ∀ e ∈ r.es, IsR e k X w
 cap : Cap r.p r.es.length r.c
abbrev iZ (r : RL) (k : Nat) : aY := IsL r k
instance (r : RL) (k : Nat) : Fx.Good (IsL r k) := ⟨fun X Y w w' h he hY => ⟨Sl.carry h.sl he hY, fun e hm => Fx.Good.go (φ := IsR _ _) X Y w w' (h.el e hm) he hY, h.cap⟩⟩
abbrev RL.q (r : RL) : List Rat := qs r.es
structure MX where
 p : Option Addr
 c : Nat
 rows : List RL
instance : Inhabited MX := ⟨⟨none, 0, []⟩⟩
abbrev eMX (m : MX) : List Value := [.slice m.p m.rows.length m.c]
abbrev mv (m : MX) : Value := .slice m.p m.rows.length m.c
instance : Sized eMX 1 := ⟨fun _ => rfl⟩
instance : Ones eMX := ⟨fun m u hu => by simp only [eMX, List.mem_cons, List.not_mem_nil, or_false] at hu; subst hu; rfl⟩
structure IsX (m : MX) (k : Nat) (X : List Nat) (w : World) : Prop where
 sl : Sl X w m.p (recs eL m.rows)
 row : ∀ r ∈ m.rows, IsL r k X w
 cap : Cap m.p m.rows.length m.c
abbrev jF (m : MX) (k : Nat) : aY := IsX m k
instance (m : MX) (k : Nat) : Fx.Good (IsX m k) := ⟨fun X Y w w' h he hY => ⟨Sl.carry h.sl he hY, fun e hm => Fx.Good.go (φ := IsL _ _) X Y w w' (h.row e hm) he hY, h.cap⟩⟩
abbrev MX.q (m : MX) : Mt := m.rows.map RL.q
def MX.dim (m : MX) (R C : Nat) : Prop := m.rows.length = R ∧ ∀ r ∈ m.rows, r.es.length = C
theorem MX.dim.row {m : MX} {R C : Nat} (h : m.dim R C) {i : Nat} (hi : i < R) : (gt m.rows (i : Int)).es.length = C := h.2 _ (dF ⟨by omega, by have := h.1; omega⟩)
/- what follows from the facts -/
theorem Hv.xsl {I : List aY} {m : MX} {k : Nat} (h : jF m k ∈ I) : Hv I (aO m.p (recs eL m.rows)) := ⟨fun X w hw => ⟨(hw _ h : IsX m k X w).sl⟩⟩
theorem Hv.xrow {I : List aY} {m : MX} {k : Nat} {i : Int} (h : jF m k ∈ I) (hi : 0 ≤ i ∧ i < m.rows.length) : Hv I (iZ (gt m.rows i) k) := ⟨fun X w hw => (hw _ h : IsX m k X w).row _ (dF hi)⟩
theorem Hv.xrsl {I : List aY} {m : MX} {k : Nat} {i : Int} (h : jF m k ∈ I) (hi : 0 ≤ i ∧ i < m.rows.length) : Hv I (aO (gt m.rows i).p (recs eR (gt m.rows i).es)) := ⟨fun X w hw => ⟨((hw _ h : IsX m k X w).row _ (dF hi)).sl⟩⟩
theorem Hv.xel {I : List aY} {m : MX} {k : Nat} {i j : Int} (h : jF m k ∈ I) (hi : 0 ≤ i ∧ i < m.rows.length) (hj : 0 ≤ j ∧ j < (gt m.rows i).es.length) : Hv I (bS (gt (gt m.rows i).es j) k) := ⟨fun X w hw => ((hw _ h : IsX m k X w).row _ (dF hi)).el _ (dF hj)⟩
theorem Hv.lsl {I : List aY} {r : RL} {k : Nat} (h : iZ r k ∈ I) : Hv I (aO r.p (recs eR r.es)) := ⟨fun X w hw => ⟨(hw _ h : IsL r k X w).sl⟩⟩
theorem Hv.lel {I : List aY} {r : RL} {k : Nat} {j : Int} (h : iZ r k ∈ I) (hj : 0 ≤ j ∧ j < r.es.length) : Hv I (bS (gt r.es j) k) := ⟨fun X w hw => (hw _ h : IsL r k X w).el _ (dF hj)⟩
theorem IsL.mono {r : RL} {k m : Nat} {X : List Nat} {w : World} (h : IsL r k X w) (hk : k ≤ m) : IsL r m X w := ⟨h.sl, fun e he => (h.el e he).mono hk, h.cap⟩
theorem IsX.mono {x : MX} {k m : Nat} {X : List Nat} {w : World} (h : IsX x k X w) (hk : k ≤ m) : IsX x m X w := ⟨h.sl, fun e he => (h.row e he).mono hk, h.cap⟩
theorem Hv.lm {I : List aY} {r : RL} {k m : Nat} (h : iZ r k ∈ I) (hk : k ≤ m) : Hv I (iZ r m) := ⟨fun X w hw => IsL.mono (hw _ h) hk⟩
theorem Hv.xm {I : List aY} {r : MX} {k m : Nat} (h : jF r k ∈ I) (hk : k ≤ m) : Hv I (jF r m) := ⟨fun X w hw => IsX.mono (hw _ h) hk⟩
/- the posts -/
def XQ (A : Mt) (R C k : Nat) (M0 : List Ent) (I0 : List aY) (v : Value) (M : List Ent) (I : List aY) : Prop := M0 = M ∧ ∃ m : MX, v = mv m ∧ m.q = A ∧ m.dim R C ∧ I = jF m k :: I0
def XQc (A : Mt) (R C k : Nat) (M0 : List Ent) (I0 : List aY) (v : Value) (M : List Ent) (I : List aY) : Prop := M0 = M ∧ ∃ m : MX, v = .tuple #[mv m, .int .i64 0] ∧ m.q = A ∧ m.dim R C ∧ I = jF m k :: I0
def LQ (l : List Rat) (k : Nat) (M0 : List Ent) (I0 : List aY) (v : Value) (M : List Ent) (I : List aY) : Prop := M0 = M ∧ ∃ r : RL, v = lv r ∧ r.q = l ∧ I = iZ r k :: I0
def LQc (l : List Rat) (k : Nat) (M0 : List Ent) (I0 : List aY) (v : Value) (M : List Ent) (I : List aY) : Prop := M0 = M ∧ ∃ r : RL, v = .tuple #[lv r, .int .i64 0] ∧ r.q = l ∧ I = iZ r k :: I0
def xW (R C : Nat) (F : Nat → Nat → Rat) : Mt := (List.range R).map (fun i => (List.range C).map (F i))
theorem tQ {R C : Nat} {F : Nat → Nat → Rat} {i j : Nat} (hi : i < R) (hj : j < C) : at2 (xW R C F) i j = F i j := by
 unfold at2 rowAt xW
 simp [List.getD, hi, hj]
theorem aDN {R C : Nat} {F G : Nat → Nat → Rat} (h : ∀ i j, i < R → j < C → F i j = G i j) : xW R C F = xW R C G := by
 unfold xW
 apply List.map_congr_left
 intro i hi
 apply List.map_congr_left
 intro j hj
 exact h i j (List.mem_range.1 hi) (List.mem_range.1 hj)
theorem rF {m : MX} {i j : Nat} (hi : i < m.rows.length) (hj : j < (gt m.rows (i : Int)).es.length) : at2 m.q i j = (gt (gt m.rows (i : Int)).es (j : Int)).q := by
 rw [fB hi] at hj
 unfold at2 rowAt
 rw [fB hi, fB hj]
 simp [List.getD, hi, hj]
theorem MX.dim.mk {m : MX} {R C : Nat} (h : m.dim R C) : m.q = xW R C (at2 m.q) := by
 apply List.ext_getElem
 ·simp [xW, h.1]
 ·intro i h1 h2
  have hi : i < m.rows.length := by simpa using h1
  have hc := h.2 _ (List.getElem_mem hi)
  apply List.ext_getElem
  ·simp [xW, hc]
  ·intro j h3 h4
   have hj : j < (m.rows[i]).es.length := by simpa using h3
   simp only [xW, List.getElem_map, List.getElem_range]
   rw [rF hi (by rw [fB hi]; exact hj), fB hi, fB hj]
/- a matrix made is a matrix that is read -/
def MR.l (r : MR) : RL := ⟨some ⟨r.b, 0, none⟩, r.es.length, r.es⟩
theorem yN {X : List Nat} {w0 w : World} {k : Nat} : ∀ {rows : List MR} {M : List Ent} {I : List aY}, Mem X w0 (rows.map fM ++ M) I w → (∀ r ∈ rows, AllR r.es k (muts (rows.map fM ++ M)) w) → ∃ I', (∀ φ ∈ I, φ ∈ I') ∧ (∀ r ∈ rows, iZ r.l k ∈ I') ∧ Mem X w0 M I' w
 | [], M, I, h, _ => ⟨I, fun _ h => h, fun r hr => by simp at hr, h⟩
 | r :: rows, M, I, h, ha => by
  have h1 : Mem X w0 (rows.map fM ++ M) (aO (some ⟨r.b, 0, none⟩) (recs eR r.es) :: I) w := h.freezeB .here
  have hsub : ∀ y ∈ muts (rows.map fM ++ M), y ∈ muts ((r :: rows).map fM ++ M) := fun y hy => by simp [muts] at hy ⊢; right; exact hy
  have h2 : IsL r.l k (muts (rows.map fM ++ M)) w := by
   refine ⟨(h1.sl (List.Mem.head _)), fun e he => ?_, Nat.le_refl _, .inl (Ok.mk _ _)⟩
   exact Fx.Good.go (φ := IsR _ _) _ _ w w ((ha r (List.Mem.head _)).go e he) (Ext.refl _ _) (fun y hy => .inl (hsub y hy))
  obtain ⟨I', i1, i2, i3⟩ := yN (h1.add (φ := iZ r.l k) h2) (fun s hs => ⟨fun e he => Fx.Good.go (φ := IsR _ _) _ _ w w ((ha s (List.Mem.tail _ hs)).go e he) (Ext.refl _ _) (fun y hy => .inl (hsub y hy))⟩)
  refine ⟨I', fun φ hφ => i1 φ (List.Mem.tail _ (List.Mem.tail _ hφ)), fun s hs => ?_, i3⟩
  rcases List.mem_cons.1 hs with rfl | hs
  ·exact i1 _ (List.Mem.head _)
  ·exact i2 s hs
def MR.x (bo : Nat) (rows : List MR) : MX := ⟨some ⟨bo, 0, none⟩, rows.length, rows.map MR.l⟩
theorem aWS (rows : List MR) : recs eL (rows.map MR.l) = recs eM rows := by
 induction rows with
 | nil => rfl
 | cons x r ih =>
  have h1 : recs eL ((x :: r).map MR.l) = eL x.l ++ recs eL (r.map MR.l) := rfl
  have h2 : recs eM (x :: r) = eM x ++ recs eM r := rfl
  rw [h1, h2, ih]
  rfl
theorem q_x (bo : Nat) (rows : List MR) : (MR.x bo rows).q = mq rows := by
 unfold MR.x
 simp [MX.q, MR.l, Function.comp_def]
theorem aJS {X : List Nat} {w0 w : World} {k bo : Nat} {rows : List MR} {M : List Ent} {I : List aY} (h : Mem X w0 (.blk bo (recs eM rows) 53 :: (rows.map fM ++ M)) I w) (ha : allM rows k ∈ I) : Mem X w0 M (jF (MR.x bo rows) k :: I) w := by
 have h0 : Mem X w0 (rows.map fM ++ M) (aO (some ⟨bo, 0, none⟩) (recs eM rows) :: I) w := h.freezeB .here
 obtain ⟨I', i1, i2, i3⟩ := yN (k := k) h0 (fun r hr => ⟨fun e he => ((h0.imm _ (List.Mem.tail _ ha)).2 : AllM rows k _ w).go r hr e he⟩)
 have h3 : IsX (MR.x bo rows) k (muts M) w := by
  refine ⟨?_, fun r hr => ?_, ?_⟩
  ·rw [show (MR.x bo rows).rows = rows.map MR.l from rfl, aWS]; exact i3.sl (i1 _ (List.Mem.head _))
  ·obtain ⟨s, hs, rfl⟩ := List.mem_map.1 hr
   exact (i3.imm _ (i2 s hs)).2
  ·show Cap (some ⟨bo, 0, none⟩) (rows.map MR.l).length rows.length
   rw [List.length_map]; exact ⟨Nat.le_refl _, .inl (Ok.mk _ _)⟩
 exact (i3.add (φ := jF (MR.x bo rows) k) h3).inc (.of fun φ hφ => by
  rcases List.mem_cons.1 hφ with rfl | hφ
  ·exact List.Mem.head _
  ·exact List.Mem.tail _ (i1 _ (List.Mem.tail _ hφ)))
section
variable {X : List Nat} {w0 : World} {M0 : List Ent} {I0 : List aY}
theorem aGP {g : FuncId} [FnOk Tryz.prog g] {fs cs : Array Value} {R C k0 : Nat} (hR : R ≤ 100) (hC : C ≤ 200) (F : Nat → Nat → Rat)
  (hg : ∀ M I, (∀ φ ∈ I0, φ ∈ I) → ∀ i j : Nat, i < R → j < C → CD Tryz.prog g (fs.toList ++ [.int .i64 (i : Int), .int .i64 (j : Int)] ++ cs.toList) X w0 M I (RQ (F i j) k0 M I)) :
  CD Tryz.prog 175 [.int .i64 (R : Int), .int .i64 (C : Int), .func (.func g) fs cs] X w0 M0 I0 (XQ (xW R C F) R C k0 M0 I0) := by
 refine CD.post (aBH hR hC F hg) (fun v M I w h hw => ?_)
 obtain ⟨bo, rows, rfl, hl, hc, hF, rfl, rfl⟩ := h
 refine ⟨M0, jF (MR.x bo rows) k0 :: I0, ⟨rfl, MR.x bo rows, ?_, ?_, ⟨by simp [MR.x, hl], fun r hr => ?_⟩, rfl⟩, (aJS hw (List.Mem.head _)).inc (.of fun φ hφ => by
  rcases List.mem_cons.1 hφ with rfl | hφ
  ·exact List.Mem.head _
  ·exact List.Mem.tail _ (List.Mem.tail _ hφ))⟩
 ·have e : (MR.x bo rows).rows.length = R := by show (rows.map MR.l).length = R; rw [List.length_map, hl]
  have e2 : (MR.x bo rows).c = R := hl
  show _ = Value.slice (MR.x bo rows).p (MR.x bo rows).rows.length (MR.x bo rows).c
  rw [e, e2]; rfl
 ·rw [q_x]; exact hF
 ·obtain ⟨s, hs, rfl⟩ := List.mem_map.1 hr
  exact hc s hs
end
end Go.Proofs.YtjbhdfpjnjedhaaGreat
namespace Go.Proofs.YtjbhdfpjnjedhaaGreat
open Go Go.Fx
structure WL where
 p : Option Addr
 c : Nat
 es : List RW
instance : Inhabited WL := ⟨⟨none, 0, []⟩⟩
abbrev eWL (r : WL) : List Value := [.slice r.p r.es.length r.c]
abbrev lvW (r : WL) : Value := .slice r.p r.es.length r.c
instance : Sized eWL 1 := ⟨fun _ => rfl⟩
instance : Ones eWL := ⟨fun m u hu => by simp only [eWL, List.mem_cons, List.not_mem_nil, or_false] at hu; subst hu; rfl⟩
structure IsWL (r : WL) (X : List Nat) (w : World) : Prop where
 sl : Sl X w r.p (recs eW r.es)
 el : ∀ e ∈ r.es, IsW e X w
 cap : Cap r.p r.es.length r.c
abbrev uX (r : WL) : aY := IsWL r
instance (r : WL) : Fx.Good (IsWL r) := ⟨fun X Y w w' h he hY => ⟨Sl.carry h.sl he hY, fun e hm => Fx.Good.go (φ := IsW _) X Y w w' (h.el e hm) he hY, h.cap⟩⟩
structure WM where
 p : Option Addr
 c : Nat
 rows : List WL
instance : Inhabited WM := ⟨⟨none, 0, []⟩⟩
abbrev eWM (m : WM) : List Value := [.slice m.p m.rows.length m.c]
abbrev mvW (m : WM) : Value := .slice m.p m.rows.length m.c
instance : Sized eWM 1 := ⟨fun _ => rfl⟩
instance : Ones eWM := ⟨fun m u hu => by simp only [eWM, List.mem_cons, List.not_mem_nil, or_false] at hu; subst hu; rfl⟩
structure IsWM (m : WM) (X : List Nat) (w : World) : Prop where
 sl : Sl X w m.p (recs eWL m.rows)
 row : ∀ r ∈ m.rows, IsWL r X w
 cap : Cap m.p m.rows.length m.c
abbrev wR (m : WM) : aY := IsWM m
instance (m : WM) : Fx.Good (IsWM m) := ⟨fun X Y w w' h he hY => ⟨Sl.carry h.sl he hY, fun e hm => Fx.Good.go (φ := IsWL _) X Y w w' (h.row e hm) he hY, h.cap⟩⟩
structure AllWM (ms : List WM) (X : List Nat) (w : World) : Prop where
 go : ∀ m ∈ ms, IsWM m X w
abbrev allWM (ms : List WM) : aY := AllWM ms
instance (ms : List WM) : Fx.Good (AllWM ms) := ⟨fun X Y w w' h he hY => ⟨fun m hm => Fx.Good.go (φ := IsWM _) X Y w w' (h.go m hm) he hY⟩⟩
theorem Hv.wlsl {I : List aY} {r : WL} (h : uX r ∈ I) : Hv I (aO r.p (recs eW r.es)) := ⟨fun X w hw => ⟨(hw _ h : IsWL r X w).sl⟩⟩
theorem Hv.wlel {I : List aY} {r : WL} {j : Int} (h : uX r ∈ I) (hj : 0 ≤ j ∧ j < r.es.length) : Hv I (isW (gt r.es j)) := ⟨fun X w hw => (hw _ h : IsWL r X w).el _ (dF hj)⟩
theorem Hv.wmsl {I : List aY} {m : WM} (h : wR m ∈ I) : Hv I (aO m.p (recs eWL m.rows)) := ⟨fun X w hw => ⟨(hw _ h : IsWM m X w).sl⟩⟩
theorem Hv.wmrow {I : List aY} {m : WM} {i : Int} (h : wR m ∈ I) (hi : 0 ≤ i ∧ i < m.rows.length) : Hv I (uX (gt m.rows i)) := ⟨fun X w hw => (hw _ h : IsWM m X w).row _ (dF hi)⟩
/- short numbers, canonical ones, matrices -/
def RW.brief (r : RW) : Prop := r.g1.length ≤ 1 ∧ r.g2.length ≤ 1 ∧ (r.g1.length = 0 ∨ gt r.g1 0 < 100000) ∧ (r.g2.length = 0 ∨ gt r.g2 0 ≤ 100)
instance (r : RW) : Decidable r.brief := by unfold RW.brief; exact inferInstance
def RW.sml (r : RW) : Prop := r.g1.length ≤ 1000000000 ∧ r.g2.length ≤ 1000000000
def WL.sht (r : WL) : Prop := r.es.length ≤ 6 ∧ ∀ e ∈ r.es, e.brief
instance (r : WL) : Decidable r.sht := by unfold WL.sht; exact inferInstance
def WL.sml (r : WL) : Prop := r.es.length ≤ 1000000000 ∧ ∀ e ∈ r.es, e.sml
def WL.good (r : WL) : Prop := ∀ e ∈ r.es, e.good
instance (r : WL) : Decidable r.good := by unfold WL.good; exact inferInstance
def WM.sht (m : WM) : Prop := m.rows.length ≤ 6 ∧ ∀ r ∈ m.rows, r.sht
instance (m : WM) : Decidable m.sht := by unfold WM.sht; exact inferInstance
def WM.sml (m : WM) : Prop := m.rows.length ≤ 1000000000 ∧ ∀ r ∈ m.rows, r.sml
def WM.ok (m : WM) : Prop := (1 ≤ m.rows.length ∧ m.rows.length ≤ 64 ∧ 1 ≤ (gt m.rows 0).es.length ∧ (gt m.rows 0).es.length ≤ 64) ∧ ∀ r ∈ m.rows, r.es.length = (gt m.rows 0).es.length ∧ r.good
instance (m : WM) : Decidable m.ok := by unfold WM.ok; exact inferInstance
theorem RW.brief.sml {r : RW} (h : r.brief) : r.sml := ⟨by have := h.1; omega, by have := h.2.1; omega⟩
/- of canonical numbers -/
def RL.raw (r : RL) : WL := ⟨r.p, r.c, r.es.map RE.raw⟩
def MX.raw (m : MX) : WM := ⟨m.p, m.c, m.rows.map RL.raw⟩
theorem aFX (es : List RE) : recs eW (es.map RE.raw) = recs eR es := by
 induction es with
 | nil => rfl
 | cons x r ih =>
  have h1 : recs eW ((x :: r).map RE.raw) = eW x.raw ++ recs eW (r.map RE.raw) := rfl
  have h2 : recs eR (x :: r) = eR x ++ recs eR r := rfl
  rw [h1, h2, ih]; rfl
theorem aMJ (rows : List RL) : recs eWL (rows.map RL.raw) = recs eL rows := by
 induction rows with
 | nil => rfl
 | cons x r ih =>
  have h1 : recs eWL ((x :: r).map RL.raw) = eWL x.raw ++ recs eWL (r.map RL.raw) := rfl
  have h2 : recs eL (x :: r) = eL x ++ recs eL r := rfl
  rw [h1, h2, ih]
  show [Value.slice x.p (x.es.map RE.raw).length x.c] ++ _ = [Value.slice x.p x.es.length x.c] ++ _
  rw [List.length_map]
theorem aWI (r : RL) : lvW r.raw = lv r := by show Value.slice r.p (r.es.map RE.raw).length r.c = _; rw [List.length_map]
theorem aEE (m : MX) : mvW m.raw = mv m := by show Value.slice m.p (m.rows.map RL.raw).length m.c = _; rw [List.length_map]
theorem RL.raw_good (r : RL) : r.raw.good := fun e he => by
 obtain ⟨x, _, rfl⟩ := List.mem_map.1 he
 exact x.raw_good
theorem IsL.raw {r : RL} {k : Nat} {X : List Nat} {w : World} (hk : k ≤ 1000000000000) (h : IsL r k X w) : IsWL r.raw X w :=
 ⟨by show Sl X w r.p (recs eW (r.es.map RE.raw)); rw [aFX]; exact h.sl, fun e he => by obtain ⟨x, hx, rfl⟩ := List.mem_map.1 he; exact RE.fit hk (h.el x hx), by show Cap r.p (r.es.map RE.raw).length r.c; rw [List.length_map]; exact h.cap⟩
theorem IsX.raw {m : MX} {k : Nat} {X : List Nat} {w : World} (hk : k ≤ 1000000000000) (h : IsX m k X w) : IsWM m.raw X w :=
 ⟨by show Sl X w m.p (recs eWL (m.rows.map RL.raw)); rw [aMJ]; exact h.sl, fun e he => by obtain ⟨x, hx, rfl⟩ := List.mem_map.1 he; exact IsL.raw hk (h.row x hx), by show Cap m.p (m.rows.map RL.raw).length m.c; rw [List.length_map]; exact h.cap⟩
theorem IsR.sml {e : RE} {k : Nat} {X : List Nat} {w : World} (hk : k ≤ 20000000000) (h : IsR e k X w) : e.raw.sml := by
 have a := eY (IsI.le h.num)
 have b := eY (IsI.le h.den)
 constructor
 ·show (gr e.q.num.natAbs).length ≤ _; omega
 ·show (gr (e.q.den : Int).natAbs).length ≤ _; omega
theorem Hv.lraw {I : List aY} {r : RL} {k : Nat} (h : iZ r k ∈ I) (hk : k ≤ 20000000000) : Hv I (uX r.raw) := ⟨fun X w hw => IsL.raw (by omega) (hw _ h)⟩
theorem Hv.xraw {I : List aY} {m : MX} {k : Nat} (h : jF m k ∈ I) (hk : k ≤ 20000000000) : Hv I (wR m.raw) := ⟨fun X w hw => IsX.raw (by omega) (hw _ h)⟩
theorem WL.good_raw {r : WL} (hf : ∀ e ∈ r.es, e.Fit) (h : r.good) : ∃ l : RL, r = l.raw := by
 obtain ⟨p, c, es⟩ := r
 have : ∃ xs : List RE, es = xs.map RE.raw := by
  have hf' : ∀ e ∈ es, e.Fit := hf
  have h' : ∀ e ∈ es, e.good := h
  clear h hf
  induction es with
  | nil => exact ⟨[], rfl⟩
  | cons x es ih =>
   obtain ⟨xs, rfl⟩ := ih (fun e he => hf' e (List.Mem.tail _ he)) (fun e he => h' e (List.Mem.tail _ he))
   obtain ⟨e, rfl⟩ := RW.good_raw (hf' x (List.Mem.head _)) (h' x (List.Mem.head _))
   exact ⟨e :: xs, rfl⟩
 obtain ⟨xs, rfl⟩ := this
 exact ⟨⟨p, c, xs⟩, rfl⟩
theorem aMW {e : RE} (h : e.raw.brief) {X : List Nat} {w : World} (hw : IsW e.raw X w) : IsR e 30 X w := by
 refine RE.isR_raw hw ?_ ?_
 ·have := h.1; omega
 ·have := h.2.1; omega
theorem aTC {r : RL} (h : r.raw.sht) {X : List Nat} {w : World} (hw : IsWL r.raw X w) : IsL r 30 X w := by
 refine ⟨?_, fun e he => ?_, ?_⟩
 ·have := hw.sl; rw [show r.raw.es = r.es.map RE.raw from rfl, aFX] at this; exact this
 ·have hm : e.raw ∈ r.raw.es := List.mem_map.2 ⟨e, he, rfl⟩
  exact aMW (h.2 _ hm) (hw.el _ hm)
 ·have := hw.cap; rw [show r.raw.es = r.es.map RE.raw from rfl, List.length_map] at this; exact this
theorem aFI {α β : Type} [Inhabited α] [Inhabited β] {l : List α} {f : α → β} {i : Int} (h : 0 ≤ i ∧ i < l.length) : gt (l.map f) i = f (gt l i) := by
 obtain ⟨n, rfl⟩ : ∃ n : Nat, i = n := ⟨i.toNat, by omega⟩
 rw [fB (by simpa using h.2), fB (by omega)]
 simp
theorem aWU {m : MX} {R C : Nat} (h : m.dim R C) (hR : 1 ≤ R ∧ R ≤ 64) (hC : 1 ≤ C ∧ C ≤ 64) : m.raw.ok := by
 have e : m.raw.rows = m.rows.map RL.raw := rfl
 have h0 := h.1
 have hl : ∀ r ∈ m.rows, r.raw.es.length = C := fun r hr => by rw [show r.raw.es = r.es.map RE.raw from rfl, List.length_map]; exact h.2 r hr
 unfold WM.ok
 rw [e, List.length_map, aFI (by omega), hl _ (dF (by omega))]
 refine ⟨by omega, fun r hr => ?_⟩
 obtain ⟨s, hs, rfl⟩ := List.mem_map.1 hr
 exact ⟨hl s hs, s.raw_good⟩
end Go.Proofs.YtjbhdfpjnjedhaaGreat
