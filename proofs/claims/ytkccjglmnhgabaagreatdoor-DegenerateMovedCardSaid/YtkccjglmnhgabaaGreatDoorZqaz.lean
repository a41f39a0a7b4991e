/- Fractions as they come in: whatever bits, canonical or not. Matrices and lists of fractions that are only read: facts about memory; matrices as they come in. Matrices as they come in; which numbers are brief. matrix.Check and its like, of matrices as they come in. -/
import Derived.Test.YtkccjglmnhgabaaGreatDoorZqax
import Derived.Test.YtkccjglmnhgabaaGreatDoorZqar
import Derived.Test.YtkccjglmnhgabaaGreatDoorZqay
import Derived.Test.YtkccjglmnhgabaaGreatDoorZqal
import Derived.Test.YtkccjglmnhgabaaGreatDoorZqam
set_option linter.unusedSimpArgs false
set_option linter.unusedVariables false
set_option maxRecDepth 100000
set_option maxHeartbeats 4000000
namespace Go.Proofs.YtkccjglmnhgabaaGreatDoor
open Go Go.Fx
structure RW where
 n1 : Bool
 p1 : Option Addr
 g1 : List Int
 c1 : Nat
 n2 : Bool
 p2 : Option Addr
 g2 : List Int
 c2 : Nat
instance : Inhabited RW := ⟨⟨false, none, [], 0, false, none, [], 0⟩⟩
abbrev eW (r : RW) : List Value := [.bool r.n1, .slice r.p1 r.g1.length r.c1, .bool r.n2, .slice r.p2 r.g2.length r.c2]
abbrev wv (r : RW) : Value := .agg #[.bool r.n1, .slice r.p1 r.g1.length r.c1, .bool r.n2, .slice r.p2 r.g2.length r.c2]
instance : Sized eW 4 := ⟨fun _ => rfl⟩
instance : Ones eW := ⟨fun m u hu => by
 simp only [eW, List.mem_cons, List.not_mem_nil, or_false] at hu
 rcases hu with rfl | rfl | rfl | rfl <;> rfl⟩
abbrev Cap (p : Option Addr) (n c : Nat) : Prop := n ≤ c ∧ (Ok p ∨ (n = 0 ∧ c = 0))
structure RW.Fit (r : RW) : Prop where
 u1 : ∀ x ∈ r.g1, 0 ≤ x
 u2 : ∀ x ∈ r.g2, 0 ≤ x
 l1 : (r.g1.length : Int) ≤ 9223372036854775807
 l2 : (r.g2.length : Int) ≤ 9223372036854775807
 k1 : Cap r.p1 r.g1.length r.c1
 k2 : Cap r.p2 r.g2.length r.c2
structure IsW (r : RW) (X : List Nat) (w : World) : Prop where
 fit : r.Fit
 s1 : Sl X w r.p1 (recs eG r.g1)
 s2 : Sl X w r.p2 (recs eG r.g2)
abbrev isW (r : RW) : bB := IsW r
instance (r : RW) : Fx.Good (IsW r) := ⟨fun X Y w w' h he hY => ⟨h.fit, Sl.carry h.s1 he hY, Sl.carry h.s2 he hY⟩⟩
def zI (n : Bool) (g : List Int) : Int := if n = true then -val g else val g
theorem aKB {n : Bool} {g : List Int} (h : sJ n g) (hu : ∀ x ∈ g, 0 ≤ x) : B (zI n g < 0) = n ∧ gr (zI n g).natAbs = g := by
 rcases h with ⟨rfl, rfl⟩ | ⟨h1, h2, h3⟩
 ·exact ⟨dF (by simp [zI, val]), by simp [zI, val, iC]⟩
 ·have hd : Dig g := fun x hx => ⟨hu x hx, by
   have : ¬ 1000000000 ≤ x := fun e => h3 ⟨x, hx, e⟩
   omega⟩
  have hc : Can g := ⟨hd, h2⟩
  have hp : 0 < g.length := by cases g with | nil => exact absurd rfl h1 | cons a l => simp
  have hv := yG hc hp
  have hpp := jI (g.length - 1)
  have ha : (zI n g).natAbs = (val g).toNat := by unfold zI; split <;> omega
  refine ⟨?_, by rw [ha]; exact (aUK hc).symm⟩
  cases n with
  | true => exact dZ (by simp only [zI, if_pos]; omega)
  | false => exact dF (by simp only [zI]; rw [if_neg (by decide)]; omega)
theorem aEB (z : Int) : zI (B (z < 0)) (gr z.natAbs) = z := by
 unfold zI
 rw [dG, pK]
 by_cases h : z < 0
 ·rw [if_pos (by simpa using h)]; omega
 ·rw [if_neg (by simpa using h)]; omega
theorem aSI (n : Nat) : (1000000000 : Nat) ^ n ≤ 2 ^ (30 * n) := by
 rw [Nat.pow_mul]
 exact Nat.pow_le_pow_left (by decide) n
theorem aRX {z : Int} : z.natAbs ≤ 2 ^ (30 * (gr z.natAbs).length) := by
 have h1 := jV (cO z.natAbs)
 rw [dG] at h1
 have h2 := aSI (gr z.natAbs).length
 have h3 : ((1000000000 ^ (gr z.natAbs).length : Nat) : Int) = (1000000000 : Int) ^ (gr z.natAbs).length := by rw [Int.natCast_pow]; rfl
 omega
def RW.good (r : RW) : Prop := sJ r.n1 r.g1 ∧ sJ r.n2 r.g2 ∧ 0 < zI r.n2 r.g2 ∧ Int.gcd (zI r.n1 r.g1) (zI r.n2 r.g2) = 1
instance (r : RW) : Decidable r.good := by unfold RW.good; exact inferInstance
def RE.raw (e : RE) : RW := ⟨B (e.q.num < 0), e.p1, gr e.q.num.natAbs, e.c1, B ((e.q.den : Int) < 0), e.p2, gr (e.q.den : Int).natAbs, e.c2⟩
theorem RE.raw_good (e : RE) : e.raw.good := by
 refine ⟨xJ _, xJ _, ?_, ?_⟩
 ·show 0 < zI (B ((e.q.den : Int) < 0)) (gr (e.q.den : Int).natAbs)
  rw [aEB]; have := e.q.den_nz; omega
 ·show Int.gcd (zI (B (e.q.num < 0)) (gr e.q.num.natAbs)) (zI (B ((e.q.den : Int) < 0)) (gr (e.q.den : Int).natAbs)) = 1
  rw [aEB, aEB]
  exact e.q.reduced
theorem RE.fit {e : RE} {k : Nat} {X : List Nat} {w : World} (hk : k ≤ 1000000000000) (h : IsR e k X w) : IsW e.raw X w := by
 obtain ⟨q, c, h1, h2, h3, h4⟩ := h.num.ex
 obtain ⟨q', c', i1, i2, i3, i4⟩ := h.den.ex
 simp only [iv, Value.agg.injEq, Array.mk.injEq, List.cons.injEq, Value.slice.injEq, and_true, true_and] at h1 i1
 obtain ⟨rfl, rfl⟩ := h1
 obtain ⟨rfl, rfl⟩ := i1
 have a1 := gV h3 hk
 have a2 := gV i3 hk
 exact ⟨⟨fun x hx => (cO _ x hx).1, fun x hx => (cO _ x hx).1, by show ((gr e.q.num.natAbs).length : Int) ≤ _; omega, by show ((gr (e.q.den : Int).natAbs).length : Int) ≤ _; omega, h2, i2⟩, h4, i4⟩
section
variable {X : List Nat} {w0 : World} {M0 : List Ent} {I0 : List bB}
theorem aOE {P : Program} {f : FuncId} {vs : List Value} {K : Value → Prop} {r : RW} (h : Hv I0 (isW r)) (c : r.Fit → CD P f vs X w0 M0 (aW r.p1 (recs eG r.g1) :: aW r.p2 (recs eG r.g2) :: I0) (fun v M I => M0 = M ∧ aW r.p1 (recs eG r.g1) :: aW r.p2 (recs eG r.g2) :: I0 = I ∧ K v)) :
  CD P f vs X w0 M0 I0 (fun v M I => M0 = M ∧ I0 = I ∧ K v) := ⟨fun w hw => by
 have hr : IsW r (muts M0) w := h.go _ _ (fun ψ hm => (hw.imm ψ hm).2)
 have hw' := (hw.add (φ := aW r.p2 (recs eG r.g2)) ⟨hr.s2⟩).add (φ := aW r.p1 (recs eG r.g1)) ⟨hr.s1⟩
 refine ((c hr.fit).go w hw').mono (fun _ _ h => ?_)
 obtain ⟨_, _, ⟨rfl, rfl, h3⟩, hm⟩ := h
 exact ⟨_, _, ⟨rfl, rfl, h3⟩, hm.inc (Inc.wk (Inc.wk Inc.refl))⟩⟩
theorem aCP {P : Program} {f : FuncId} {vs : List Value} {K : Value → Prop} {p : Option Addr} {c k : Nat} {z : Int} (hs : aW p (recs eG (gr z.natAbs)) ∈ I0) (hc : Cap p (gr z.natAbs).length c) (hk : 30 * (gr z.natAbs).length ≤ k) (h : CD P f vs X w0 M0 (iK (vI p c z) z k :: I0) (fun v M I => M0 = M ∧ iK (vI p c z) z k :: I0 = I ∧ K v)) :
  CD P f vs X w0 M0 I0 (fun v M I => M0 = M ∧ I0 = I ∧ K v) := ⟨fun w hw => by
 have hw' := aDL hw hs hc (Nat.le_trans aRX (Nat.pow_le_pow_right (by decide) hk))
 refine (h.go w hw').mono (fun _ _ h => ?_)
 obtain ⟨_, _, ⟨rfl, rfl, h3⟩, hm⟩ := h
 exact ⟨_, _, ⟨rfl, rfl, h3⟩, hm.inc (Inc.wk Inc.refl)⟩⟩
theorem aRK (n : Nat) : (gQ (n : Int) 1 = 0) ↔ n = 1 := by
 unfold gQ
 split
 ·omega
 ·split <;> omega
theorem aIQ {p1 p2 : Option Addr} {c1 c2 k : Nat} {y z : Int} (hk : k ≤ 500000000000) (h1 : iK (vI p1 c1 y) y k ∈ I0) (h2 : iK (vI p2 c2 z) z k ∈ I0) :
  CD Tryz.prog 43 [.agg #[.bool (B (y < 0)), .slice p1 (gr y.natAbs).length c1, .bool (B (z < 0)), .slice p2 (gr z.natAbs).length c2]] X w0 M0 I0 (fun v M I => M0 = M ∧ I0 = I ∧ v = .bool (B (0 < z ∧ Int.gcd y z = 1))) := by
 have hV1 := fun M0 I0 h => uL (X := X) (w0 := w0) (M0 := M0) (I0 := I0) (u := vI p1 c1 y) (z := y) (k := k) (by omega) h
 have hV2 := fun M0 I0 h => uL (X := X) (w0 := w0) (M0 := M0) (I0 := I0) (u := vI p2 c2 z) (z := z) (k := k) (by omega) h
 have hS := fun M0 I0 => rY (X := X) (w0 := w0) (M0 := M0) (I0 := I0) (u := vI p2 c2 z) (z := z) (k := k) (by omega)
 have hs : z.sign ≤ 0 ↔ ¬ 0 < z := by rw [← Int.sign_pos_iff]; omega
 have hG := fun M0 I0 => aHJ (X := X) (w0 := w0) (M0 := M0) (I0 := I0) (u := vI p1 c1 y) (v := vI p2 c2 z) (y := y) (z := z) (k0 := k) (m := k) (by omega) (by omega)
 generalize hg : Int.gcd y z = g at *
 have hC := fun u v M0 I0 => vG (X := X) (w0 := w0) (M0 := M0) (I0 := I0) (u := u) (v := v) (y := g) (z := 1) (k := k + k) (m := 63) (by omega) (by omega)
 have hc := aRK g
 generalize gQ (g : Int) 1 = cv at *
 generalize z.sign = sz at *
 refine bC Tryz.func43 rfl Tryz.ntmps43 rfl ?_
 refine aJ ?_
 refine aL ?_
 (refine aX rfl rfl rfl ?_; intro b; refine ⟨okF, ?_⟩)
 repeat (refine aY ?_)
 (refine aA rfl (hV1 _ _ aB) rfl rfl ?_; rintro _ _ _ ⟨rfl, rfl, rfl⟩; refine ⟨okF, ?_⟩)
 repeat (refine aY ?_)
 (refine aA rfl (hV2 _ _ aB) rfl rfl ?_; rintro _ _ _ ⟨rfl, rfl, rfl⟩; refine ⟨okF, ?_⟩)
 repeat (refine aY ?_)
 (refine aA rfl (hS _ _ aB) rfl rfl ?_; rintro _ _ _ ⟨rfl, rfl, rfl⟩; refine ⟨okF, ?_⟩)
 repeat' (first | refine aY ?_ | refine aS rfl (fun h => ?_) (fun h => ?_) | refine aR rfl rfl (fun h => ?_) (fun h => ?_) | fail)
 ·refine aH (by first | exact .inl rfl | exact .inr rfl) rfl rfl _ _ aF aD (⟨rfl, rfl, congrArg Value.bool (dF (fun e => hs.1 (by assumption) e.1)).symm⟩)
 (refine aA rfl (hG _ _ aB aB) rfl rfl ?_; rintro _ _ _ ⟨rfl, rfl⟩; refine ⟨okF, ?_⟩)
 repeat (refine aY ?_)
 (refine aA rfl (aEW (x := 1) (by decide)) rfl rfl ?_; rintro _ _ _ ⟨rfl, rfl⟩; refine ⟨okF, ?_⟩)
 (refine aA rfl (hC _ _ _ _ aB aB) rfl rfl ?_; rintro _ _ _ ⟨rfl, rfl, rfl⟩; refine ⟨okF, ?_⟩)
 repeat (refine aY ?_)
 refine aH (by first | exact .inl rfl | exact .inr rfl) rfl rfl _ _ aF aD (⟨rfl, rfl, congrArg Value.bool (gZ ⟨fun e => ⟨by omega, hc.1 e⟩, fun e => hc.2 e.2⟩)⟩)
theorem xP {r : RW} (hl : r.g1.length ≤ 1000000000 ∧ r.g2.length ≤ 1000000000) (h : Hv I0 (isW r)) :
  CD Tryz.prog 43 [wv r] X w0 M0 I0 (fun v M I => M0 = M ∧ I0 = I ∧ v = .bool (B r.good)) := by
 refine aOE h (fun hf => ?_)
 obtain ⟨n1, p1, g1, c1, n2, p2, g2, c2⟩ := r
 simp only at hl
 by_cases k1 : sJ n1 g1
 ·by_cases k2 : sJ n2 g2
  ·obtain ⟨a1, a2⟩ := aKB k1 hf.u1
   obtain ⟨b1, b2⟩ := aKB k2 hf.u2
   have hg : (RW.mk n1 p1 g1 c1 n2 p2 g2 c2).good ↔ (0 < zI n2 g2 ∧ Int.gcd (zI n1 g1) (zI n2 g2) = 1) := ⟨fun h => h.2.2, fun h => ⟨k1, k2, h⟩⟩
   rw [gZ hg]
   generalize zI n1 g1 = y at *
   generalize zI n2 g2 = z at *
   subst a1; subst a2; subst b1; subst b2
   refine aCP (p := p1) (c := c1) (z := y) (k := 30000000000) (List.Mem.head _) hf.k1 (by omega) ?_
   refine aCP (p := p2) (c := c2) (z := z) (k := 30000000000) (List.Mem.tail _ (List.Mem.tail _ (List.Mem.head _))) hf.k2 (by omega) ?_
   exact aIQ (by omega) (List.Mem.tail _ (List.Mem.head _)) (List.Mem.head _)
  ·have hg : ¬ (RW.mk n1 p1 g1 c1 n2 p2 g2 c2).good := fun h => k2 h.2.1
   rw [dF hg]
   have hV1 := fun M0 I0 => tZ (X := X) (w0 := w0) (M0 := M0) (I0 := I0) (neg := n1) (q := p1) (gs := g1) (c := c1) hf.l1
   have hV2 := fun M0 I0 => tZ (X := X) (w0 := w0) (M0 := M0) (I0 := I0) (neg := n2) (q := p2) (gs := g2) (c := c2) hf.l2
   rw [dZ k1] at hV1
   rw [dF k2] at hV2
   refine bC Tryz.func43 rfl Tryz.ntmps43 rfl ?_
   refine aJ ?_
   refine aL ?_
   (refine aX rfl rfl rfl ?_; intro b; refine ⟨okF, ?_⟩)
   repeat (refine aY ?_)
   (refine aA rfl (hV1 _ _ aB) rfl rfl ?_; rintro _ _ _ ⟨rfl, rfl, rfl⟩; refine ⟨okF, ?_⟩)
   repeat (refine aY ?_)
   (refine aA rfl (hV2 _ _ aB) rfl rfl ?_; rintro _ _ _ ⟨rfl, rfl, rfl⟩; refine ⟨okF, ?_⟩)
   repeat (refine aY ?_)
   refine aH (by first | exact .inl rfl | exact .inr rfl) rfl rfl _ _ aF aD (⟨rfl, rfl, rfl⟩)
 ·have hg : ¬ (RW.mk n1 p1 g1 c1 n2 p2 g2 c2).good := fun h => k1 h.1
  rw [dF hg]
  have hV1 := fun M0 I0 => tZ (X := X) (w0 := w0) (M0 := M0) (I0 := I0) (neg := n1) (q := p1) (gs := g1) (c := c1) hf.l1
  rw [dF k1] at hV1
  refine bC Tryz.func43 rfl Tryz.ntmps43 rfl ?_
  refine aJ ?_
  refine aL ?_
  (refine aX rfl rfl rfl ?_; intro b; refine ⟨okF, ?_⟩)
  repeat (refine aY ?_)
  (refine aA rfl (hV1 _ _ aB) rfl rfl ?_; rintro _ _ _ ⟨rfl, rfl, rfl⟩; refine ⟨okF, ?_⟩)
  repeat (refine aY ?_)
  refine aH (by first | exact .inl rfl | exact .inr rfl) rfl rfl _ _ aF aD (⟨rfl, rfl, rfl⟩)
end
end Go.Proofs.YtkccjglmnhgabaaGreatDoor
namespace Go.Proofs.YtkccjglmnhgabaaGreatDoor
open Go Go.Fx
structure RL where
 p : Option Addr
 c : Nat
 es : List RE
instance : Inhabited RL := ⟨⟨none, 0, []⟩⟩
abbrev eL (r : RL) : List Value := [.slice r.p r.es.length r.c]
abbrev lv (r : RL) : Value := .slice r.p r.es.length r.c
instance : Sized eL 1 := ⟨fun _ => rfl⟩
instance : Ones eL := ⟨fun m u hu => by simp only [eL, List.mem_cons, List.not_mem_nil, or_false] at hu; subst hu; rfl⟩
structure IsL (r : RL) (k : Nat) (X : List Nat) (w : World) : Prop where
 sl : Sl X w r.p (recs eR r.es)
 el : ∀ e ∈ r.es, IsR e k X w
 cap : Cap r.p r.es.length r.c
abbrev nV (r : RL) (k : Nat) : bB := IsL r k
instance (r : RL) (k : Nat) : Fx.Good (IsL r k) := ⟨fun X Y w w' h he hY => ⟨Sl.carry h.sl he hY, fun e hm => Fx.Good.go (φ := IsR _ _) X Y w w' (h.el e hm) he hY, h.cap⟩⟩
abbrev RL.q (r : RL) : List Rat := qs r.es
structure MX where
 p : Option Addr
 c : Nat
 rows : List RL
instance : Inhabited MX := ⟨⟨none, 0, []⟩⟩
abbrev eMX (m : MX) : List Value := [.slice m.p m.rows.length m.c]
abbrev mv (m : MX) : Value := .slice m.p m.rows.length m.c
instance : Sized eMX 1 := ⟨fun _ => rfl⟩
instance : Ones eMX := ⟨fun m u hu => by simp only [eMX, List.mem_cons, List.not_mem_nil, or_false] at hu; subst hu; rfl⟩
structure IsX (m : MX) (k : Nat) (X : List Nat) (w : World) : Prop where
 sl : Sl X w m.p (recs eL m.rows)
 row : ∀ r ∈ m.rows, IsL r k X w
 cap : Cap m.p m.rows.length m.c
abbrev jC (m : MX) (k : Nat) : bB := IsX m k
instance (m : MX) (k : Nat) : Fx.Good (IsX m k) := ⟨fun X Y w w' h he hY => ⟨Sl.carry h.sl he hY, fun e hm => Fx.Good.go (φ := IsL _ _) X Y w w' (h.row e hm) he hY, h.cap⟩⟩
abbrev MX.q (m : MX) : Mt := m.rows.map RL.q
def MX.dim (m : MX) (R C : Nat) : Prop := m.rows.length = R ∧ ∀ r ∈ m.rows, r.es.length = C
theorem MX.dim.row {m : MX} {R C : Nat} (h : m.dim R C) {i : Nat} (hi : i < R) : (gt m.rows (i : Int)).es.length = C := h.2 _ (eX ⟨by omega, by have := h.1; omega⟩)
/- what follows from the facts -/
theorem Hv.xsl {I : List bB} {m : MX} {k : Nat} (h : jC m k ∈ I) : Hv I (aW m.p (recs eL m.rows)) := ⟨fun X w hw => ⟨(hw _ h : IsX m k X w).sl⟩⟩
theorem Hv.xrow {I : List bB} {m : MX} {k : Nat} {i : Int} (h : jC m k ∈ I) (hi : 0 ≤ i ∧ i < m.rows.length) : Hv I (nV (gt m.rows i) k) := ⟨fun X w hw => (hw _ h : IsX m k X w).row _ (eX hi)⟩
theorem Hv.xrsl {I : List bB} {m : MX} {k : Nat} {i : Int} (h : jC m k ∈ I) (hi : 0 ≤ i ∧ i < m.rows.length) : Hv I (aW (gt m.rows i).p (recs eR (gt m.rows i).es)) := ⟨fun X w hw => ⟨((hw _ h : IsX m k X w).row _ (eX hi)).sl⟩⟩
theorem Hv.xel {I : List bB} {m : MX} {k : Nat} {i j : Int} (h : jC m k ∈ I) (hi : 0 ≤ i ∧ i < m.rows.length) (hj : 0 ≤ j ∧ j < (gt m.rows i).es.length) : Hv I (fB (gt (gt m.rows i).es j) k) := ⟨fun X w hw => ((hw _ h : IsX m k X w).row _ (eX hi)).el _ (eX hj)⟩
theorem Hv.lsl {I : List bB} {r : RL} {k : Nat} (h : nV r k ∈ I) : Hv I (aW r.p (recs eR r.es)) := ⟨fun X w hw => ⟨(hw _ h : IsL r k X w).sl⟩⟩
theorem Hv.lel {I : List bB} {r : RL} {k : Nat} {j : Int} (h : nV r k ∈ I) (hj : 0 ≤ j ∧ j < r.es.length) : Hv I (fB (gt r.es j) k) := ⟨fun X w hw => (hw _ h : IsL r k X w).el _ (eX hj)⟩
theorem Hv.lall {I : List bB} {r : RL} {k : Nat} (h : nV r k ∈ I) : Hv I (dV r.es k) := ⟨fun X w hw => ⟨(hw _ h : IsL r k X w).el⟩⟩
/- the posts -/
def XQ (A : Mt) (R C k : Nat) (M0 : List Ent) (I0 : List bB) (v : Value) (M : List Ent) (I : List bB) : Prop := M0 = M ∧ ∃ m : MX, v = mv m ∧ m.q = A ∧ m.dim R C ∧ I = jC m k :: I0
def XQc (A : Mt) (R C k : Nat) (M0 : List Ent) (I0 : List bB) (v : Value) (M : List Ent) (I : List bB) : Prop := M0 = M ∧ ∃ m : MX, v = .tuple #[mv m, .int .i64 0] ∧ m.q = A ∧ m.dim R C ∧ I = jC m k :: I0
def LQ (l : List Rat) (k : Nat) (M0 : List Ent) (I0 : List bB) (v : Value) (M : List Ent) (I : List bB) : Prop := M0 = M ∧ ∃ r : RL, v = lv r ∧ r.q = l ∧ I = nV r k :: I0
def LQc (l : List Rat) (k : Nat) (M0 : List Ent) (I0 : List bB) (v : Value) (M : List Ent) (I : List bB) : Prop := M0 = M ∧ ∃ r : RL, v = .tuple #[lv r, .int .i64 0] ∧ r.q = l ∧ I = nV r k :: I0
def uY (R C : Nat) (F : Nat → Nat → Rat) : Mt := (List.range R).map (fun i => (List.range C).map (F i))
theorem vB {R C : Nat} {F : Nat → Nat → Rat} {i j : Nat} (hi : i < R) (hj : j < C) : at2 (uY R C F) i j = F i j := by
 unfold at2 rowAt uY
 simp [List.getD, hi, hj]
theorem aDH {R C : Nat} {F G : Nat → Nat → Rat} (h : ∀ i j, i < R → j < C → F i j = G i j) : uY R C F = uY R C G := by
 unfold uY
 apply List.map_congr_left
 intro i hi
 apply List.map_congr_left
 intro j hj
 exact h i j (List.mem_range.1 hi) (List.mem_range.1 hj)
theorem wT {m : MX} {i j : Nat} (hi : i < m.rows.length) (hj : j < (gt m.rows (i : Int)).es.length) : at2 m.q i j = (gt (gt m.rows (i : Int)).es (j : Int)).q := by
 rw [dH hi] at hj
 unfold at2 rowAt
 rw [dH hi, dH hj]
 simp [List.getD, hi, hj]
theorem MX.dim.mk {m : MX} {R C : Nat} (h : m.dim R C) : m.q = uY R C (at2 m.q) := by
 apply List.ext_getElem
 ·simp [uY, h.1]
 ·intro i h1 h2
  have hi : i < m.rows.length := by simpa using h1
  have hc := h.2 _ (List.getElem_mem hi)
  apply List.ext_getElem
  ·simp [uY, hc]
  ·intro j h3 h4
   have hj : j < (m.rows[i]).es.length := by simpa using h3
   simp only [uY, List.getElem_map, List.getElem_range]
   rw [wT hi (by rw [dH hi]; exact hj), dH hi, dH hj]
/- a matrix made is a matrix that is read -/
def MR.l (r : MR) : RL := ⟨some ⟨r.b, 0, none⟩, r.es.length, r.es⟩
theorem yN {X : List Nat} {w0 w : World} {k : Nat} : ∀ {rows : List MR} {M : List Ent} {I : List bB}, Mem X w0 (rows.map fM ++ M) I w → (∀ r ∈ rows, AllR r.es k (muts (rows.map fM ++ M)) w) → ∃ I', (∀ φ ∈ I, φ ∈ I') ∧ (∀ r ∈ rows, nV r.l k ∈ I') ∧ Mem X w0 M I' w
 | [], M, I, h, _ => ⟨I, fun _ h => h, fun r hr => by simp at hr, h⟩
 | r :: rows, M, I, h, ha => by
  have h1 : Mem X w0 (rows.map fM ++ M) (aW (some ⟨r.b, 0, none⟩) (recs eR r.es) :: I) w := h.freezeB .here
  have hsub : ∀ y ∈ muts (rows.map fM ++ M), y ∈ muts ((r :: rows).map fM ++ M) := fun y hy => by simp [muts] at hy ⊢; right; exact hy
  have h2 : IsL r.l k (muts (rows.map fM ++ M)) w := by
   refine ⟨(h1.sl (List.Mem.head _)), fun e he => ?_, Nat.le_refl _, .inl (Ok.mk _ _)⟩
   exact Fx.Good.go (φ := IsR _ _) _ _ w w ((ha r (List.Mem.head _)).go e he) (Ext.refl _ _) (fun y hy => .inl (hsub y hy))
  obtain ⟨I', i1, i2, i3⟩ := yN (h1.add (φ := nV r.l k) h2) (fun s hs => ⟨fun e he => Fx.Good.go (φ := IsR _ _) _ _ w w ((ha s (List.Mem.tail _ hs)).go e he) (Ext.refl _ _) (fun y hy => .inl (hsub y hy))⟩)
  refine ⟨I', fun φ hφ => i1 φ (List.Mem.tail _ (List.Mem.tail _ hφ)), fun s hs => ?_, i3⟩
  rcases List.mem_cons.1 hs with rfl | hs
  ·exact i1 _ (List.Mem.head _)
  ·exact i2 s hs
def MR.x (bo : Nat) (rows : List MR) : MX := ⟨some ⟨bo, 0, none⟩, rows.length, rows.map MR.l⟩
theorem aUZ (rows : List MR) : recs eL (rows.map MR.l) = recs eM rows := by
 induction rows with
 | nil => rfl
 | cons x r ih =>
  have h1 : recs eL ((x :: r).map MR.l) = eL x.l ++ recs eL (r.map MR.l) := rfl
  have h2 : recs eM (x :: r) = eM x ++ recs eM r := rfl
  rw [h1, h2, ih]
  rfl
theorem q_x (bo : Nat) (rows : List MR) : (MR.x bo rows).q = mq rows := by
 unfold MR.x
 simp [MX.q, MR.l, Function.comp_def]
theorem aRI {X : List Nat} {w0 w : World} {k bo : Nat} {rows : List MR} {M : List Ent} {I : List bB} (h : Mem X w0 (.blk bo (recs eM rows) 48 :: (rows.map fM ++ M)) I w) (ha : allM rows k ∈ I) : Mem X w0 M (jC (MR.x bo rows) k :: I) w := by
 have h0 : Mem X w0 (rows.map fM ++ M) (aW (some ⟨bo, 0, none⟩) (recs eM rows) :: I) w := h.freezeB .here
 obtain ⟨I', i1, i2, i3⟩ := yN (k := k) h0 (fun r hr => ⟨fun e he => ((h0.imm _ (List.Mem.tail _ ha)).2 : AllM rows k _ w).go r hr e he⟩)
 have h3 : IsX (MR.x bo rows) k (muts M) w := by
  refine ⟨?_, fun r hr => ?_, ?_⟩
  ·rw [show (MR.x bo rows).rows = rows.map MR.l from rfl, aUZ]; exact i3.sl (i1 _ (List.Mem.head _))
  ·obtain ⟨s, hs, rfl⟩ := List.mem_map.1 hr
   exact (i3.imm _ (i2 s hs)).2
  ·show Cap (some ⟨bo, 0, none⟩) (rows.map MR.l).length rows.length
   rw [List.length_map]; exact ⟨Nat.le_refl _, .inl (Ok.mk _ _)⟩
 exact (i3.add (φ := jC (MR.x bo rows) k) h3).inc (.of fun φ hφ => by
  rcases List.mem_cons.1 hφ with rfl | hφ
  ·exact List.Mem.head _
  ·exact List.Mem.tail _ (i1 _ (List.Mem.tail _ hφ)))
section
variable {X : List Nat} {w0 : World} {M0 : List Ent} {I0 : List bB}
end
end Go.Proofs.YtkccjglmnhgabaaGreatDoor
namespace Go.Proofs.YtkccjglmnhgabaaGreatDoor
open Go Go.Fx
structure WL where
 p : Option Addr
 c : Nat
 es : List RW
instance : Inhabited WL := ⟨⟨none, 0, []⟩⟩
abbrev eWL (r : WL) : List Value := [.slice r.p r.es.length r.c]
abbrev lvW (r : WL) : Value := .slice r.p r.es.length r.c
instance : Sized eWL 1 := ⟨fun _ => rfl⟩
instance : Ones eWL := ⟨fun m u hu => by simp only [eWL, List.mem_cons, List.not_mem_nil, or_false] at hu; subst hu; rfl⟩
structure IsWL (r : WL) (X : List Nat) (w : World) : Prop where
 sl : Sl X w r.p (recs eW r.es)
 el : ∀ e ∈ r.es, IsW e X w
 cap : Cap r.p r.es.length r.c
abbrev aHB (r : WL) : bB := IsWL r
instance (r : WL) : Fx.Good (IsWL r) := ⟨fun X Y w w' h he hY => ⟨Sl.carry h.sl he hY, fun e hm => Fx.Good.go (φ := IsW _) X Y w w' (h.el e hm) he hY, h.cap⟩⟩
structure WM where
 p : Option Addr
 c : Nat
 rows : List WL
instance : Inhabited WM := ⟨⟨none, 0, []⟩⟩
abbrev eWM (m : WM) : List Value := [.slice m.p m.rows.length m.c]
abbrev mvW (m : WM) : Value := .slice m.p m.rows.length m.c
instance : Sized eWM 1 := ⟨fun _ => rfl⟩
instance : Ones eWM := ⟨fun m u hu => by simp only [eWM, List.mem_cons, List.not_mem_nil, or_false] at hu; subst hu; rfl⟩
structure IsWM (m : WM) (X : List Nat) (w : World) : Prop where
 sl : Sl X w m.p (recs eWL m.rows)
 row : ∀ r ∈ m.rows, IsWL r X w
 cap : Cap m.p m.rows.length m.c
abbrev uT (m : WM) : bB := IsWM m
instance (m : WM) : Fx.Good (IsWM m) := ⟨fun X Y w w' h he hY => ⟨Sl.carry h.sl he hY, fun e hm => Fx.Good.go (φ := IsWL _) X Y w w' (h.row e hm) he hY, h.cap⟩⟩
structure AllWM (ms : List WM) (X : List Nat) (w : World) : Prop where
 go : ∀ m ∈ ms, IsWM m X w
abbrev allWM (ms : List WM) : bB := AllWM ms
instance (ms : List WM) : Fx.Good (AllWM ms) := ⟨fun X Y w w' h he hY => ⟨fun m hm => Fx.Good.go (φ := IsWM _) X Y w w' (h.go m hm) he hY⟩⟩
theorem Hv.wlsl {I : List bB} {r : WL} (h : aHB r ∈ I) : Hv I (aW r.p (recs eW r.es)) := ⟨fun X w hw => ⟨(hw _ h : IsWL r X w).sl⟩⟩
theorem Hv.wlel {I : List bB} {r : WL} {j : Int} (h : aHB r ∈ I) (hj : 0 ≤ j ∧ j < r.es.length) : Hv I (isW (gt r.es j)) := ⟨fun X w hw => (hw _ h : IsWL r X w).el _ (eX hj)⟩
theorem Hv.wmsl {I : List bB} {m : WM} (h : uT m ∈ I) : Hv I (aW m.p (recs eWL m.rows)) := ⟨fun X w hw => ⟨(hw _ h : IsWM m X w).sl⟩⟩
theorem Hv.wmrow {I : List bB} {m : WM} {i : Int} (h : uT m ∈ I) (hi : 0 ≤ i ∧ i < m.rows.length) : Hv I (aHB (gt m.rows i)) := ⟨fun X w hw => (hw _ h : IsWM m X w).row _ (eX hi)⟩
/- short numbers, canonical ones, matrices -/
def RW.brief (r : RW) : Prop := r.g1.length ≤ 1 ∧ r.g2.length ≤ 1 ∧ (r.g1.length = 0 ∨ gt r.g1 0 < 100000) ∧ (r.g2.length = 0 ∨ gt r.g2 0 ≤ 100)
instance (r : RW) : Decidable r.brief := by unfold RW.brief; exact inferInstance
def RW.sml (r : RW) : Prop := r.g1.length ≤ 1000000000 ∧ r.g2.length ≤ 1000000000
def WL.sht (r : WL) : Prop := r.es.length ≤ 6 ∧ ∀ e ∈ r.es, e.brief
instance (r : WL) : Decidable r.sht := by unfold WL.sht; exact inferInstance
def WL.sml (r : WL) : Prop := r.es.length ≤ 1000000000 ∧ ∀ e ∈ r.es, e.sml
def WL.good (r : WL) : Prop := ∀ e ∈ r.es, e.good
instance (r : WL) : Decidable r.good := by unfold WL.good; exact inferInstance
def WM.sht (m : WM) : Prop := m.rows.length ≤ 6 ∧ ∀ r ∈ m.rows, r.sht
instance (m : WM) : Decidable m.sht := by unfold WM.sht; exact inferInstance
def WM.sml (m : WM) : Prop := m.rows.length ≤ 1000000000 ∧ ∀ r ∈ m.rows, r.sml
def WM.ok (m : WM) : Prop := (1 ≤ m.rows.length ∧ m.rows.length ≤ 64 ∧ 1 ≤ (gt m.rows 0).es.length ∧ (gt m.rows 0).es.length ≤ 64) ∧ ∀ r ∈ m.rows, r.es.length = (gt m.rows 0).es.length ∧ r.good
instance (m : WM) : Decidable m.ok := by unfold WM.ok; exact inferInstance
/- of canonical numbers -/
def RL.raw (r : RL) : WL := ⟨r.p, r.c, r.es.map RE.raw⟩
def MX.raw (m : MX) : WM := ⟨m.p, m.c, m.rows.map RL.raw⟩
theorem aPR (es : List RE) : recs eW (es.map RE.raw) = recs eR es := by
 induction es with
 | nil => rfl
 | cons x r ih =>
  have h1 : recs eW ((x :: r).map RE.raw) = eW x.raw ++ recs eW (r.map RE.raw) := rfl
  have h2 : recs eR (x :: r) = eR x ++ recs eR r := rfl
  rw [h1, h2, ih]; rfl
theorem aNB (rows : List RL) : recs eWL (rows.map RL.raw) = recs eL rows := by
 induction rows with
 | nil => rfl
 | cons x r ih =>
  have h1 : recs eWL ((x :: r).map RL.raw) = eWL x.raw ++ recs eWL (r.map RL.raw) := rfl
  have h2 : recs eL (x :: r) = eL x ++ recs eL r := rfl
  rw [h1, h2, ih]
  show [Value.slice x.p (x.es.map RE.raw).length x.c] ++ _ = [Value.slice x.p x.es.length x.c] ++ _
  rw [List.length_map]
theorem vE (m : MX) : mvW m.raw = mv m := by show Value.slice m.p (m.rows.map RL.raw).length m.c = _; rw [List.length_map]
theorem RL.raw_good (r : RL) : r.raw.good := fun e he => by
 obtain ⟨x, _, rfl⟩ := List.mem_map.1 he
 exact x.raw_good
theorem IsL.raw {r : RL} {k : Nat} {X : List Nat} {w : World} (hk : k ≤ 1000000000000) (h : IsL r k X w) : IsWL r.raw X w :=
 ⟨by show Sl X w r.p (recs eW (r.es.map RE.raw)); rw [aPR]; exact h.sl, fun e he => by obtain ⟨x, hx, rfl⟩ := List.mem_map.1 he; exact RE.fit hk (h.el x hx), by show Cap r.p (r.es.map RE.raw).length r.c; rw [List.length_map]; exact h.cap⟩
theorem IsX.raw {m : MX} {k : Nat} {X : List Nat} {w : World} (hk : k ≤ 1000000000000) (h : IsX m k X w) : IsWM m.raw X w :=
 ⟨by show Sl X w m.p (recs eWL (m.rows.map RL.raw)); rw [aNB]; exact h.sl, fun e he => by obtain ⟨x, hx, rfl⟩ := List.mem_map.1 he; exact IsL.raw hk (h.row x hx), by show Cap m.p (m.rows.map RL.raw).length m.c; rw [List.length_map]; exact h.cap⟩
theorem IsR.sml {e : RE} {k : Nat} {X : List Nat} {w : World} (hk : k ≤ 20000000000) (h : IsR e k X w) : e.raw.sml := by
 have a := eU (IsI.le h.num)
 have b := eU (IsI.le h.den)
 constructor
 ·show (gr e.q.num.natAbs).length ≤ _; omega
 ·show (gr (e.q.den : Int).natAbs).length ≤ _; omega
theorem Hv.xraw {I : List bB} {m : MX} {k : Nat} (h : jC m k ∈ I) (hk : k ≤ 20000000000) : Hv I (uT m.raw) := ⟨fun X w hw => IsX.raw (by omega) (hw _ h)⟩
theorem aIE {α β : Type} [Inhabited α] [Inhabited β] {l : List α} {f : α → β} {i : Int} (h : 0 ≤ i ∧ i < l.length) : gt (l.map f) i = f (gt l i) := by
 obtain ⟨n, rfl⟩ : ∃ n : Nat, i = n := ⟨i.toNat, by omega⟩
 rw [dH (by simpa using h.2), dH (by omega)]
 simp
theorem aWC {m : MX} {R C : Nat} (h : m.dim R C) (hR : 1 ≤ R ∧ R ≤ 64) (hC : 1 ≤ C ∧ C ≤ 64) : m.raw.ok := by
 have e : m.raw.rows = m.rows.map RL.raw := rfl
 have h0 := h.1
 have hl : ∀ r ∈ m.rows, r.raw.es.length = C := fun r hr => by rw [show r.raw.es = r.es.map RE.raw from rfl, List.length_map]; exact h.2 r hr
 unfold WM.ok
 rw [e, List.length_map, aIE (by omega), hl _ (eX (by omega))]
 refine ⟨by omega, fun r hr => ?_⟩
 obtain ⟨s, hs, rfl⟩ := List.mem_map.1 hr
 exact ⟨hl s hs, s.raw_good⟩
end Go.Proofs.YtkccjglmnhgabaaGreatDoor
namespace Go.Proofs.YtkccjglmnhgabaaGreatDoor
open Go Go.Fx
/- ---------- IndexFunc, ContainsFunc of []fiducial/api.Rat ---------- -/
section
variable {X : List Nat} {w0 : World} {M0 : List Ent} {I0 : List bB}
theorem aOD {q : Option Addr} {a : List RW} {c : Nat} {g : FuncId} [FnOk Tryz.prog g] {fs cs : Array Value} (pr : RW → Prop) [DecidablePred pr] (hn : (a.length : Int) ≤ 9223372036854775807) (ha : aW q (recs eW a) ∈ I0)
  (hg : ∀ i : Nat, i < a.length → CD Tryz.prog g (fs.toList ++ [wv (gt a i)] ++ cs.toList) X w0 M0 I0 (fun v M I => M0 = M ∧ I0 = I ∧ v = .bool (B (pr (gt a i))))) :
  CD Tryz.prog 65 [.slice q a.length c, .func (.func g) fs cs] X w0 M0 I0 (fun v M I => M0 = M ∧ I0 = I ∧ ∃ r : Int, v = .int .i64 r ∧ ((∃ i : Nat, i < a.length ∧ r = i ∧ pr (gt a i) ∧ ∀ j : Nat, j < i → ¬ pr (gt a j)) ∨ (r = -1 ∧ ∀ j : Nat, j < a.length → ¬ pr (gt a j)))) := by
 refine bR Tryz.func65 rfl Tryz.ntmps65 rfl ?_
 repeat (refine aK ?_)
 refine aT [0, 1, 7] rfl (fun k G M I => ∃ i : Nat, i ≤ a.length ∧ k = a.length - i ∧ (∀ j : Nat, j < i → ¬ pr (gt a j)) ∧ G = [(8, .int .i64 i)] ∧ M = M0 ∧ I = I0) (a.length) _ _ _ aQ aF aD (⟨0, by omega, rfl, fun j hj => by omega, rfl, rfl, rfl⟩) ?_
 rintro k G M I ⟨i, hi, rfl, hs, rfl, rfl, rfl⟩
 repeat' (first | refine aK ?_ | refine aS rfl (fun h => ?_) (fun h => ?_) | refine aR rfl rfl (fun h => ?_) (fun h => ?_) | fail)
 ·have hlt : i < a.length := by omega
  (refine rH rfl rfl (hg i hlt) rfl rfl rfl ?_; rintro _ _ _ ⟨rfl, rfl, rfl⟩; refine ⟨okF, ?_⟩)
  repeat' (first | refine aK ?_ | refine aS rfl (fun h => ?_) (fun h => ?_) | refine aR rfl rfl (fun h => ?_) (fun h => ?_) | fail)
  ·refine aH (by first | exact .inl rfl | exact .inr rfl) rfl rfl _ _ aF aD (⟨rfl, rfl, _, rfl, .inl ⟨i, hlt, rfl, by assumption, hs⟩⟩)
  ·refine aG (a.length - (i + 1)) _ _ _ (by first | omega | (simp only [List.length_append, List.length_cons, List.length_nil]; omega)) aQ aF aD (⟨i + 1, by omega, rfl, fun j hj => ?_, rfl, rfl, rfl⟩)
   by_cases e : j = i
   ·subst e; assumption
   ·exact hs j (by omega)
 ·refine aH (by first | exact .inl rfl | exact .inr rfl) rfl rfl _ _ aF aD (⟨rfl, rfl, _, rfl, .inr ⟨rfl, fun j hj => hs j (by omega)⟩⟩)
theorem aFW {q : Option Addr} {a : List RW} {c : Nat} {g : FuncId} [FnOk Tryz.prog g] {fs cs : Array Value} (pr : RW → Prop) [DecidablePred pr] (hn : (a.length : Int) ≤ 9223372036854775807) (ha : aW q (recs eW a) ∈ I0)
  (hg : ∀ i : Nat, i < a.length → CD Tryz.prog g (fs.toList ++ [wv (gt a i)] ++ cs.toList) X w0 M0 I0 (fun v M I => M0 = M ∧ I0 = I ∧ v = .bool (B (pr (gt a i))))) :
  CD Tryz.prog 45 [.slice q a.length c, .func (.func g) fs cs] X w0 M0 I0 (fun v M I => M0 = M ∧ I0 = I ∧ v = .bool (B (∃ x ∈ a, pr x))) := by
 refine bR Tryz.func45 rfl Tryz.ntmps45 rfl ?_
 repeat (refine aK ?_)
 (refine aA rfl (aOD pr hn ha hg) rfl rfl ?_; rintro _ _ _ ⟨rfl, rfl, r, rfl, h⟩; refine ⟨okF, ?_⟩)
 repeat (refine aK ?_)
 refine aH (by first | exact .inl rfl | exact .inr rfl) rfl rfl _ _ aF aD (⟨rfl, rfl, congrArg Value.bool (gZ ?_)⟩)
 rcases h with ⟨i, hi, rfl, hp, _⟩ | ⟨rfl, h⟩
 ·exact ⟨fun _ => ⟨gt a i, by rw [kL hi]; exact List.getElem_mem hi, hp⟩, fun _ => by omega⟩
 ·refine ⟨fun h => by omega, ?_⟩
  rintro ⟨x, hx, hp⟩
  obtain ⟨j, hj, rfl⟩ := List.mem_iff_getElem.1 hx
  exact absurd (by rw [kL hj]; exact hp) (h j hj)
end
/- ---------- IndexFunc, ContainsFunc of fiducial/api.Matrix ---------- -/
section
variable {X : List Nat} {w0 : World} {M0 : List Ent} {I0 : List bB}
theorem aOZ {q : Option Addr} {a : List WL} {c : Nat} {g : FuncId} [FnOk Tryz.prog g] {fs cs : Array Value} (pr : WL → Prop) [DecidablePred pr] (hn : (a.length : Int) ≤ 9223372036854775807) (ha : aW q (recs eWL a) ∈ I0)
  (hg : ∀ i : Nat, i < a.length → CD Tryz.prog g (fs.toList ++ [lvW (gt a i)] ++ cs.toList) X w0 M0 I0 (fun v M I => M0 = M ∧ I0 = I ∧ v = .bool (B (pr (gt a i))))) :
  CD Tryz.prog 76 [.slice q a.length c, .func (.func g) fs cs] X w0 M0 I0 (fun v M I => M0 = M ∧ I0 = I ∧ ∃ r : Int, v = .int .i64 r ∧ ((∃ i : Nat, i < a.length ∧ r = i ∧ pr (gt a i) ∧ ∀ j : Nat, j < i → ¬ pr (gt a j)) ∨ (r = -1 ∧ ∀ j : Nat, j < a.length → ¬ pr (gt a j)))) := by
 refine bR Tryz.func76 rfl Tryz.ntmps76 rfl ?_
 repeat (refine aK ?_)
 refine aT [0, 1, 7] rfl (fun k G M I => ∃ i : Nat, i ≤ a.length ∧ k = a.length - i ∧ (∀ j : Nat, j < i → ¬ pr (gt a j)) ∧ G = [(8, .int .i64 i)] ∧ M = M0 ∧ I = I0) (a.length) _ _ _ aQ aF aD (⟨0, by omega, rfl, fun j hj => by omega, rfl, rfl, rfl⟩) ?_
 rintro k G M I ⟨i, hi, rfl, hs, rfl, rfl, rfl⟩
 repeat' (first | refine aK ?_ | refine aS rfl (fun h => ?_) (fun h => ?_) | refine aR rfl rfl (fun h => ?_) (fun h => ?_) | fail)
 ·have hlt : i < a.length := by omega
  (refine rH rfl rfl (hg i hlt) rfl rfl rfl ?_; rintro _ _ _ ⟨rfl, rfl, rfl⟩; refine ⟨okF, ?_⟩)
  repeat' (first | refine aK ?_ | refine aS rfl (fun h => ?_) (fun h => ?_) | refine aR rfl rfl (fun h => ?_) (fun h => ?_) | fail)
  ·refine aH (by first | exact .inl rfl | exact .inr rfl) rfl rfl _ _ aF aD (⟨rfl, rfl, _, rfl, .inl ⟨i, hlt, rfl, by assumption, hs⟩⟩)
  ·refine aG (a.length - (i + 1)) _ _ _ (by first | omega | (simp only [List.length_append, List.length_cons, List.length_nil]; omega)) aQ aF aD (⟨i + 1, by omega, rfl, fun j hj => ?_, rfl, rfl, rfl⟩)
   by_cases e : j = i
   ·subst e; assumption
   ·exact hs j (by omega)
 ·refine aH (by first | exact .inl rfl | exact .inr rfl) rfl rfl _ _ aF aD (⟨rfl, rfl, _, rfl, .inr ⟨rfl, fun j hj => hs j (by omega)⟩⟩)
theorem wH {q : Option Addr} {a : List WL} {c : Nat} {g : FuncId} [FnOk Tryz.prog g] {fs cs : Array Value} (pr : WL → Prop) [DecidablePred pr] (hn : (a.length : Int) ≤ 9223372036854775807) (ha : aW q (recs eWL a) ∈ I0)
  (hg : ∀ i : Nat, i < a.length → CD Tryz.prog g (fs.toList ++ [lvW (gt a i)] ++ cs.toList) X w0 M0 I0 (fun v M I => M0 = M ∧ I0 = I ∧ v = .bool (B (pr (gt a i))))) :
  CD Tryz.prog 41 [.slice q a.length c, .func (.func g) fs cs] X w0 M0 I0 (fun v M I => M0 = M ∧ I0 = I ∧ v = .bool (B (∃ x ∈ a, pr x))) := by
 refine bR Tryz.func41 rfl Tryz.ntmps41 rfl ?_
 repeat (refine aK ?_)
 (refine aA rfl (aOZ pr hn ha hg) rfl rfl ?_; rintro _ _ _ ⟨rfl, rfl, r, rfl, h⟩; refine ⟨okF, ?_⟩)
 repeat (refine aK ?_)
 refine aH (by first | exact .inl rfl | exact .inr rfl) rfl rfl _ _ aF aD (⟨rfl, rfl, congrArg Value.bool (gZ ?_)⟩)
 rcases h with ⟨i, hi, rfl, hp, _⟩ | ⟨rfl, h⟩
 ·exact ⟨fun _ => ⟨gt a i, by rw [kL hi]; exact List.getElem_mem hi, hp⟩, fun _ => by omega⟩
 ·refine ⟨fun h => by omega, ?_⟩
  rintro ⟨x, hx, hp⟩
  obtain ⟨j, hj, rfl⟩ := List.mem_iff_getElem.1 hx
  exact absurd (by rw [kL hj]; exact hp) (h j hj)
end
section
variable {X : List Nat} {w0 : World} {M0 : List Ent} {I0 : List bB}
theorem aBN {r : RW} (hs : r.sml) (hw : Hv I0 (isW r)) : CD Tryz.prog 98 [wv r] X w0 M0 I0 (fun v M I => M0 = M ∧ I0 = I ∧ v = .bool (B (¬ r.good))) := by
 refine bC Tryz.func98 rfl Tryz.ntmps98 rfl ?_
 refine aJ ?_
 refine aL ?_
 (refine aX rfl rfl rfl ?_; intro b; refine ⟨okF, ?_⟩)
 repeat (refine aK ?_)
 (refine aA rfl (xP (r := r) hs hw) rfl rfl ?_; rintro _ _ _ ⟨rfl, rfl, rfl⟩; refine ⟨okF, ?_⟩)
 repeat (refine aK ?_)
 refine aH (by first | exact .inl rfl | exact .inr rfl) rfl rfl _ _ aF aD (⟨rfl, rfl, rfl⟩)
theorem aBZ {r : WL} (hs : r.sml) (hw : aHB r ∈ I0) : CD Tryz.prog 61 [lvW r] X w0 M0 I0 (fun v M I => M0 = M ∧ I0 = I ∧ v = .bool (B r.good)) := by
 refine eQ (φ := aW r.p (recs eW r.es)) (Hv.wlsl hw) ?_
 have hl := hs.1
 refine bC Tryz.func61 rfl Tryz.ntmps61 rfl ?_
 repeat (refine aK ?_)
 (refine aA rfl (aFW (g := 98) (fs := #[]) (cs := #[]) (fun (x : RW) => ¬ x.good) (by omega) (List.Mem.head _) (fun i hi => aBN (hs.2 _ (eX (by omega))) (Hv.wlel (List.Mem.tail _ hw) (by omega)))) rfl rfl ?_; rintro _ _ _ ⟨rfl, rfl, rfl⟩; refine ⟨okF, ?_⟩)
 repeat (refine aK ?_)
 refine aH (by first | exact .inl rfl | exact .inr rfl) rfl rfl _ _ aF aD (⟨rfl, rfl, congrArg Value.bool (gZ ?_)⟩)
 exact ⟨fun e x hx => Decidable.of_not_not (fun hn => e ⟨x, hx, hn⟩), fun e ⟨x, hx, hn⟩ => hn (e x hx)⟩
end
end Go.Proofs.YtkccjglmnhgabaaGreatDoor
