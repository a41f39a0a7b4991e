/- Fractions as they come in: whatever bits, canonical or not. Matrices and lists of fractions that are only read: facts about memory; matrices as they come in. Arrays: sliced, built, read by an index; loads of eight and twelve cells. Matrices as they come in; which numbers are brief. -/
import Derived.Test.YtjbhdfpjnjedhaaGreatZqaq
import Derived.Test.YtjbhdfpjnjedhaaGreatZqao
import Derived.Test.YtjbhdfpjnjedhaaGreatZqas
import Derived.Test.YtjbhdfpjnjedhaaGreatZqar
set_option linter.unusedSimpArgs false
set_option linter.unusedVariables false
set_option maxRecDepth 100000
set_option maxHeartbeats 4000000
namespace Go.Proofs.YtjbhdfpjnjedhaaGreat
open Go Go.Fx
structure RW where
 n1 : Bool
 p1 : Option Addr
 g1 : List Int
 c1 : Nat
 n2 : Bool
 p2 : Option Addr
 g2 : List Int
 c2 : Nat
instance : Inhabited RW := ⟨⟨false, none, [], 0, false, none, [], 0⟩⟩
abbrev eW (r : RW) : List Value := [.bool r.n1, .slice r.p1 r.g1.length r.c1, .bool r.n2, .slice r.p2 r.g2.length r.c2]
abbrev wv (r : RW) : Value := .agg #[.bool r.n1, .slice r.p1 r.g1.length r.c1, .bool r.n2, .slice r.p2 r.g2.length r.c2]
instance : Sized eW 4 := ⟨fun _ => rfl⟩
instance : Ones eW := ⟨fun m u hu => by
 simp only [eW, List.mem_cons, List.not_mem_nil, or_false] at hu
 rcases hu with rfl | rfl | rfl | rfl <;> rfl⟩
abbrev Cap (p : Option Addr) (n c : Nat) : Prop := n ≤ c ∧ (Ok p ∨ (n = 0 ∧ c = 0))
structure RW.Fit (r : RW) : Prop where
 u1 : ∀ x ∈ r.g1, 0 ≤ x
 u2 : ∀ x ∈ r.g2, 0 ≤ x
 l1 : (r.g1.length : Int) ≤ 9223372036854775807
 l2 : (r.g2.length : Int) ≤ 9223372036854775807
 k1 : Cap r.p1 r.g1.length r.c1
 k2 : Cap r.p2 r.g2.length r.c2
structure IsW (r : RW) (X : List Nat) (w : World) : Prop where
 fit : r.Fit
 s1 : Sl X w r.p1 (recs eG r.g1)
 s2 : Sl X w r.p2 (recs eG r.g2)
abbrev isW (r : RW) : aT := IsW r
instance (r : RW) : Fx.Good (IsW r) := ⟨fun X Y w w' h he hY => ⟨h.fit, Sl.carry h.s1 he hY, Sl.carry h.s2 he hY⟩⟩
def zI (n : Bool) (g : List Int) : Int := if n = true then -val g else val g
theorem aLO {n : Bool} {g : List Int} (h : xV n g) (hu : ∀ x ∈ g, 0 ≤ x) : B (zI n g < 0) = n ∧ gr (zI n g).natAbs = g := by
 rcases h with ⟨rfl, rfl⟩ | ⟨h1, h2, h3⟩
 ·exact ⟨dP (by simp [zI, val]), by simp [zI, val, kL]⟩
 ·have hd : Dig g := fun x hx => ⟨hu x hx, by
   have : ¬ 1000000000 ≤ x := fun e => h3 ⟨x, hx, e⟩
   omega⟩
  have hc : Can g := ⟨hd, h2⟩
  have hp : 0 < g.length := by cases g with | nil => exact absurd rfl h1 | cons a l => simp
  have hv := aCD hc hp
  have hpp := kS (g.length - 1)
  have ha : (zI n g).natAbs = (val g).toNat := by unfold zI; split <;> omega
  refine ⟨?_, by rw [ha]; exact (aWF hc).symm⟩
  cases n with
  | true => exact bV (by simp only [zI, if_pos]; omega)
  | false => exact dP (by simp only [zI]; rw [if_neg (by decide)]; omega)
theorem aFC (z : Int) : zI (B (z < 0)) (gr z.natAbs) = z := by
 unfold zI
 rw [iG, tV]
 by_cases h : z < 0
 ·rw [if_pos (by simpa using h)]; omega
 ·rw [if_neg (by simpa using h)]; omega
theorem aVR (n : Nat) : (1000000000 : Nat) ^ n ≤ 2 ^ (30 * n) := by
 rw [Nat.pow_mul]
 exact Nat.pow_le_pow_left (by decide) n
theorem aTM {z : Int} : z.natAbs ≤ 2 ^ (30 * (gr z.natAbs).length) := by
 have h1 := nO (gW z.natAbs)
 rw [iG] at h1
 have h2 := aVR (gr z.natAbs).length
 have h3 : ((1000000000 ^ (gr z.natAbs).length : Nat) : Int) = (1000000000 : Int) ^ (gr z.natAbs).length := by rw [Int.natCast_pow]; rfl
 omega
def RW.good (r : RW) : Prop := xV r.n1 r.g1 ∧ xV r.n2 r.g2 ∧ 0 < zI r.n2 r.g2 ∧ Int.gcd (zI r.n1 r.g1) (zI r.n2 r.g2) = 1
instance (r : RW) : Decidable r.good := by unfold RW.good; exact inferInstance
def RE.raw (e : RE) : RW := ⟨B (e.q.num < 0), e.p1, gr e.q.num.natAbs, e.c1, B ((e.q.den : Int) < 0), e.p2, gr (e.q.den : Int).natAbs, e.c2⟩
theorem RE.raw_good (e : RE) : e.raw.good := by
 refine ⟨aFB _, aFB _, ?_, ?_⟩
 ·show 0 < zI (B ((e.q.den : Int) < 0)) (gr (e.q.den : Int).natAbs)
  rw [aFC]; have := e.q.den_nz; omega
 ·show Int.gcd (zI (B (e.q.num < 0)) (gr e.q.num.natAbs)) (zI (B ((e.q.den : Int) < 0)) (gr (e.q.den : Int).natAbs)) = 1
  rw [aFC, aFC]
  exact e.q.reduced
theorem RE.fit {e : RE} {k : Nat} {X : List Nat} {w : World} (hk : k ≤ 1000000000000) (h : IsR e k X w) : IsW e.raw X w := by
 obtain ⟨q, c, h1, h2, h3, h4⟩ := h.num.ex
 obtain ⟨q', c', i1, i2, i3, i4⟩ := h.den.ex
 simp only [iv, Value.agg.injEq, Array.mk.injEq, List.cons.injEq, Value.slice.injEq, and_true, true_and] at h1 i1
 obtain ⟨rfl, rfl⟩ := h1
 obtain ⟨rfl, rfl⟩ := i1
 have a1 := jU h3 hk
 have a2 := jU i3 hk
 exact ⟨⟨fun x hx => (gW _ x hx).1, fun x hx => (gW _ x hx).1, by show ((gr e.q.num.natAbs).length : Int) ≤ _; omega, by show ((gr (e.q.den : Int).natAbs).length : Int) ≤ _; omega, h2, i2⟩, h4, i4⟩
section
variable {X : List Nat} {w0 : World} {M0 : List Ent} {I0 : List aT}
theorem aPM {P : Program} {f : FuncId} {vs : List Value} {K : Value → Prop} {r : RW} (h : Hv I0 (isW r)) (c : r.Fit → CD P f vs X w0 M0 (aR r.p1 (recs eG r.g1) :: aR r.p2 (recs eG r.g2) :: I0) (fun v M I => M0 = M ∧ aR r.p1 (recs eG r.g1) :: aR r.p2 (recs eG r.g2) :: I0 = I ∧ K v)) :
  CD P f vs X w0 M0 I0 (fun v M I => M0 = M ∧ I0 = I ∧ K v) := ⟨fun w hw => by
 have hr : IsW r (muts M0) w := h.go _ _ (fun ψ hm => (hw.imm ψ hm).2)
 have hw' := (hw.add (φ := aR r.p2 (recs eG r.g2)) ⟨hr.s2⟩).add (φ := aR r.p1 (recs eG r.g1)) ⟨hr.s1⟩
 refine ((c hr.fit).go w hw').mono (fun _ _ h => ?_)
 obtain ⟨_, _, ⟨rfl, rfl, h3⟩, hm⟩ := h
 exact ⟨_, _, ⟨rfl, rfl, h3⟩, hm.inc (Inc.wk (Inc.wk Inc.refl))⟩⟩
theorem aDF {P : Program} {f : FuncId} {vs : List Value} {K : Value → Prop} {p : Option Addr} {c k : Nat} {z : Int} (hs : aR p (recs eG (gr z.natAbs)) ∈ I0) (hc : Cap p (gr z.natAbs).length c) (hk : 30 * (gr z.natAbs).length ≤ k) (h : CD P f vs X w0 M0 (kR (vI p c z) z k :: I0) (fun v M I => M0 = M ∧ kR (vI p c z) z k :: I0 = I ∧ K v)) :
  CD P f vs X w0 M0 I0 (fun v M I => M0 = M ∧ I0 = I ∧ K v) := ⟨fun w hw => by
 have hw' := aOX hw hs hc (Nat.le_trans aTM (Nat.pow_le_pow_right (by decide) hk))
 refine (h.go w hw').mono (fun _ _ h => ?_)
 obtain ⟨_, _, ⟨rfl, rfl, h3⟩, hm⟩ := h
 exact ⟨_, _, ⟨rfl, rfl, h3⟩, hm.inc (Inc.wk Inc.refl)⟩⟩
theorem aVN (n : Nat) : (jO (n : Int) 1 = 0) ↔ n = 1 := by
 unfold jO
 split
 ·omega
 ·split <;> omega
theorem aIO {p1 p2 : Option Addr} {c1 c2 k : Nat} {y z : Int} (hk : k ≤ 500000000000) (h1 : kR (vI p1 c1 y) y k ∈ I0) (h2 : kR (vI p2 c2 z) z k ∈ I0) :
  CD Tryz.prog 196 [.agg #[.bool (B (y < 0)), .slice p1 (gr y.natAbs).length c1, .bool (B (z < 0)), .slice p2 (gr z.natAbs).length c2]] X w0 M0 I0 (fun v M I => M0 = M ∧ I0 = I ∧ v = .bool (B (0 < z ∧ Int.gcd y z = 1))) := by
 have hV1 := fun M0 I0 h => pX (X := X) (w0 := w0) (M0 := M0) (I0 := I0) (u := vI p1 c1 y) (z := y) (k := k) (by omega) h
 have hV2 := fun M0 I0 h => pX (X := X) (w0 := w0) (M0 := M0) (I0 := I0) (u := vI p2 c2 z) (z := z) (k := k) (by omega) h
 have hS := fun M0 I0 => oO (X := X) (w0 := w0) (M0 := M0) (I0 := I0) (u := vI p2 c2 z) (z := z) (k := k) (by omega)
 have hs : z.sign ≤ 0 ↔ ¬ 0 < z := by rw [← Int.sign_pos_iff]; omega
 have hG := fun M0 I0 => aFO (X := X) (w0 := w0) (M0 := M0) (I0 := I0) (u := vI p1 c1 y) (v := vI p2 c2 z) (y := y) (z := z) (k0 := k) (m := k) (by omega) (by omega)
 generalize hg : Int.gcd y z = g at *
 have hC := fun u v M0 I0 => vV (X := X) (w0 := w0) (M0 := M0) (I0 := I0) (u := u) (v := v) (y := g) (z := 1) (k := k + k) (m := 63) (by omega) (by omega)
 have hc := aVN g
 generalize jO (g : Int) 1 = cv at *
 generalize z.sign = sz at *
 refine bN Tryz.func196 rfl Tryz.ntmps196 rfl ?_
 refine aH ?_
 refine aI ?_
 (refine aV rfl rfl rfl ?_; intro b; refine ⟨okF, ?_⟩)
 repeat (refine eU ?_)
 (refine aA rfl (hV1 _ _ aB) rfl rfl ?_; rintro _ _ _ ⟨rfl, rfl, rfl⟩; refine ⟨okF, ?_⟩)
 repeat (refine eU ?_)
 (refine aA rfl (hV2 _ _ aB) rfl rfl ?_; rintro _ _ _ ⟨rfl, rfl, rfl⟩; refine ⟨okF, ?_⟩)
 repeat (refine eU ?_)
 (refine aA rfl (hS _ _ aB) rfl rfl ?_; rintro _ _ _ ⟨rfl, rfl, rfl⟩; refine ⟨okF, ?_⟩)
 repeat' (first | refine eU ?_ | refine bR rfl (fun h => ?_) (fun h => ?_) | refine bQ rfl rfl (fun h => ?_) (fun h => ?_) | fail)
 ·refine aM (by first | exact .inl rfl | exact .inr rfl) rfl rfl _ _ aG aD (⟨rfl, rfl, congrArg Value.bool (dP (fun e => hs.1 (by assumption) e.1)).symm⟩)
 (refine aA rfl (hG _ _ aB aB) rfl rfl ?_; rintro _ _ _ ⟨rfl, rfl⟩; refine ⟨okF, ?_⟩)
 repeat (refine eU ?_)
 (refine aA rfl (aBX (x := 1) (by decide)) rfl rfl ?_; rintro _ _ _ ⟨rfl, rfl⟩; refine ⟨okF, ?_⟩)
 (refine aA rfl (hC _ _ _ _ aB aB) rfl rfl ?_; rintro _ _ _ ⟨rfl, rfl, rfl⟩; refine ⟨okF, ?_⟩)
 repeat (refine eU ?_)
 refine aM (by first | exact .inl rfl | exact .inr rfl) rfl rfl _ _ aG aD (⟨rfl, rfl, congrArg Value.bool (lF ⟨fun e => ⟨by omega, hc.1 e⟩, fun e => hc.2 e.2⟩)⟩)
theorem aNJ {r : RW} (hl : r.g1.length ≤ 1000000000 ∧ r.g2.length ≤ 1000000000) (h : Hv I0 (isW r)) :
  CD Tryz.prog 196 [wv r] X w0 M0 I0 (fun v M I => M0 = M ∧ I0 = I ∧ v = .bool (B r.good)) := by
 refine aPM h (fun hf => ?_)
 obtain ⟨n1, p1, g1, c1, n2, p2, g2, c2⟩ := r
 simp only at hl
 by_cases k1 : xV n1 g1
 ·by_cases k2 : xV n2 g2
  ·obtain ⟨a1, a2⟩ := aLO k1 hf.u1
   obtain ⟨b1, b2⟩ := aLO k2 hf.u2
   have hg : (RW.mk n1 p1 g1 c1 n2 p2 g2 c2).good ↔ (0 < zI n2 g2 ∧ Int.gcd (zI n1 g1) (zI n2 g2) = 1) := ⟨fun h => h.2.2, fun h => ⟨k1, k2, h⟩⟩
   rw [lF hg]
   generalize zI n1 g1 = y at *
   generalize zI n2 g2 = z at *
   subst a1; subst a2; subst b1; subst b2
   refine aDF (p := p1) (c := c1) (z := y) (k := 30000000000) (List.Mem.head _) hf.k1 (by omega) ?_
   refine aDF (p := p2) (c := c2) (z := z) (k := 30000000000) (List.Mem.tail _ (List.Mem.tail _ (List.Mem.head _))) hf.k2 (by omega) ?_
   exact aIO (by omega) (List.Mem.tail _ (List.Mem.head _)) (List.Mem.head _)
  ·have hg : ¬ (RW.mk n1 p1 g1 c1 n2 p2 g2 c2).good := fun h => k2 h.2.1
   rw [dP hg]
   have hV1 := fun M0 I0 => tY (X := X) (w0 := w0) (M0 := M0) (I0 := I0) (neg := n1) (q := p1) (gs := g1) (c := c1) hf.l1
   have hV2 := fun M0 I0 => tY (X := X) (w0 := w0) (M0 := M0) (I0 := I0) (neg := n2) (q := p2) (gs := g2) (c := c2) hf.l2
   rw [bV k1] at hV1
   rw [dP k2] at hV2
   refine bN Tryz.func196 rfl Tryz.ntmps196 rfl ?_
   refine aH ?_
   refine aI ?_
   (refine aV rfl rfl rfl ?_; intro b; refine ⟨okF, ?_⟩)
   repeat (refine eU ?_)
   (refine aA rfl (hV1 _ _ aB) rfl rfl ?_; rintro _ _ _ ⟨rfl, rfl, rfl⟩; refine ⟨okF, ?_⟩)
   repeat (refine eU ?_)
   (refine aA rfl (hV2 _ _ aB) rfl rfl ?_; rintro _ _ _ ⟨rfl, rfl, rfl⟩; refine ⟨okF, ?_⟩)
   repeat (refine eU ?_)
   refine aM (by first | exact .inl rfl | exact .inr rfl) rfl rfl _ _ aG aD (⟨rfl, rfl, rfl⟩)
 ·have hg : ¬ (RW.mk n1 p1 g1 c1 n2 p2 g2 c2).good := fun h => k1 h.1
  rw [dP hg]
  have hV1 := fun M0 I0 => tY (X := X) (w0 := w0) (M0 := M0) (I0 := I0) (neg := n1) (q := p1) (gs := g1) (c := c1) hf.l1
  rw [dP k1] at hV1
  refine bN Tryz.func196 rfl Tryz.ntmps196 rfl ?_
  refine aH ?_
  refine aI ?_
  (refine aV rfl rfl rfl ?_; intro b; refine ⟨okF, ?_⟩)
  repeat (refine eU ?_)
  (refine aA rfl (hV1 _ _ aB) rfl rfl ?_; rintro _ _ _ ⟨rfl, rfl, rfl⟩; refine ⟨okF, ?_⟩)
  repeat (refine eU ?_)
  refine aM (by first | exact .inl rfl | exact .inr rfl) rfl rfl _ _ aG aD (⟨rfl, rfl, rfl⟩)
end
end Go.Proofs.YtjbhdfpjnjedhaaGreat
namespace Go.Proofs.YtjbhdfpjnjedhaaGreat
open Go Go.Fx
structure RL where
 p : Option Addr
 c : Nat
 es : List RE
instance : Inhabited RL := ⟨⟨none, 0, []⟩⟩
abbrev eL (r : RL) : List Value := [.slice r.p r.es.length r.c]
abbrev lv (r : RL) : Value := .slice r.p r.es.length r.c
instance : Sized eL 1 := ⟨fun _ => rfl⟩
instance : Ones eL := ⟨fun m u hu => by simp only [eL, List.mem_cons, List.not_mem_nil, or_false] at hu; subst hu; rfl⟩
structure IsL (r : RL) (k : Nat) (X : List Nat) (w : World) : Prop where
 sl : Sl X w r.p (recs eR r.es)
 el : ∀ e ∈ r.es, IsR e k X w
 cap : Cap r.p r.es.length r.c
abbrev nT (r : RL) (k : Nat) : aT := IsL r k
instance (r : RL) (k : Nat) : Fx.Good (IsL r k) := ⟨fun X Y w w' h he hY => ⟨Sl.carry h.sl he hY, fun e hm => Fx.Good.go (φ := IsR _ _) X Y w w' (h.el e hm) he hY, h.cap⟩⟩
abbrev RL.q (r : RL) : List Rat := qs r.es
structure MX where
 p : Option Addr
 c : Nat
 rows : List RL
instance : Inhabited MX := ⟨⟨none, 0, []⟩⟩
abbrev eMX (m : MX) : List Value := [.slice m.p m.rows.length m.c]
abbrev mv (m : MX) : Value := .slice m.p m.rows.length m.c
instance : Sized eMX 1 := ⟨fun _ => rfl⟩
instance : Ones eMX := ⟨fun m u hu => by simp only [eMX, List.mem_cons, List.not_mem_nil, or_false] at hu; subst hu; rfl⟩
structure IsX (m : MX) (k : Nat) (X : List Nat) (w : World) : Prop where
 sl : Sl X w m.p (recs eL m.rows)
 row : ∀ r ∈ m.rows, IsL r k X w
 cap : Cap m.p m.rows.length m.c
abbrev lT (m : MX) (k : Nat) : aT := IsX m k
instance (m : MX) (k : Nat) : Fx.Good (IsX m k) := ⟨fun X Y w w' h he hY => ⟨Sl.carry h.sl he hY, fun e hm => Fx.Good.go (φ := IsL _ _) X Y w w' (h.row e hm) he hY, h.cap⟩⟩
abbrev MX.q (m : MX) : Mt := m.rows.map RL.q
def MX.dim (m : MX) (R C : Nat) : Prop := m.rows.length = R ∧ ∀ r ∈ m.rows, r.es.length = C
theorem MX.dim.row {m : MX} {R C : Nat} (h : m.dim R C) {i : Nat} (hi : i < R) : (gt m.rows (i : Int)).es.length = C := h.2 _ (eP ⟨by omega, by have := h.1; omega⟩)
/- what follows from the facts -/
theorem Hv.xsl {I : List aT} {m : MX} {k : Nat} (h : lT m k ∈ I) : Hv I (aR m.p (recs eL m.rows)) := ⟨fun X w hw => ⟨(hw _ h : IsX m k X w).sl⟩⟩
theorem Hv.xrow {I : List aT} {m : MX} {k : Nat} {i : Int} (h : lT m k ∈ I) (hi : 0 ≤ i ∧ i < m.rows.length) : Hv I (nT (gt m.rows i) k) := ⟨fun X w hw => (hw _ h : IsX m k X w).row _ (eP hi)⟩
theorem Hv.xrsl {I : List aT} {m : MX} {k : Nat} {i : Int} (h : lT m k ∈ I) (hi : 0 ≤ i ∧ i < m.rows.length) : Hv I (aR (gt m.rows i).p (recs eR (gt m.rows i).es)) := ⟨fun X w hw => ⟨((hw _ h : IsX m k X w).row _ (eP hi)).sl⟩⟩
theorem Hv.xel {I : List aT} {m : MX} {k : Nat} {i j : Int} (h : lT m k ∈ I) (hi : 0 ≤ i ∧ i < m.rows.length) (hj : 0 ≤ j ∧ j < (gt m.rows i).es.length) : Hv I (gQ (gt (gt m.rows i).es j) k) := ⟨fun X w hw => ((hw _ h : IsX m k X w).row _ (eP hi)).el _ (eP hj)⟩
theorem Hv.lsl {I : List aT} {r : RL} {k : Nat} (h : nT r k ∈ I) : Hv I (aR r.p (recs eR r.es)) := ⟨fun X w hw => ⟨(hw _ h : IsL r k X w).sl⟩⟩
theorem Hv.lel {I : List aT} {r : RL} {k : Nat} {j : Int} (h : nT r k ∈ I) (hj : 0 ≤ j ∧ j < r.es.length) : Hv I (gQ (gt r.es j) k) := ⟨fun X w hw => (hw _ h : IsL r k X w).el _ (eP hj)⟩
theorem IsL.mono {r : RL} {k m : Nat} {X : List Nat} {w : World} (h : IsL r k X w) (hk : k ≤ m) : IsL r m X w := ⟨h.sl, fun e he => (h.el e he).mono hk, h.cap⟩
theorem IsX.mono {x : MX} {k m : Nat} {X : List Nat} {w : World} (h : IsX x k X w) (hk : k ≤ m) : IsX x m X w := ⟨h.sl, fun e he => (h.row e he).mono hk, h.cap⟩
theorem Hv.lm {I : List aT} {r : RL} {k m : Nat} (h : nT r k ∈ I) (hk : k ≤ m) : Hv I (nT r m) := ⟨fun X w hw => IsL.mono (hw _ h) hk⟩
theorem Hv.xm {I : List aT} {r : MX} {k m : Nat} (h : lT r k ∈ I) (hk : k ≤ m) : Hv I (lT r m) := ⟨fun X w hw => IsX.mono (hw _ h) hk⟩
/- the posts -/
def XQ (A : Mt) (R C k : Nat) (M0 : List Ent) (I0 : List aT) (v : Value) (M : List Ent) (I : List aT) : Prop := M0 = M ∧ ∃ m : MX, v = mv m ∧ m.q = A ∧ m.dim R C ∧ I = lT m k :: I0
def XQc (A : Mt) (R C k : Nat) (M0 : List Ent) (I0 : List aT) (v : Value) (M : List Ent) (I : List aT) : Prop := M0 = M ∧ ∃ m : MX, v = .tuple #[mv m, .int .i64 0] ∧ m.q = A ∧ m.dim R C ∧ I = lT m k :: I0
def LQ (l : List Rat) (k : Nat) (M0 : List Ent) (I0 : List aT) (v : Value) (M : List Ent) (I : List aT) : Prop := M0 = M ∧ ∃ r : RL, v = lv r ∧ r.q = l ∧ I = nT r k :: I0
def LQc (l : List Rat) (k : Nat) (M0 : List Ent) (I0 : List aT) (v : Value) (M : List Ent) (I : List aT) : Prop := M0 = M ∧ ∃ r : RL, v = .tuple #[lv r, .int .i64 0] ∧ r.q = l ∧ I = nT r k :: I0
def mkM (R C : Nat) (F : Nat → Nat → Rat) : Mt := (List.range R).map (fun i => (List.range C).map (F i))
theorem uL {R C : Nat} {F : Nat → Nat → Rat} {i j : Nat} (hi : i < R) (hj : j < C) : at2 (mkM R C F) i j = F i j := by
 unfold at2 rowAt mkM
 simp [List.getD, hi, hj]
theorem aNS {R C : Nat} {F G : Nat → Nat → Rat} (h : ∀ i j, i < R → j < C → F i j = G i j) : mkM R C F = mkM R C G := by
 unfold mkM
 apply List.map_congr_left
 intro i hi
 apply List.map_congr_left
 intro j hj
 exact h i j (List.mem_range.1 hi) (List.mem_range.1 hj)
theorem aDW {m : MX} {i j : Nat} (hi : i < m.rows.length) (hj : j < (gt m.rows (i : Int)).es.length) : at2 m.q i j = (gt (gt m.rows (i : Int)).es (j : Int)).q := by
 rw [gN hi] at hj
 unfold at2 rowAt
 rw [gN hi, gN hj]
 simp [List.getD, hi, hj]
theorem MX.dim.mk {m : MX} {R C : Nat} (h : m.dim R C) : m.q = mkM R C (at2 m.q) := by
 apply List.ext_getElem
 ·simp [mkM, h.1]
 ·intro i h1 h2
  have hi : i < m.rows.length := by simpa using h1
  have hc := h.2 _ (List.getElem_mem hi)
  apply List.ext_getElem
  ·simp [mkM, hc]
  ·intro j h3 h4
   have hj : j < (m.rows[i]).es.length := by simpa using h3
   simp only [mkM, List.getElem_map, List.getElem_range]
   rw [aDW hi (by rw [gN hi]; exact hj), gN hi, gN hj]
/- a matrix made is a matrix that is read -/
def MR.l (r : MR) : RL := ⟨some ⟨r.b, 0, none⟩, r.es.length, r.es⟩
theorem yT {X : List Nat} {w0 w : World} {k : Nat} : ∀ {rows : List MR} {M : List Ent} {I : List aT}, Mem X w0 (rows.map gJ ++ M) I w → (∀ r ∈ rows, AllR r.es k (muts (rows.map gJ ++ M)) w) → ∃ I', (∀ φ ∈ I, φ ∈ I') ∧ (∀ r ∈ rows, nT r.l k ∈ I') ∧ Mem X w0 M I' w
 | [], M, I, h, _ => ⟨I, fun _ h => h, fun r hr => by simp at hr, h⟩
 | r :: rows, M, I, h, ha => by
  have h1 : Mem X w0 (rows.map gJ ++ M) (aR (some ⟨r.b, 0, none⟩) (recs eR r.es) :: I) w := h.freezeB .here
  have hsub : ∀ y ∈ muts (rows.map gJ ++ M), y ∈ muts ((r :: rows).map gJ ++ M) := fun y hy => by simp [muts] at hy ⊢; right; exact hy
  have h2 : IsL r.l k (muts (rows.map gJ ++ M)) w := by
   refine ⟨(h1.sl (List.Mem.head _)), fun e he => ?_, Nat.le_refl _, .inl (Ok.mk _ _)⟩
   exact Fx.Good.go (φ := IsR _ _) _ _ w w ((ha r (List.Mem.head _)).go e he) (Ext.refl _ _) (fun y hy => .inl (hsub y hy))
  obtain ⟨I', i1, i2, i3⟩ := yT (h1.add (φ := nT r.l k) h2) (fun s hs => ⟨fun e he => Fx.Good.go (φ := IsR _ _) _ _ w w ((ha s (List.Mem.tail _ hs)).go e he) (Ext.refl _ _) (fun y hy => .inl (hsub y hy))⟩)
  refine ⟨I', fun φ hφ => i1 φ (List.Mem.tail _ (List.Mem.tail _ hφ)), fun s hs => ?_, i3⟩
  rcases List.mem_cons.1 hs with rfl | hs
  ·exact i1 _ (List.Mem.head _)
  ·exact i2 s hs
def MR.x (bo : Nat) (rows : List MR) : MX := ⟨some ⟨bo, 0, none⟩, rows.length, rows.map MR.l⟩
theorem aYR (rows : List MR) : recs eL (rows.map MR.l) = recs eM rows := by
 induction rows with
 | nil => rfl
 | cons x r ih =>
  have h1 : recs eL ((x :: r).map MR.l) = eL x.l ++ recs eL (r.map MR.l) := rfl
  have h2 : recs eM (x :: r) = eM x ++ recs eM r := rfl
  rw [h1, h2, ih]
  rfl
theorem q_x (bo : Nat) (rows : List MR) : (MR.x bo rows).q = mq rows := by
 unfold MR.x
 simp [MX.q, MR.l, Function.comp_def]
theorem aKP {X : List Nat} {w0 w : World} {k bo : Nat} {rows : List MR} {M : List Ent} {I : List aT} (h : Mem X w0 (.blk bo (recs eM rows) 53 :: (rows.map gJ ++ M)) I w) (ha : allM rows k ∈ I) : Mem X w0 M (lT (MR.x bo rows) k :: I) w := by
 have h0 : Mem X w0 (rows.map gJ ++ M) (aR (some ⟨bo, 0, none⟩) (recs eM rows) :: I) w := h.freezeB .here
 obtain ⟨I', i1, i2, i3⟩ := yT (k := k) h0 (fun r hr => ⟨fun e he => ((h0.imm _ (List.Mem.tail _ ha)).2 : AllM rows k _ w).go r hr e he⟩)
 have h3 : IsX (MR.x bo rows) k (muts M) w := by
  refine ⟨?_, fun r hr => ?_, ?_⟩
  ·rw [show (MR.x bo rows).rows = rows.map MR.l from rfl, aYR]; exact i3.sl (i1 _ (List.Mem.head _))
  ·obtain ⟨s, hs, rfl⟩ := List.mem_map.1 hr
   exact (i3.imm _ (i2 s hs)).2
  ·show Cap (some ⟨bo, 0, none⟩) (rows.map MR.l).length rows.length
   rw [List.length_map]; exact ⟨Nat.le_refl _, .inl (Ok.mk _ _)⟩
 exact (i3.add (φ := lT (MR.x bo rows) k) h3).inc (.of fun φ hφ => by
  rcases List.mem_cons.1 hφ with rfl | hφ
  ·exact List.Mem.head _
  ·exact List.Mem.tail _ (i1 _ (List.Mem.tail _ hφ)))
section
variable {X : List Nat} {w0 : World} {M0 : List Ent} {I0 : List aT}
theorem aHQ {g : FuncId} [FnOk Tryz.prog g] {fs cs : Array Value} {R C k0 : Nat} (hR : R ≤ 100) (hC : C ≤ 200) (F : Nat → Nat → Rat)
  (hg : ∀ M I, (∀ φ ∈ I0, φ ∈ I) → ∀ i j : Nat, i < R → j < C → CD Tryz.prog g (fs.toList ++ [.int .i64 (i : Int), .int .i64 (j : Int)] ++ cs.toList) X w0 M I (RQ (F i j) k0 M I)) :
  CD Tryz.prog 175 [.int .i64 (R : Int), .int .i64 (C : Int), .func (.func g) fs cs] X w0 M0 I0 (XQ (mkM R C F) R C k0 M0 I0) := by
 refine CD.post (aAF hR hC F hg) (fun v M I w h hw => ?_)
 obtain ⟨bo, rows, rfl, hl, hc, hF, rfl, rfl⟩ := h
 refine ⟨M0, lT (MR.x bo rows) k0 :: I0, ⟨rfl, MR.x bo rows, ?_, ?_, ⟨by simp [MR.x, hl], fun r hr => ?_⟩, rfl⟩, (aKP hw (List.Mem.head _)).inc (.of fun φ hφ => by
  rcases List.mem_cons.1 hφ with rfl | hφ
  ·exact List.Mem.head _
  ·exact List.Mem.tail _ (List.Mem.tail _ hφ))⟩
 ·have e : (MR.x bo rows).rows.length = R := by show (rows.map MR.l).length = R; rw [List.length_map, hl]
  have e2 : (MR.x bo rows).c = R := hl
  show _ = Value.slice (MR.x bo rows).p (MR.x bo rows).rows.length (MR.x bo rows).c
  rw [e, e2]; rfl
 ·rw [q_x]; exact hF
 ·obtain ⟨s, hs, rfl⟩ := List.mem_map.1 hr
  exact hc s hs
end
end Go.Proofs.YtjbhdfpjnjedhaaGreat
namespace Go.Fx
section
variable {P : Program} {n : Nat} {G : Env} {ty : TypeId} {C : World → Prop}
theorem pV {t e : TypeId} {sz len b o : Nat} {x : Operand} [ht : ArrTy P t len e sz] (hx : ev G x = some (.pointer (some ⟨b, o, none⟩))) :
  Const P n G (.slice t x none none none) ty C (.slice (some ⟨b, o, none⟩) len len) := by
 refine ⟨?_⟩
 intro st ha dst pos after guard w _
 by_cases h : len = 0
 ·subst h
  simp [execOp, Instr.sliceAt, ha.ev hx, fE ht.und, run_sizeOf ht.size, Instr.sliceBounds, Instr.sureAddr]
 ·simp [execOp, Instr.sliceAt, ha.ev hx, fE ht.und, run_sizeOf ht.size, Instr.sliceBounds, Instr.sureAddr, h, add_lit]
theorem aJG {t e : TypeId} {sz len m c : Nat} {p : Option Addr} {x : Operand} [ht : ArrTy P t len e sz] (hx : ev G x = some (.slice p m c)) (hl : len ≤ m) :
  Const P n G (.sliceToArrayPointer t x) ty C (.pointer p) := by
 refine ⟨?_⟩
 intro st ha dst pos after guard w _
 simp [execOp, Instr.arrayAt, ha.ev hx, fE ht.und, Nat.not_lt.2 hl]
theorem rW {t e : TypeId} {sz len sz' by_ : Nat} {z : List Value} {parts : List (Nat × Operand)} {pvs : List (Nat × Value)} {cells : List Value} [ht : ArrTy P t len e sz] [hz : ElemTy P t sz' by_ z]
  (hp : parts.map (fun p => (p.1, ev G p.2)) = pvs.map (fun p => (p.1, some p.2)))
  (hf : Instr.fill (fun i => some (i * sz, sz)) z.toArray pvs = some cells.toArray) : Const P n G (.build t parts.toArray) ty C (.agg cells.toArray) := by
 refine yM hp fun w => ?_
 obtain ⟨i, hi, h3⟩ := Option.map_eq_some_iff.1 hz.info
 simp only [Prod.mk.injEq] at h3
 obtain ⟨h4, h5, h6⟩ := h3
 obtain ⟨v, hv, hc⟩ := Option.map_eq_some_iff.1 h6
 have hzv : (zeroValue t).run P w = .ok v w := by simp [zeroValue, typeInfo, hi, hv]
 unfold Instr.build
 rw [Sem.run_bind, hzv, Result.andThen_ok, Sem.run_bind, fE ht.und, Result.andThen_ok]
 simp only [Sem.run_bind, run_sizeOf ht.size, Result.andThen_ok, hc, hf]
 rfl
theorem wK {t e : TypeId} {sz len sz' : Nat} {x ix : Operand} {cs vs : List Value} {k : IntKind} {i : Int} [ht : ArrTy P t len e sz] [he : AggTy P e sz'] (hx : ev G x = some (.agg cs.toArray)) (hi : ev G ix = some (.int k i)) (h : 0 ≤ i ∧ i < len)
  (hv : (cs.drop (i.toNat * sz)).take sz = vs) : Const P n G (.index t x ix) ty C (.agg vs.toArray) := by
 refine ⟨?_⟩
 intro st ha dst pos after guard w _
 simp [execOp, Instr.index, ha.ev hx, ha.ev hi, asIntOf, fE ht.und, h.1, h.2, part, mY, run_sizeOf ht.size, List.extract_eq_take_drop, hv]
end
def PlOk (place : Nat → Option (Nat × Nat)) : Nat → Nat → List Value → Prop
 | _, _, [] => True
 | k, off, v :: r => place k = some (off, v.cells.size) ∧ PlOk place (k + 1) (off + v.cells.size) r
def nL (vals : List Value) : List Value := vals.flatMap (fun v => v.cells.toList)
theorem yH (place : Nat → Option (Nat × Nat)) : ∀ (vals : List Value) (k : Nat) (pre : List Value) (base : Array Value), base.size = pre.length + (nL vals).length → base.toList.take pre.length = pre → PlOk place k pre.length vals →
  Instr.fill place base ((vals.zipIdx k).map (fun p => (p.2, p.1))) = some (pre ++ nL vals).toArray
 | [], k, pre, base, hb, ht, _ => by
  have : base.toList = pre := by
   rw [← ht, List.take_of_length_le]
   simp [hb, nL]
  simp [Instr.fill, nL, ← this]
 | v :: r, k, pre, base, hb, ht, hc => by
  obtain ⟨h1, h2⟩ := hc
  have hcl : nL (v :: r) = v.cells.toList ++ nL r := by simp [nL]
  have hcs : v.cells.toList.length = v.cells.size := by simp
  have hlt : pre.length + v.cells.size ≤ base.size := by
   rw [hb, hcl, List.length_append, hcs]; omega
  simp only [List.zipIdx_cons, List.map_cons, Instr.fill, h1]
  have hno : ¬ (v.cells.size ≠ v.cells.size ∨ pre.length + v.cells.size > base.size) := by omega
  have hf := yQ pre.length v.cells.toList base (by simp; omega)
  simp only [Array.toArray_toList] at hf
  simp only [Bool.or_eq_true, decide_eq_true_eq, hno, if_false, hf]
  rw [yH place r (k + 1) (pre ++ v.cells.toList) _ ?_ ?_ (by rw [List.length_append, hcs]; exact h2)]
  ·rw [hcl, List.append_assoc]
  ·simp only [List.size_toArray, List.length_append, List.length_take, List.length_drop, hcs, Array.length_toList]
   rw [hcl, List.length_append, hcs] at hb
   omega
  ·simp only [ht]
   rw [List.take_append_of_le_length (by simp), List.take_of_length_le (by simp)]
section
variable {P : Program} {n : Nat} {G : Env} {ty : TypeId} {C : World → Prop}
theorem jW {t : TypeId} {parts : List (Nat × Operand)} {vals cells : List Value} {places : List (Nat × Nat)} {z : List Value} [ht : StructTy P t places z]
  (hp : parts.map (fun p => (p.1, ev G p.2)) = vals.zipIdx.map (fun p => (p.2, some p.1))) (hpl : PlOk (places.toArray[·]?) 0 0 vals) (hc : nL vals = cells) (hz : z.length = cells.length) :
  Const P n G (.build t parts.toArray) ty C (.agg cells.toArray) := by
 refine aU (pvs := vals.zipIdx.map (fun p => (p.2, p.1))) (places := places) (z := z) (by rw [hp]; simp) ?_
 have := yH (places.toArray[·]?) vals 0 [] z.toArray (by simp [hc, hz]) (by simp) (by simpa using hpl)
 rw [hc] at this
 simpa using this
theorem fG {t e : TypeId} {sz len sz' by_ : Nat} {z : List Value} {parts : List (Nat × Operand)} {vals cells : List Value} [ht : ArrTy P t len e sz] [hz : ElemTy P t sz' by_ z]
  (hp : parts.map (fun p => (p.1, ev G p.2)) = vals.zipIdx.map (fun p => (p.2, some p.1))) (hs : ∀ v ∈ vals, v.cells.size = sz) (hc : nL vals = cells) (hl : z.length = vals.length * sz) :
  Const P n G (.build t parts.toArray) ty C (.agg cells.toArray) := by
 refine rW (pvs := vals.zipIdx.map (fun p => (p.2, p.1))) (by rw [hp]; simp) ?_
 have := aBK sz vals 0 [] z.toArray (by simp) (by simp [hl]) (by simp) hs
 have h2 : vals.flatMap (fun v => v.cells.toList) = cells := hc
 rw [h2] at this
 simpa using this
end
theorem qA {P : Program} {n : Nat} {G : Env} {ty : TypeId} {C : World → Prop} {t t' : TypeId} {x y : Operand} {a b : Bool} [ht : BoolTy P t] (hx : ev G x = some (.bool a)) (hy : ev G y = some (.bool b)) :
  Const P n G (.binOp .neq t x y t') ty C (.bool (!(a == b))) := by
 refine ⟨?_⟩
 intro s ha dst pos after guard w _
 have e1 : (eqGuard .neq t x y (.bool a) (.bool b)).run P w = .ok () w := rfl
 simp only [execOp, ha.ev hx, ha.ev hy, Sem.run_bind, e1, Result.andThen_ok, run_neq_bool _ t a b ht.und, Sem.run_pure]
theorem aDI {α : Type} [Inhabited α] {enc : α → List Value} {sz : Nat} [h : Sized enc sz] {ms : List α} {i : Int} (hi : 0 ≤ i ∧ i < ms.length) : ((recs enc ms).drop (i.toNat * sz)).take sz = enc (gt ms i) := by
 apply List.ext_getElem?
 intro j
 have hl := h.len (gt ms i)
 rw [List.getElem?_take]
 by_cases hj : j < sz
 ·rw [if_pos hj, List.getElem?_drop, List.getElem?_eq_getElem (by omega : j < (enc (gt ms i)).length)]
  exact wG ms i.toNat j _ _ (aEY hi) (List.getElem?_eq_getElem (by omega))
 ·rw [if_neg hj, List.getElem?_eq_none (by omega)]
theorem AtsZ.n8 {cs : List Value} {o : Nat} {a b c d e f g h : Value} (h0 : cs[o]? = some a) (h1 : cs[o + 1]? = some b) (h2 : cs[o + 2]? = some c) (h3 : cs[o + 3]? = some d) (h4 : cs[o + 4]? = some e) (h5 : cs[o + 5]? = some f) (h6 : cs[o + 6]? = some g) (h7 : cs[o + 7]? = some h) : AtsZ cs o [a, b, c, d, e, f, g, h] 8 := ⟨⟨fun j v hj => by
 match j, hj with
 | 0, hj => simp at hj; subst hj; exact h0
 | 1, hj => simp at hj; subst hj; exact h1
 | 2, hj => simp at hj; subst hj; exact h2
 | 3, hj => simp at hj; subst hj; exact h3
 | 4, hj => simp at hj; subst hj; exact h4
 | 5, hj => simp at hj; subst hj; exact h5
 | 6, hj => simp at hj; subst hj; exact h6
 | 7, hj => simp at hj; subst hj; exact h7
 | j + 8, hj => simp at hj⟩, rfl⟩
theorem yR {cs vs : List Value} {o sz : Nat} (h : AtsZ cs o vs sz := by first | (with_reducible refine AtsZ.r ?_; exact iA) | (with_reducible refine AtsZ.r2 ?_ ?_ ?_; exact iA; rfl; rfl) | (with_reducible refine AtsZ.r4 ?_ ?_ ?_ ?_ ?_; exact iA; rfl; rfl; rfl; rfl) | exact AtsZ.all rfl | exact AtsZ.n2 rfl rfl | exact AtsZ.n4 rfl rfl rfl rfl | exact AtsZ.n8 rfl rfl rfl rfl rfl rfl rfl rfl | (refine AtsZ.r ?_; exact iA) | (refine AtsZ.app ?_; refine AtsZ.r ?_; exact iA)) : AtsZ cs o vs sz := h
end Go.Fx
namespace Go.Proofs.YtjbhdfpjnjedhaaGreat
open Go Go.Fx
structure WL where
 p : Option Addr
 c : Nat
 es : List RW
instance : Inhabited WL := ⟨⟨none, 0, []⟩⟩
abbrev eWL (r : WL) : List Value := [.slice r.p r.es.length r.c]
abbrev lvW (r : WL) : Value := .slice r.p r.es.length r.c
instance : Sized eWL 1 := ⟨fun _ => rfl⟩
instance : Ones eWL := ⟨fun m u hu => by simp only [eWL, List.mem_cons, List.not_mem_nil, or_false] at hu; subst hu; rfl⟩
structure IsWL (r : WL) (X : List Nat) (w : World) : Prop where
 sl : Sl X w r.p (recs eW r.es)
 el : ∀ e ∈ r.es, IsW e X w
 cap : Cap r.p r.es.length r.c
abbrev aCP (r : WL) : aT := IsWL r
instance (r : WL) : Fx.Good (IsWL r) := ⟨fun X Y w w' h he hY => ⟨Sl.carry h.sl he hY, fun e hm => Fx.Good.go (φ := IsW _) X Y w w' (h.el e hm) he hY, h.cap⟩⟩
structure WM where
 p : Option Addr
 c : Nat
 rows : List WL
instance : Inhabited WM := ⟨⟨none, 0, []⟩⟩
abbrev eWM (m : WM) : List Value := [.slice m.p m.rows.length m.c]
abbrev mvW (m : WM) : Value := .slice m.p m.rows.length m.c
instance : Sized eWM 1 := ⟨fun _ => rfl⟩
instance : Ones eWM := ⟨fun m u hu => by simp only [eWM, List.mem_cons, List.not_mem_nil, or_false] at hu; subst hu; rfl⟩
structure IsWM (m : WM) (X : List Nat) (w : World) : Prop where
 sl : Sl X w m.p (recs eWL m.rows)
 row : ∀ r ∈ m.rows, IsWL r X w
 cap : Cap m.p m.rows.length m.c
abbrev zJ (m : WM) : aT := IsWM m
instance (m : WM) : Fx.Good (IsWM m) := ⟨fun X Y w w' h he hY => ⟨Sl.carry h.sl he hY, fun e hm => Fx.Good.go (φ := IsWL _) X Y w w' (h.row e hm) he hY, h.cap⟩⟩
structure AllWM (ms : List WM) (X : List Nat) (w : World) : Prop where
 go : ∀ m ∈ ms, IsWM m X w
abbrev allWM (ms : List WM) : aT := AllWM ms
instance (ms : List WM) : Fx.Good (AllWM ms) := ⟨fun X Y w w' h he hY => ⟨fun m hm => Fx.Good.go (φ := IsWM _) X Y w w' (h.go m hm) he hY⟩⟩
theorem Hv.wlsl {I : List aT} {r : WL} (h : aCP r ∈ I) : Hv I (aR r.p (recs eW r.es)) := ⟨fun X w hw => ⟨(hw _ h : IsWL r X w).sl⟩⟩
theorem Hv.wlel {I : List aT} {r : WL} {j : Int} (h : aCP r ∈ I) (hj : 0 ≤ j ∧ j < r.es.length) : Hv I (isW (gt r.es j)) := ⟨fun X w hw => (hw _ h : IsWL r X w).el _ (eP hj)⟩
theorem Hv.wmsl {I : List aT} {m : WM} (h : zJ m ∈ I) : Hv I (aR m.p (recs eWL m.rows)) := ⟨fun X w hw => ⟨(hw _ h : IsWM m X w).sl⟩⟩
theorem Hv.wmrow {I : List aT} {m : WM} {i : Int} (h : zJ m ∈ I) (hi : 0 ≤ i ∧ i < m.rows.length) : Hv I (aCP (gt m.rows i)) := ⟨fun X w hw => (hw _ h : IsWM m X w).row _ (eP hi)⟩
/- short numbers, canonical ones, matrices -/
def RW.brief (r : RW) : Prop := r.g1.length ≤ 1 ∧ r.g2.length ≤ 1 ∧ (r.g1.length = 0 ∨ gt r.g1 0 < 100000) ∧ (r.g2.length = 0 ∨ gt r.g2 0 ≤ 100)
instance (r : RW) : Decidable r.brief := by unfold RW.brief; exact inferInstance
def RW.sml (r : RW) : Prop := r.g1.length ≤ 1000000000 ∧ r.g2.length ≤ 1000000000
def WL.sht (r : WL) : Prop := r.es.length ≤ 6 ∧ ∀ e ∈ r.es, e.brief
instance (r : WL) : Decidable r.sht := by unfold WL.sht; exact inferInstance
def WL.sml (r : WL) : Prop := r.es.length ≤ 1000000000 ∧ ∀ e ∈ r.es, e.sml
def WL.good (r : WL) : Prop := ∀ e ∈ r.es, e.good
instance (r : WL) : Decidable r.good := by unfold WL.good; exact inferInstance
def WM.sht (m : WM) : Prop := m.rows.length ≤ 6 ∧ ∀ r ∈ m.rows, r.sht
instance (m : WM) : Decidable m.sht := by unfold WM.sht; exact inferInstance
def WM.sml (m : WM) : Prop := m.rows.length ≤ 1000000000 ∧ ∀ r ∈ m.rows, r.sml
def WM.ok (m : WM) : Prop := (1 ≤ m.rows.length ∧ m.rows.length ≤ 64 ∧ 1 ≤ (gt m.rows 0).es.length ∧ (gt m.rows 0).es.length ≤ 64) ∧ ∀ r ∈ m.rows, r.es.length = (gt m.rows 0).es.length ∧ r.good
instance (m : WM) : Decidable m.ok := by unfold WM.ok; exact inferInstance
/- of canonical numbers -/
def RL.raw (r : RL) : WL := ⟨r.p, r.c, r.es.map RE.raw⟩
def MX.raw (m : MX) : WM := ⟨m.p, m.c, m.rows.map RL.raw⟩
theorem aQV (es : List RE) : recs eW (es.map RE.raw) = recs eR es := by
 induction es with
 | nil => rfl
 | cons x r ih =>
  have h1 : recs eW ((x :: r).map RE.raw) = eW x.raw ++ recs eW (r.map RE.raw) := rfl
  have h2 : recs eR (x :: r) = eR x ++ recs eR r := rfl
  rw [h1, h2, ih]; rfl
theorem aNM (rows : List RL) : recs eWL (rows.map RL.raw) = recs eL rows := by
 induction rows with
 | nil => rfl
 | cons x r ih =>
  have h1 : recs eWL ((x :: r).map RL.raw) = eWL x.raw ++ recs eWL (r.map RL.raw) := rfl
  have h2 : recs eL (x :: r) = eL x ++ recs eL r := rfl
  rw [h1, h2, ih]
  show [Value.slice x.p (x.es.map RE.raw).length x.c] ++ _ = [Value.slice x.p x.es.length x.c] ++ _
  rw [List.length_map]
theorem aYH (r : RL) : lvW r.raw = lv r := by show Value.slice r.p (r.es.map RE.raw).length r.c = _; rw [List.length_map]
theorem aJY (m : MX) : mvW m.raw = mv m := by show Value.slice m.p (m.rows.map RL.raw).length m.c = _; rw [List.length_map]
theorem RL.raw_good (r : RL) : r.raw.good := fun e he => by
 obtain ⟨x, _, rfl⟩ := List.mem_map.1 he
 exact x.raw_good
theorem IsL.raw {r : RL} {k : Nat} {X : List Nat} {w : World} (hk : k ≤ 1000000000000) (h : IsL r k X w) : IsWL r.raw X w :=
 ⟨by show Sl X w r.p (recs eW (r.es.map RE.raw)); rw [aQV]; exact h.sl, fun e he => by obtain ⟨x, hx, rfl⟩ := List.mem_map.1 he; exact RE.fit hk (h.el x hx), by show Cap r.p (r.es.map RE.raw).length r.c; rw [List.length_map]; exact h.cap⟩
theorem IsX.raw {m : MX} {k : Nat} {X : List Nat} {w : World} (hk : k ≤ 1000000000000) (h : IsX m k X w) : IsWM m.raw X w :=
 ⟨by show Sl X w m.p (recs eWL (m.rows.map RL.raw)); rw [aNM]; exact h.sl, fun e he => by obtain ⟨x, hx, rfl⟩ := List.mem_map.1 he; exact IsL.raw hk (h.row x hx), by show Cap m.p (m.rows.map RL.raw).length m.c; rw [List.length_map]; exact h.cap⟩
theorem IsR.sml {e : RE} {k : Nat} {X : List Nat} {w : World} (hk : k ≤ 20000000000) (h : IsR e k X w) : e.raw.sml := by
 have a := gX (IsI.le h.num)
 have b := gX (IsI.le h.den)
 constructor
 ·show (gr e.q.num.natAbs).length ≤ _; omega
 ·show (gr (e.q.den : Int).natAbs).length ≤ _; omega
theorem Hv.lraw {I : List aT} {r : RL} {k : Nat} (h : nT r k ∈ I) (hk : k ≤ 20000000000) : Hv I (aCP r.raw) := ⟨fun X w hw => IsL.raw (by omega) (hw _ h)⟩
theorem Hv.xraw {I : List aT} {m : MX} {k : Nat} (h : lT m k ∈ I) (hk : k ≤ 20000000000) : Hv I (zJ m.raw) := ⟨fun X w hw => IsX.raw (by omega) (hw _ h)⟩
theorem aIG {α β : Type} [Inhabited α] [Inhabited β] {l : List α} {f : α → β} {i : Int} (h : 0 ≤ i ∧ i < l.length) : gt (l.map f) i = f (gt l i) := by
 obtain ⟨n, rfl⟩ : ∃ n : Nat, i = n := ⟨i.toNat, by omega⟩
 rw [gN (by simpa using h.2), gN (by omega)]
 simp
theorem aXZ {m : MX} {R C : Nat} (h : m.dim R C) (hR : 1 ≤ R ∧ R ≤ 64) (hC : 1 ≤ C ∧ C ≤ 64) : m.raw.ok := by
 have e : m.raw.rows = m.rows.map RL.raw := rfl
 have h0 := h.1
 have hl : ∀ r ∈ m.rows, r.raw.es.length = C := fun r hr => by rw [show r.raw.es = r.es.map RE.raw from rfl, List.length_map]; exact h.2 r hr
 unfold WM.ok
 rw [e, List.length_map, aIG (by omega), hl _ (eP (by omega))]
 refine ⟨by omega, fun r hr => ?_⟩
 obtain ⟨s, hs, rfl⟩ := List.mem_map.1 hr
 exact ⟨hl s hs, s.raw_good⟩
end Go.Proofs.YtjbhdfpjnjedhaaGreat
