/- Matrices and lists of fractions that are only read: facts about memory; matrices as they come in. Matrices as they come in; which numbers are brief. matrix.Check and its like, of matrices as they come in. matrix.Check, check, both, square; the document's Check; the law's code. -/
import Derived.Test.YtgeagiikkeiioaaGreatZgay
import Derived.Test.YtgeagiikkeiioaaGreatZgav
import Derived.Test.YtgeagiikkeiioaaGreatZgaw
set_option linter.unusedSimpArgs false
set_option linter.unusedVariables false
set_option maxRecDepth 100000
set_option maxHeartbeats 4000000
namespace Go.Proofs.YtgeagiikkeiioaaGreat
open Go Go.Fx
structure RL where
 p : Option Addr
 c : Nat
 es : List RE
instance : Inhabited RL := ⟨⟨none, 0, []⟩⟩
abbrev eL (r : RL) : List Value := [.slice r.p r.es.length r.c]
abbrev lv (r : RL) : Value := .slice r.p r.es.length r.c
instance : Sized eL 1 := ⟨fun _ => rfl⟩
instance : Ones eL := ⟨fun m u hu => by simp only [eL, List.mem_cons, List.not_mem_nil, or_false] at hu; subst hu; rfl⟩
structure IsL (r : RL) (k : Nat) (X : List Nat) (w : World) : Prop where
 sl : Sl X w r.p (recs eR r.es)
 el : ∀ e ∈ r.es, IsR e k X w
 cap : Cap r.p r.es.length r.c
abbrev jP (r : RL) (k : Nat) : bA := IsL r k
instance (r : RL) (k : Nat) : Fx.Good (IsL r k) := ⟨fun X Y w w' h he hY => ⟨Sl.carry h.sl he hY, fun e hm => Fx.Good.go (φ := IsR _ _) X Y w w' (h.el e hm) he hY, h.cap⟩⟩
abbrev RL.q (r : RL) : List Rat := qs r.es
structure MX where
 p : Option Addr
 c : Nat
 rows : List RL
instance : Inhabited MX := ⟨⟨none, 0, []⟩⟩
abbrev eMX (m : MX) : List Value := [.slice m.p m.rows.length m.c]
abbrev mv (m : MX) : Value := .slice m.p m.rows.length m.c
instance : Sized eMX 1 := ⟨fun _ => rfl⟩
instance : Ones eMX := ⟨fun m u hu => by simp only [eMX, List.mem_cons, List.not_mem_nil, or_false] at hu; subst hu; rfl⟩
structure IsX (m : MX) (k : Nat) (X : List Nat) (w : World) : Prop where
 sl : Sl X w m.p (recs eL m.rows)
 row : ∀ r ∈ m.rows, IsL r k X w
 cap : Cap m.p m.rows.length m.c
abbrev gD (m : MX) (k : Nat) : bA := IsX m k
instance (m : MX) (k : Nat) : Fx.Good (IsX m k) := ⟨fun X Y w w' h he hY => ⟨Sl.carry h.sl he hY, fun e hm => Fx.Good.go (φ := IsL _ _) X Y w w' (h.row e hm) he hY, h.cap⟩⟩
abbrev MX.q (m : MX) : Mt := m.rows.map RL.q
def MX.dim (m : MX) (R C : Nat) : Prop := m.rows.length = R ∧ ∀ r ∈ m.rows, r.es.length = C
theorem MX.dim.row {m : MX} {R C : Nat} (h : m.dim R C) {i : Nat} (hi : i < R) : (gt m.rows (i : Int)).es.length = C := h.2 _ (cZ ⟨by omega, by have := h.1; omega⟩)
/- what follows from the facts -/
theorem Hv.xsl {I : List bA} {m : MX} {k : Nat} (h : gD m k ∈ I) : Hv I (aT m.p (recs eL m.rows)) := ⟨fun X w hw => ⟨(hw _ h : IsX m k X w).sl⟩⟩
theorem Hv.xrow {I : List bA} {m : MX} {k : Nat} {i : Int} (h : gD m k ∈ I) (hi : 0 ≤ i ∧ i < m.rows.length) : Hv I (jP (gt m.rows i) k) := ⟨fun X w hw => (hw _ h : IsX m k X w).row _ (cZ hi)⟩
theorem Hv.xrsl {I : List bA} {m : MX} {k : Nat} {i : Int} (h : gD m k ∈ I) (hi : 0 ≤ i ∧ i < m.rows.length) : Hv I (aT (gt m.rows i).p (recs eR (gt m.rows i).es)) := ⟨fun X w hw => ⟨((hw _ h : IsX m k X w).row _ (cZ hi)).sl⟩⟩
theorem Hv.xel {I : List bA} {m : MX} {k : Nat} {i j : Int} (h : gD m k ∈ I) (hi : 0 ≤ i ∧ i < m.rows.length) (hj : 0 ≤ j ∧ j < (gt m.rows i).es.length) : Hv I (eQ (gt (gt m.rows i).es j) k) := ⟨fun X w hw => ((hw _ h : IsX m k X w).row _ (cZ hi)).el _ (cZ hj)⟩
theorem Hv.lsl {I : List bA} {r : RL} {k : Nat} (h : jP r k ∈ I) : Hv I (aT r.p (recs eR r.es)) := ⟨fun X w hw => ⟨(hw _ h : IsL r k X w).sl⟩⟩
theorem Hv.lel {I : List bA} {r : RL} {k : Nat} {j : Int} (h : jP r k ∈ I) (hj : 0 ≤ j ∧ j < r.es.length) : Hv I (eQ (gt r.es j) k) := ⟨fun X w hw => (hw _ h : IsL r k X w).el _ (cZ hj)⟩
theorem IsL.mono {r : RL} {k m : Nat} {X : List Nat} {w : World} (h : IsL r k X w) (hk : k ≤ m) : IsL r m X w := ⟨h.sl, fun e he => (h.el e he).mono hk, h.cap⟩
theorem IsX.mono {x : MX} {k m : Nat} {X : List Nat} {w : World} (h : IsX x k X w) (hk : k ≤ m) : IsX x m X w := ⟨h.sl, fun e he => (h.row e he).mono hk, h.cap⟩
theorem Hv.lm {I : List bA} {r : RL} {k m : Nat} (h : jP r k ∈ I) (hk : k ≤ m) : Hv I (jP r m) := ⟨fun X w hw => IsL.mono (hw _ h) hk⟩
theorem Hv.xm {I : List bA} {r : MX} {k m : Nat} (h : gD r k ∈ I) (hk : k ≤ m) : Hv I (gD r m) := ⟨fun X w hw => IsX.mono (hw _ h) hk⟩
/- the posts -/
def XQ (A : Mt) (R C k : Nat) (M0 : List Ent) (I0 : List bA) (v : Value) (M : List Ent) (I : List bA) : Prop := M0 = M ∧ ∃ m : MX, v = mv m ∧ m.q = A ∧ m.dim R C ∧ I = gD m k :: I0
def XQc (A : Mt) (R C k : Nat) (M0 : List Ent) (I0 : List bA) (v : Value) (M : List Ent) (I : List bA) : Prop := M0 = M ∧ ∃ m : MX, v = .tuple #[mv m, .int .i64 0] ∧ m.q = A ∧ m.dim R C ∧ I = gD m k :: I0
def LQ (l : List Rat) (k : Nat) (M0 : List Ent) (I0 : List bA) (v : Value) (M : List Ent) (I : List bA) : Prop := M0 = M ∧ ∃ r : RL, v = lv r ∧ r.q = l ∧ I = jP r k :: I0
def LQc (l : List Rat) (k : Nat) (M0 : List Ent) (I0 : List bA) (v : Value) (M : List Ent) (I : List bA) : Prop := M0 = M ∧ ∃ r : RL, v = .tuple #[lv r, .int .i64 0] ∧ r.q = l ∧ I = jP r k :: I0
def vE (R C : Nat) (F : Nat → Nat → Rat) : Mt := (List.range R).map (fun i => (List.range C).map (F i))
theorem nU {R C : Nat} {F : Nat → Nat → Rat} {i j : Nat} (hi : i < R) (hj : j < C) : at2 (vE R C F) i j = F i j := by
 unfold at2 rowAt vE
 simp [List.getD, hi, hj]
theorem uW {R C : Nat} {F G : Nat → Nat → Rat} (h : ∀ i j, i < R → j < C → F i j = G i j) : vE R C F = vE R C G := by
 unfold vE
 apply List.map_congr_left
 intro i hi
 apply List.map_congr_left
 intro j hj
 exact h i j (List.mem_range.1 hi) (List.mem_range.1 hj)
theorem nK {m : MX} {i j : Nat} (hi : i < m.rows.length) (hj : j < (gt m.rows (i : Int)).es.length) : at2 m.q i j = (gt (gt m.rows (i : Int)).es (j : Int)).q := by
 rw [dY hi] at hj
 unfold at2 rowAt
 rw [dY hi, dY hj]
 simp [List.getD, hi, hj]
theorem MX.dim.mk {m : MX} {R C : Nat} (h : m.dim R C) : m.q = vE R C (at2 m.q) := by
 apply List.ext_getElem
 ·simp [vE, h.1]
 ·intro i h1 h2
  have hi : i < m.rows.length := by simpa using h1
  have hc := h.2 _ (List.getElem_mem hi)
  apply List.ext_getElem
  ·simp [vE, hc]
  ·intro j h3 h4
   have hj : j < (m.rows[i]).es.length := by simpa using h3
   simp only [vE, List.getElem_map, List.getElem_range]
   rw [nK hi (by rw [dY hi]; exact hj), dY hi, dY hj]
/- a matrix made is a matrix that is read -/
def MR.l (r : MR) : RL := ⟨some ⟨r.b, 0, none⟩, r.es.length, r.es⟩
theorem zQ {X : List Nat} {w0 w : World} {k : Nat} : ∀ {rows : List MR} {M : List Ent} {I : List bA}, Mem X w0 (rows.map gF ++ M) I w → (∀ r ∈ rows, AllR r.es k (muts (rows.map gF ++ M)) w) → ∃ I', (∀ φ ∈ I, φ ∈ I') ∧ (∀ r ∈ rows, jP r.l k ∈ I') ∧ Mem X w0 M I' w
 | [], M, I, h, _ => ⟨I, fun _ h => h, fun r hr => by simp at hr, h⟩
 | r :: rows, M, I, h, ha => by
  have h1 : Mem X w0 (rows.map gF ++ M) (aT (some ⟨r.b, 0, none⟩) (recs eR r.es) :: I) w := h.freezeB .here
  have hsub : ∀ y ∈ muts (rows.map gF ++ M), y ∈ muts ((r :: rows).map gF ++ M) := fun y hy => by simp [muts] at hy ⊢; right; exact hy
  have h2 : IsL r.l k (muts (rows.map gF ++ M)) w := by
   refine ⟨(h1.sl (List.Mem.head _)), fun e he => ?_, Nat.le_refl _, .inl (Ok.mk _ _)⟩
   exact Fx.Good.go (φ := IsR _ _) _ _ w w ((ha r (List.Mem.head _)).go e he) (Ext.refl _ _) (fun y hy => .inl (hsub y hy))
  obtain ⟨I', i1, i2, i3⟩ := zQ (h1.add (φ := jP r.l k) h2) (fun s hs => ⟨fun e he => Fx.Good.go (φ := IsR _ _) _ _ w w ((ha s (List.Mem.tail _ hs)).go e he) (Ext.refl _ _) (fun y hy => .inl (hsub y hy))⟩)
  refine ⟨I', fun φ hφ => i1 φ (List.Mem.tail _ (List.Mem.tail _ hφ)), fun s hs => ?_, i3⟩
  rcases List.mem_cons.1 hs with rfl | hs
  ·exact i1 _ (List.Mem.head _)
  ·exact i2 s hs
def MR.x (bo : Nat) (rows : List MR) : MX := ⟨some ⟨bo, 0, none⟩, rows.length, rows.map MR.l⟩
theorem aUW (rows : List MR) : recs eL (rows.map MR.l) = recs eM rows := by
 induction rows with
 | nil => rfl
 | cons x r ih =>
  have h1 : recs eL ((x :: r).map MR.l) = eL x.l ++ recs eL (r.map MR.l) := rfl
  have h2 : recs eM (x :: r) = eM x ++ recs eM r := rfl
  rw [h1, h2, ih]
  rfl
theorem q_x (bo : Nat) (rows : List MR) : (MR.x bo rows).q = mq rows := by
 unfold MR.x
 simp [MX.q, MR.l, Function.comp_def]
theorem aDZ {X : List Nat} {w0 w : World} {k bo : Nat} {rows : List MR} {M : List Ent} {I : List bA} (h : Mem X w0 (.blk bo (recs eM rows) 34 :: (rows.map gF ++ M)) I w) (ha : allM rows k ∈ I) : Mem X w0 M (gD (MR.x bo rows) k :: I) w := by
 have h0 : Mem X w0 (rows.map gF ++ M) (aT (some ⟨bo, 0, none⟩) (recs eM rows) :: I) w := h.freezeB .here
 obtain ⟨I', i1, i2, i3⟩ := zQ (k := k) h0 (fun r hr => ⟨fun e he => ((h0.imm _ (List.Mem.tail _ ha)).2 : AllM rows k _ w).go r hr e he⟩)
 have h3 : IsX (MR.x bo rows) k (muts M) w := by
  refine ⟨?_, fun r hr => ?_, ?_⟩
  ·rw [show (MR.x bo rows).rows = rows.map MR.l from rfl, aUW]; exact i3.sl (i1 _ (List.Mem.head _))
  ·obtain ⟨s, hs, rfl⟩ := List.mem_map.1 hr
   exact (i3.imm _ (i2 s hs)).2
  ·show Cap (some ⟨bo, 0, none⟩) (rows.map MR.l).length rows.length
   rw [List.length_map]; exact ⟨Nat.le_refl _, .inl (Ok.mk _ _)⟩
 exact (i3.add (φ := gD (MR.x bo rows) k) h3).inc (.of fun φ hφ => by
  rcases List.mem_cons.1 hφ with rfl | hφ
  ·exact List.Mem.head _
  ·exact List.Mem.tail _ (i1 _ (List.Mem.tail _ hφ)))
section
variable {X : List Nat} {w0 : World} {M0 : List Ent} {I0 : List bA}
theorem aAR {g : FuncId} [FnOk Tryz.prog g] {fs cs : Array Value} {R C k0 : Nat} (hR : R ≤ 100) (hC : C ≤ 200) (F : Nat → Nat → Rat)
  (hg : ∀ M I, (∀ φ ∈ I0, φ ∈ I) → ∀ i j : Nat, i < R → j < C → CD Tryz.prog g (fs.toList ++ [.int .i64 (i : Int), .int .i64 (j : Int)] ++ cs.toList) X w0 M I (RQ (F i j) k0 M I)) :
  CD Tryz.prog 195 [.int .i64 (R : Int), .int .i64 (C : Int), .func (.func g) fs cs] X w0 M0 I0 (XQ (vE R C F) R C k0 M0 I0) := by
 refine CD.post (aBH hR hC F hg) (fun v M I w h hw => ?_)
 obtain ⟨bo, rows, rfl, hl, hc, hF, rfl, rfl⟩ := h
 refine ⟨M0, gD (MR.x bo rows) k0 :: I0, ⟨rfl, MR.x bo rows, ?_, ?_, ⟨by simp [MR.x, hl], fun r hr => ?_⟩, rfl⟩, (aDZ hw (List.Mem.head _)).inc (.of fun φ hφ => by
  rcases List.mem_cons.1 hφ with rfl | hφ
  ·exact List.Mem.head _
  ·exact List.Mem.tail _ (List.Mem.tail _ hφ))⟩
 ·have e : (MR.x bo rows).rows.length = R := by show (rows.map MR.l).length = R; rw [List.length_map, hl]
  have e2 : (MR.x bo rows).c = R := hl
  show _ = Value.slice (MR.x bo rows).p (MR.x bo rows).rows.length (MR.x bo rows).c
  rw [e, e2]; rfl
 ·rw [q_x]; exact hF
 ·obtain ⟨s, hs, rfl⟩ := List.mem_map.1 hr
  exact hc s hs
end
end Go.Proofs.YtgeagiikkeiioaaGreat
namespace Go.Proofs.YtgeagiikkeiioaaGreat
open Go Go.Fx
structure WL where
 p : Option Addr
 c : Nat
 es : List RW
instance : Inhabited WL := ⟨⟨none, 0, []⟩⟩
abbrev wH (r : WL) : List Value := [.slice r.p r.es.length r.c]
abbrev vD (r : WL) : Value := .slice r.p r.es.length r.c
instance : Sized wH 1 := ⟨fun _ => rfl⟩
instance : Ones wH := ⟨fun m u hu => by simp only [wH, List.mem_cons, List.not_mem_nil, or_false] at hu; subst hu; rfl⟩
structure IsWL (r : WL) (X : List Nat) (w : World) : Prop where
 sl : Sl X w r.p (recs eW r.es)
 el : ∀ e ∈ r.es, IsW e X w
 cap : Cap r.p r.es.length r.c
abbrev iW (r : WL) : bA := IsWL r
instance (r : WL) : Fx.Good (IsWL r) := ⟨fun X Y w w' h he hY => ⟨Sl.carry h.sl he hY, fun e hm => Fx.Good.go (φ := IsW _) X Y w w' (h.el e hm) he hY, h.cap⟩⟩
structure WM where
 p : Option Addr
 c : Nat
 rows : List WL
instance : Inhabited WM := ⟨⟨none, 0, []⟩⟩
abbrev eWM (m : WM) : List Value := [.slice m.p m.rows.length m.c]
abbrev mvW (m : WM) : Value := .slice m.p m.rows.length m.c
instance : Sized eWM 1 := ⟨fun _ => rfl⟩
instance : Ones eWM := ⟨fun m u hu => by simp only [eWM, List.mem_cons, List.not_mem_nil, or_false] at hu; subst hu; rfl⟩
structure IsWM (m : WM) (X : List Nat) (w : World) : Prop where
 sl : Sl X w m.p (recs wH m.rows)
 row : ∀ r ∈ m.rows, IsWL r X w
 cap : Cap m.p m.rows.length m.c
abbrev oZ (m : WM) : bA := IsWM m
instance (m : WM) : Fx.Good (IsWM m) := ⟨fun X Y w w' h he hY => ⟨Sl.carry h.sl he hY, fun e hm => Fx.Good.go (φ := IsWL _) X Y w w' (h.row e hm) he hY, h.cap⟩⟩
structure AllWM (ms : List WM) (X : List Nat) (w : World) : Prop where
 go : ∀ m ∈ ms, IsWM m X w
abbrev allWM (ms : List WM) : bA := AllWM ms
instance (ms : List WM) : Fx.Good (AllWM ms) := ⟨fun X Y w w' h he hY => ⟨fun m hm => Fx.Good.go (φ := IsWM _) X Y w w' (h.go m hm) he hY⟩⟩
theorem Hv.wlsl {I : List bA} {r : WL} (h : iW r ∈ I) : Hv I (aT r.p (recs eW r.es)) := ⟨fun X w hw => ⟨(hw _ h : IsWL r X w).sl⟩⟩
theorem Hv.wlel {I : List bA} {r : WL} {j : Int} (h : iW r ∈ I) (hj : 0 ≤ j ∧ j < r.es.length) : Hv I (isW (gt r.es j)) := ⟨fun X w hw => (hw _ h : IsWL r X w).el _ (cZ hj)⟩
theorem Hv.wmsl {I : List bA} {m : WM} (h : oZ m ∈ I) : Hv I (aT m.p (recs wH m.rows)) := ⟨fun X w hw => ⟨(hw _ h : IsWM m X w).sl⟩⟩
theorem Hv.wmrow {I : List bA} {m : WM} {i : Int} (h : oZ m ∈ I) (hi : 0 ≤ i ∧ i < m.rows.length) : Hv I (iW (gt m.rows i)) := ⟨fun X w hw => (hw _ h : IsWM m X w).row _ (cZ hi)⟩
/- short numbers, canonical ones, matrices -/
def RW.brief (r : RW) : Prop := r.g1.length ≤ 1 ∧ r.g2.length ≤ 1 ∧ (r.g1.length = 0 ∨ gt r.g1 0 < 100000) ∧ (r.g2.length = 0 ∨ gt r.g2 0 ≤ 100)
instance (r : RW) : Decidable r.brief := by unfold RW.brief; exact inferInstance
def RW.sml (r : RW) : Prop := r.g1.length ≤ 1000000000 ∧ r.g2.length ≤ 1000000000
def WL.sht (r : WL) : Prop := r.es.length ≤ 6 ∧ ∀ e ∈ r.es, e.brief
instance (r : WL) : Decidable r.sht := by unfold WL.sht; exact inferInstance
def WL.sml (r : WL) : Prop := r.es.length ≤ 1000000000 ∧ ∀ e ∈ r.es, e.sml
def WL.good (r : WL) : Prop := ∀ e ∈ r.es, e.good
instance (r : WL) : Decidable r.good := by unfold WL.good; exact inferInstance
def WM.sht (m : WM) : Prop := m.rows.length ≤ 6 ∧ ∀ r ∈ m.rows, r.sht
instance (m : WM) : Decidable m.sht := by unfold WM.sht; exact inferInstance
def WM.sml (m : WM) : Prop := m.rows.length ≤ 1000000000 ∧ ∀ r ∈ m.rows, r.sml
def WM.ok (m : WM) : Prop := (1 ≤ m.rows.length ∧ m.rows.length ≤ 64 ∧ 1 ≤ (gt m.rows 0).es.length ∧ (gt m.rows 0).es.length ≤ 64) ∧ ∀ r ∈ m.rows, r.es.length = (gt m.rows 0).es.length ∧ r.good
instance (m : WM) : Decidable m.ok := by unfold WM.ok; exact inferInstance
theorem RW.brief.sml {r : RW} (h : r.brief) : r.sml := ⟨by have := h.1; omega, by have := h.2.1; omega⟩
/- of canonical numbers -/
def RL.raw (r : RL) : WL := ⟨r.p, r.c, r.es.map RE.raw⟩
def MX.raw (m : MX) : WM := ⟨m.p, m.c, m.rows.map RL.raw⟩
theorem aFK (es : List RE) : recs eW (es.map RE.raw) = recs eR es := by
 induction es with
 | nil => rfl
 | cons x r ih =>
  have h1 : recs eW ((x :: r).map RE.raw) = eW x.raw ++ recs eW (r.map RE.raw) := rfl
  have h2 : recs eR (x :: r) = eR x ++ recs eR r := rfl
  rw [h1, h2, ih]; rfl
theorem aCY (rows : List RL) : recs wH (rows.map RL.raw) = recs eL rows := by
 induction rows with
 | nil => rfl
 | cons x r ih =>
  have h1 : recs wH ((x :: r).map RL.raw) = wH x.raw ++ recs wH (r.map RL.raw) := rfl
  have h2 : recs eL (x :: r) = eL x ++ recs eL r := rfl
  rw [h1, h2, ih]
  show [Value.slice x.p (x.es.map RE.raw).length x.c] ++ _ = [Value.slice x.p x.es.length x.c] ++ _
  rw [List.length_map]
theorem xX (r : RL) : vD r.raw = lv r := by show Value.slice r.p (r.es.map RE.raw).length r.c = _; rw [List.length_map]
theorem aBX (m : MX) : mvW m.raw = mv m := by show Value.slice m.p (m.rows.map RL.raw).length m.c = _; rw [List.length_map]
theorem RL.raw_good (r : RL) : r.raw.good := fun e he => by
 obtain ⟨x, _, rfl⟩ := List.mem_map.1 he
 exact x.raw_good
theorem IsL.raw {r : RL} {k : Nat} {X : List Nat} {w : World} (hk : k ≤ 1000000000000) (h : IsL r k X w) : IsWL r.raw X w :=
 ⟨by show Sl X w r.p (recs eW (r.es.map RE.raw)); rw [aFK]; exact h.sl, fun e he => by obtain ⟨x, hx, rfl⟩ := List.mem_map.1 he; exact RE.fit hk (h.el x hx), by show Cap r.p (r.es.map RE.raw).length r.c; rw [List.length_map]; exact h.cap⟩
theorem IsX.raw {m : MX} {k : Nat} {X : List Nat} {w : World} (hk : k ≤ 1000000000000) (h : IsX m k X w) : IsWM m.raw X w :=
 ⟨by show Sl X w m.p (recs wH (m.rows.map RL.raw)); rw [aCY]; exact h.sl, fun e he => by obtain ⟨x, hx, rfl⟩ := List.mem_map.1 he; exact IsL.raw hk (h.row x hx), by show Cap m.p (m.rows.map RL.raw).length m.c; rw [List.length_map]; exact h.cap⟩
theorem IsR.sml {e : RE} {k : Nat} {X : List Nat} {w : World} (hk : k ≤ 20000000000) (h : IsR e k X w) : e.raw.sml := by
 have a := eY (IsI.le h.num)
 have b := eY (IsI.le h.den)
 constructor
 ·show (gr e.q.num.natAbs).length ≤ _; omega
 ·show (gr (e.q.den : Int).natAbs).length ≤ _; omega
theorem Hv.lraw {I : List bA} {r : RL} {k : Nat} (h : jP r k ∈ I) (hk : k ≤ 20000000000) : Hv I (iW r.raw) := ⟨fun X w hw => IsL.raw (by omega) (hw _ h)⟩
theorem Hv.xraw {I : List bA} {m : MX} {k : Nat} (h : gD m k ∈ I) (hk : k ≤ 20000000000) : Hv I (oZ m.raw) := ⟨fun X w hw => IsX.raw (by omega) (hw _ h)⟩
theorem WL.good_raw {r : WL} (hf : ∀ e ∈ r.es, e.Fit) (h : r.good) : ∃ l : RL, r = l.raw := by
 obtain ⟨p, c, es⟩ := r
 have : ∃ xs : List RE, es = xs.map RE.raw := by
  have hf' : ∀ e ∈ es, e.Fit := hf
  have h' : ∀ e ∈ es, e.good := h
  clear h hf
  induction es with
  | nil => exact ⟨[], rfl⟩
  | cons x es ih =>
   obtain ⟨xs, rfl⟩ := ih (fun e he => hf' e (List.Mem.tail _ he)) (fun e he => h' e (List.Mem.tail _ he))
   obtain ⟨e, rfl⟩ := RW.good_raw (hf' x (List.Mem.head _)) (h' x (List.Mem.head _))
   exact ⟨e :: xs, rfl⟩
 obtain ⟨xs, rfl⟩ := this
 exact ⟨⟨p, c, xs⟩, rfl⟩
theorem WM.good_raw {m : WM} (hf : ∀ r ∈ m.rows, ∀ e ∈ r.es, e.Fit) (h : ∀ r ∈ m.rows, r.good) : ∃ x : MX, m = x.raw := by
 obtain ⟨p, c, rows⟩ := m
 have : ∃ xs : List RL, rows = xs.map RL.raw := by
  have hf' : ∀ r ∈ rows, ∀ e ∈ r.es, e.Fit := hf
  have h' : ∀ r ∈ rows, r.good := h
  clear h hf
  induction rows with
  | nil => exact ⟨[], rfl⟩
  | cons x es ih =>
   obtain ⟨xs, rfl⟩ := ih (fun e he => hf' e (List.Mem.tail _ he)) (fun e he => h' e (List.Mem.tail _ he))
   obtain ⟨e, rfl⟩ := WL.good_raw (hf' x (List.Mem.head _)) (h' x (List.Mem.head _))
   exact ⟨e :: xs, rfl⟩
 obtain ⟨xs, rfl⟩ := this
 exact ⟨⟨p, c, xs⟩, rfl⟩
theorem aME {e : RE} (h : e.raw.brief) {X : List Nat} {w : World} (hw : IsW e.raw X w) : IsR e 30 X w := by
 refine RE.isR_raw hw ?_ ?_
 ·have := h.1; omega
 ·have := h.2.1; omega
theorem aBU {α β : Type} [Inhabited α] [Inhabited β] {l : List α} {f : α → β} {i : Int} (h : 0 ≤ i ∧ i < l.length) : gt (l.map f) i = f (gt l i) := by
 obtain ⟨n, rfl⟩ : ∃ n : Nat, i = n := ⟨i.toNat, by omega⟩
 rw [dY (by simpa using h.2), dY (by omega)]
 simp
theorem aUQ {m : MX} (h : m.raw.ok) : m.dim m.rows.length (gt m.rows 0).es.length ∧ 1 ≤ m.rows.length ∧ m.rows.length ≤ 64 ∧ 1 ≤ (gt m.rows 0).es.length ∧ (gt m.rows 0).es.length ≤ 64 := by
 have e : m.raw.rows = m.rows.map RL.raw := rfl
 unfold WM.ok at h
 rw [e, List.length_map] at h
 obtain ⟨⟨h1, h2, h3, h4⟩, h5⟩ := h
 rw [aBU (by omega)] at h3 h4 h5
 have e2 : (gt m.rows 0).raw.es.length = (gt m.rows 0).es.length := by show ((gt m.rows 0).es.map RE.raw).length = _; rw [List.length_map]
 rw [e2] at h3 h4 h5
 refine ⟨⟨rfl, fun r hr => ?_⟩, h1, h2, h3, h4⟩
 have := (h5 r.raw (List.mem_map.2 ⟨r, hr, rfl⟩)).1
 rwa [show r.raw.es = r.es.map RE.raw from rfl, List.length_map] at this
theorem aTT {m : MX} {R C : Nat} (h : m.dim R C) (hR : 1 ≤ R ∧ R ≤ 64) (hC : 1 ≤ C ∧ C ≤ 64) : m.raw.ok := by
 have e : m.raw.rows = m.rows.map RL.raw := rfl
 have h0 := h.1
 have hl : ∀ r ∈ m.rows, r.raw.es.length = C := fun r hr => by rw [show r.raw.es = r.es.map RE.raw from rfl, List.length_map]; exact h.2 r hr
 unfold WM.ok
 rw [e, List.length_map, aBU (by omega), hl _ (cZ (by omega))]
 refine ⟨by omega, fun r hr => ?_⟩
 obtain ⟨s, hs, rfl⟩ := List.mem_map.1 hr
 exact ⟨hl s hs, s.raw_good⟩
end Go.Proofs.YtgeagiikkeiioaaGreat
namespace Go.Proofs.YtgeagiikkeiioaaGreat
open Go Go.Fx
/- ---------- IndexFunc, ContainsFunc of []fiducial/api.Rat ---------- -/
section
variable {X : List Nat} {w0 : World} {M0 : List Ent} {I0 : List bA}
theorem aNJ {q : Option Addr} {a : List RW} {c : Nat} {g : FuncId} [FnOk Tryz.prog g] {fs cs : Array Value} (pr : RW → Prop) [DecidablePred pr] (hn : (a.length : Int) ≤ 9223372036854775807) (ha : aT q (recs eW a) ∈ I0)
  (hg : ∀ i : Nat, i < a.length → CD Tryz.prog g (fs.toList ++ [wv (gt a i)] ++ cs.toList) X w0 M0 I0 (fun v M I => M0 = M ∧ I0 = I ∧ v = .bool (B (pr (gt a i))))) :
  CD Tryz.prog 220 [.slice q a.length c, .func (.func g) fs cs] X w0 M0 I0 (fun v M I => M0 = M ∧ I0 = I ∧ ∃ r : Int, v = .int .i64 r ∧ ((∃ i : Nat, i < a.length ∧ r = i ∧ pr (gt a i) ∧ ∀ j : Nat, j < i → ¬ pr (gt a j)) ∨ (r = -1 ∧ ∀ j : Nat, j < a.length → ¬ pr (gt a j)))) := by
 refine bD Tryz.func220 rfl Tryz.ntmps220 rfl ?_
 repeat (refine aK ?_)
 refine aS [0, 1, 7] rfl (fun k G M I => ∃ i : Nat, i ≤ a.length ∧ k = a.length - i ∧ (∀ j : Nat, j < i → ¬ pr (gt a j)) ∧ G = [(8, .int .i64 i)] ∧ M = M0 ∧ I = I0) (a.length) _ _ _ aO aC aD (⟨0, by omega, rfl, fun j hj => by omega, rfl, rfl, rfl⟩) ?_
 rintro k G M I ⟨i, hi, rfl, hs, rfl, rfl, rfl⟩
 repeat' (first | refine aK ?_ | refine aQ rfl (fun h => ?_) (fun h => ?_) | refine aR rfl rfl (fun h => ?_) (fun h => ?_) | fail)
 ·have hlt : i < a.length := by omega
  (refine rF rfl rfl (hg i hlt) rfl rfl rfl ?_; rintro _ _ _ ⟨rfl, rfl, rfl⟩; refine ⟨okF, ?_⟩)
  repeat' (first | refine aK ?_ | refine aQ rfl (fun h => ?_) (fun h => ?_) | refine aR rfl rfl (fun h => ?_) (fun h => ?_) | fail)
  ·refine aH (by first | exact .inl rfl | exact .inr rfl) rfl rfl _ _ aC aD (⟨rfl, rfl, _, rfl, .inl ⟨i, hlt, rfl, by assumption, hs⟩⟩)
  ·refine aM (a.length - (i + 1)) _ _ _ (by first | omega | (simp only [List.length_append, List.length_cons, List.length_nil]; omega)) aO aC aD (⟨i + 1, by omega, rfl, fun j hj => ?_, rfl, rfl, rfl⟩)
   by_cases e : j = i
   ·subst e; assumption
   ·exact hs j (by omega)
 ·refine aH (by first | exact .inl rfl | exact .inr rfl) rfl rfl _ _ aC aD (⟨rfl, rfl, _, rfl, .inr ⟨rfl, fun j hj => hs j (by omega)⟩⟩)
theorem aGI {q : Option Addr} {a : List RW} {c : Nat} {g : FuncId} [FnOk Tryz.prog g] {fs cs : Array Value} (pr : RW → Prop) [DecidablePred pr] (hn : (a.length : Int) ≤ 9223372036854775807) (ha : aT q (recs eW a) ∈ I0)
  (hg : ∀ i : Nat, i < a.length → CD Tryz.prog g (fs.toList ++ [wv (gt a i)] ++ cs.toList) X w0 M0 I0 (fun v M I => M0 = M ∧ I0 = I ∧ v = .bool (B (pr (gt a i))))) :
  CD Tryz.prog 190 [.slice q a.length c, .func (.func g) fs cs] X w0 M0 I0 (fun v M I => M0 = M ∧ I0 = I ∧ v = .bool (B (∃ x ∈ a, pr x))) := by
 refine bD Tryz.func190 rfl Tryz.ntmps190 rfl ?_
 repeat (refine aK ?_)
 (refine aA rfl (aNJ pr hn ha hg) rfl rfl ?_; rintro _ _ _ ⟨rfl, rfl, r, rfl, h⟩; refine ⟨okF, ?_⟩)
 repeat (refine aK ?_)
 refine aH (by first | exact .inl rfl | exact .inr rfl) rfl rfl _ _ aC aD (⟨rfl, rfl, congrArg Value.bool (jU ?_)⟩)
 rcases h with ⟨i, hi, rfl, hp, _⟩ | ⟨rfl, h⟩
 ·exact ⟨fun _ => ⟨gt a i, by rw [jC hi]; exact List.getElem_mem hi, hp⟩, fun _ => by omega⟩
 ·refine ⟨fun h => by omega, ?_⟩
  rintro ⟨x, hx, hp⟩
  obtain ⟨j, hj, rfl⟩ := List.mem_iff_getElem.1 hx
  exact absurd (by rw [jC hj]; exact hp) (h j hj)
end
/- ---------- IndexFunc, ContainsFunc of fiducial/api.Matrix ---------- -/
section
variable {X : List Nat} {w0 : World} {M0 : List Ent} {I0 : List bA}
theorem aOI {q : Option Addr} {a : List WL} {c : Nat} {g : FuncId} [FnOk Tryz.prog g] {fs cs : Array Value} (pr : WL → Prop) [DecidablePred pr] (hn : (a.length : Int) ≤ 9223372036854775807) (ha : aT q (recs wH a) ∈ I0)
  (hg : ∀ i : Nat, i < a.length → CD Tryz.prog g (fs.toList ++ [vD (gt a i)] ++ cs.toList) X w0 M0 I0 (fun v M I => M0 = M ∧ I0 = I ∧ v = .bool (B (pr (gt a i))))) :
  CD Tryz.prog 158 [.slice q a.length c, .func (.func g) fs cs] X w0 M0 I0 (fun v M I => M0 = M ∧ I0 = I ∧ ∃ r : Int, v = .int .i64 r ∧ ((∃ i : Nat, i < a.length ∧ r = i ∧ pr (gt a i) ∧ ∀ j : Nat, j < i → ¬ pr (gt a j)) ∨ (r = -1 ∧ ∀ j : Nat, j < a.length → ¬ pr (gt a j)))) := by
 refine bD Tryz.func158 rfl Tryz.ntmps158 rfl ?_
 repeat (refine aK ?_)
 refine aS [0, 1, 7] rfl (fun k G M I => ∃ i : Nat, i ≤ a.length ∧ k = a.length - i ∧ (∀ j : Nat, j < i → ¬ pr (gt a j)) ∧ G = [(8, .int .i64 i)] ∧ M = M0 ∧ I = I0) (a.length) _ _ _ aO aC aD (⟨0, by omega, rfl, fun j hj => by omega, rfl, rfl, rfl⟩) ?_
 rintro k G M I ⟨i, hi, rfl, hs, rfl, rfl, rfl⟩
 repeat' (first | refine aK ?_ | refine aQ rfl (fun h => ?_) (fun h => ?_) | refine aR rfl rfl (fun h => ?_) (fun h => ?_) | fail)
 ·have hlt : i < a.length := by omega
  (refine rF rfl rfl (hg i hlt) rfl rfl rfl ?_; rintro _ _ _ ⟨rfl, rfl, rfl⟩; refine ⟨okF, ?_⟩)
  repeat' (first | refine aK ?_ | refine aQ rfl (fun h => ?_) (fun h => ?_) | refine aR rfl rfl (fun h => ?_) (fun h => ?_) | fail)
  ·refine aH (by first | exact .inl rfl | exact .inr rfl) rfl rfl _ _ aC aD (⟨rfl, rfl, _, rfl, .inl ⟨i, hlt, rfl, by assumption, hs⟩⟩)
  ·refine aM (a.length - (i + 1)) _ _ _ (by first | omega | (simp only [List.length_append, List.length_cons, List.length_nil]; omega)) aO aC aD (⟨i + 1, by omega, rfl, fun j hj => ?_, rfl, rfl, rfl⟩)
   by_cases e : j = i
   ·subst e; assumption
   ·exact hs j (by omega)
 ·refine aH (by first | exact .inl rfl | exact .inr rfl) rfl rfl _ _ aC aD (⟨rfl, rfl, _, rfl, .inr ⟨rfl, fun j hj => hs j (by omega)⟩⟩)
theorem aGK {q : Option Addr} {a : List WL} {c : Nat} {g : FuncId} [FnOk Tryz.prog g] {fs cs : Array Value} (pr : WL → Prop) [DecidablePred pr] (hn : (a.length : Int) ≤ 9223372036854775807) (ha : aT q (recs wH a) ∈ I0)
  (hg : ∀ i : Nat, i < a.length → CD Tryz.prog g (fs.toList ++ [vD (gt a i)] ++ cs.toList) X w0 M0 I0 (fun v M I => M0 = M ∧ I0 = I ∧ v = .bool (B (pr (gt a i))))) :
  CD Tryz.prog 108 [.slice q a.length c, .func (.func g) fs cs] X w0 M0 I0 (fun v M I => M0 = M ∧ I0 = I ∧ v = .bool (B (∃ x ∈ a, pr x))) := by
 refine bD Tryz.func108 rfl Tryz.ntmps108 rfl ?_
 repeat (refine aK ?_)
 (refine aA rfl (aOI pr hn ha hg) rfl rfl ?_; rintro _ _ _ ⟨rfl, rfl, r, rfl, h⟩; refine ⟨okF, ?_⟩)
 repeat (refine aK ?_)
 refine aH (by first | exact .inl rfl | exact .inr rfl) rfl rfl _ _ aC aD (⟨rfl, rfl, congrArg Value.bool (jU ?_)⟩)
 rcases h with ⟨i, hi, rfl, hp, _⟩ | ⟨rfl, h⟩
 ·exact ⟨fun _ => ⟨gt a i, by rw [jC hi]; exact List.getElem_mem hi, hp⟩, fun _ => by omega⟩
 ·refine ⟨fun h => by omega, ?_⟩
  rintro ⟨x, hx, hp⟩
  obtain ⟨j, hj, rfl⟩ := List.mem_iff_getElem.1 hx
  exact absurd (by rw [jC hj]; exact hp) (h j hj)
end
section
variable {X : List Nat} {w0 : World} {M0 : List Ent} {I0 : List bA}
theorem aNS {r : RW} (hw : Hv I0 (isW r)) : CD Tryz.prog 68 [wv r] X w0 M0 I0 (fun v M I => M0 = M ∧ I0 = I ∧ v = .bool (B r.brief)) := by
 refine aAK hw (fun hf => ?_)
 have l1 := hf.l1
 have l2 := hf.l2
 refine bE Tryz.func68 rfl Tryz.ntmps68 rfl ?_
 refine aJ ?_
 refine aI ?_
 (refine aP rfl rfl rfl ?_; intro b; refine ⟨okF, ?_⟩)
 repeat (refine aK ?_)
 (repeat refine aJ ?_); refine dJ [0, 1, 2, 3, 4, 5, 6, 7] [0, 0, 0, 0, 0, 0, 0, 0] mixed (by kernel_rfl) ?_
 by_cases c1 : r.g1.length ≤ 1
 ·by_cases c2 : r.g2.length ≤ 1
  ·by_cases c3 : r.g1.length = 0
   ·by_cases c4 : r.g2.length = 0
    ·repeat (refine aK ?_)
     refine aH (by first | exact .inl rfl | exact .inr rfl) rfl rfl _ _ aC aD (⟨rfl, rfl, congrArg Value.bool (bR ⟨c1, c2, .inl c3, .inl c4⟩).symm⟩)
    ·repeat (refine aK ?_)
     refine aH (by first | exact .inl rfl | exact .inr rfl) rfl rfl _ _ aC aD (⟨rfl, rfl, congrArg Value.bool (jU ⟨fun e => ⟨c1, c2, .inl c3, .inr e⟩, fun e => e.2.2.2.resolve_left c4⟩)⟩)
   ·by_cases c5 : gt r.g1 0 < 100000
    ·by_cases c4 : r.g2.length = 0
     ·repeat (refine aK ?_)
      refine aH (by first | exact .inl rfl | exact .inr rfl) rfl rfl _ _ aC aD (⟨rfl, rfl, congrArg Value.bool (bR ⟨c1, c2, .inr c5, .inl c4⟩).symm⟩)
     ·repeat (refine aK ?_)
      refine aH (by first | exact .inl rfl | exact .inr rfl) rfl rfl _ _ aC aD (⟨rfl, rfl, congrArg Value.bool (jU ⟨fun e => ⟨c1, c2, .inr c5, .inr e⟩, fun e => e.2.2.2.resolve_left c4⟩)⟩)
    ·repeat (refine aK ?_)
     refine aH (by first | exact .inl rfl | exact .inr rfl) rfl rfl _ _ aC aD (⟨rfl, rfl, congrArg Value.bool (aY (fun e => c5 (e.2.2.1.resolve_left c3))).symm⟩)
  ·repeat (refine aK ?_)
   refine aH (by first | exact .inl rfl | exact .inr rfl) rfl rfl _ _ aC aD (⟨rfl, rfl, congrArg Value.bool (aY (fun e => c2 e.2.1)).symm⟩)
 ·repeat (refine aK ?_)
  refine aH (by first | exact .inl rfl | exact .inr rfl) rfl rfl _ _ aC aD (⟨rfl, rfl, congrArg Value.bool (aY (fun e => c1 e.1)).symm⟩)
theorem aCC {r : WL} (hs : r.sml) (hw : iW r ∈ I0) : CD Tryz.prog 27 [vD r] X w0 M0 I0 (fun v M I => M0 = M ∧ I0 = I ∧ v = .bool (B r.good)) := by
 refine bQ (φ := aT r.p (recs eW r.es)) (Hv.wlsl hw) ?_
 have hl := hs.1
 refine bE Tryz.func27 rfl Tryz.ntmps27 rfl ?_
 repeat (refine aK ?_)
 refine aS [0] rfl (fun k G M I => ∃ i : Nat, i ≤ r.es.length ∧ k = r.es.length - i ∧ (∀ j : Nat, j < i → (gt r.es j).good) ∧ G = [(3, .int .i64 i)] ∧ M0 = M ∧ I = aT r.p (recs eW r.es) :: I0) (r.es.length) _ _ _ aO aC aD (⟨0, by omega, rfl, fun j hj => by omega, rfl, rfl, rfl⟩) ?_
 rintro k G M I ⟨i, hi, rfl, hg, rfl, rfl, rfl⟩
 repeat' (first | refine aK ?_ | refine aQ rfl (fun h => ?_) (fun h => ?_) | refine aR rfl rfl (fun h => ?_) (fun h => ?_) | fail)
 ·(refine aA rfl (aIR (r := gt r.es (i : Int)) (hs.2 _ (cZ (by omega))) (Hv.wlel (List.Mem.tail _ hw) (by omega))) rfl rfl ?_; rintro _ _ _ ⟨rfl, rfl, rfl⟩; refine ⟨okF, ?_⟩)
  repeat' (first | refine aK ?_ | refine aQ rfl (fun h => ?_) (fun h => ?_) | refine aR rfl rfl (fun h => ?_) (fun h => ?_) | fail)
  ·refine aH (by first | exact .inl rfl | exact .inr rfl) rfl rfl _ _ aC aD (⟨rfl, rfl, congrArg Value.bool (aY (fun e => h (e _ (cZ (by omega))))).symm⟩)
  ·refine aM (r.es.length - (i + 1)) _ _ _ (by first | omega | (simp only [List.length_append, List.length_cons, List.length_nil]; omega)) aO aC aD (⟨i + 1, by omega, rfl, fun j hj => ?_, rfl, rfl, rfl⟩)
   by_cases e : j = i
   ·subst e; exact Decidable.of_not_not h
   ·exact hg j (by omega)
 ·refine aH (by first | exact .inl rfl | exact .inr rfl) rfl rfl _ _ aC aD (⟨rfl, rfl, congrArg Value.bool (bR (fun e he => ?_)).symm⟩)
  obtain ⟨j, hj, rfl⟩ := List.mem_iff_getElem.1 he
  have := hg j (by omega)
  rwa [jC hj] at this
theorem aCO {r : RW} (hs : r.sml) (hw : Hv I0 (isW r)) : CD Tryz.prog 215 [wv r] X w0 M0 I0 (fun v M I => M0 = M ∧ I0 = I ∧ v = .bool (B (¬ r.good))) := by
 refine bE Tryz.func215 rfl Tryz.ntmps215 rfl ?_
 refine aJ ?_
 refine aI ?_
 (refine aP rfl rfl rfl ?_; intro b; refine ⟨okF, ?_⟩)
 repeat (refine aK ?_)
 (refine aA rfl (yQ (r := r) hs hw) rfl rfl ?_; rintro _ _ _ ⟨rfl, rfl, rfl⟩; refine ⟨okF, ?_⟩)
 repeat (refine aK ?_)
 refine aH (by first | exact .inl rfl | exact .inr rfl) rfl rfl _ _ aC aD (⟨rfl, rfl, rfl⟩)
theorem vK {r : WL} (hs : r.sml) (hw : iW r ∈ I0) : CD Tryz.prog 184 [vD r] X w0 M0 I0 (fun v M I => M0 = M ∧ I0 = I ∧ v = .bool (B r.good)) := by
 refine bQ (φ := aT r.p (recs eW r.es)) (Hv.wlsl hw) ?_
 have hl := hs.1
 refine bE Tryz.func184 rfl Tryz.ntmps184 rfl ?_
 repeat (refine aK ?_)
 (refine aA rfl (aGI (g := 215) (fs := #[]) (cs := #[]) (fun (x : RW) => ¬ x.good) (by omega) (List.Mem.head _) (fun i hi => aCO (hs.2 _ (cZ (by omega))) (Hv.wlel (List.Mem.tail _ hw) (by omega)))) rfl rfl ?_; rintro _ _ _ ⟨rfl, rfl, rfl⟩; refine ⟨okF, ?_⟩)
 repeat (refine aK ?_)
 refine aH (by first | exact .inl rfl | exact .inr rfl) rfl rfl _ _ aC aD (⟨rfl, rfl, congrArg Value.bool (jU ?_)⟩)
 exact ⟨fun e x hx => Decidable.of_not_not (fun hn => e ⟨x, hx, hn⟩), fun e ⟨x, hx, hn⟩ => hn (e x hx)⟩
end
end Go.Proofs.YtgeagiikkeiioaaGreat
namespace Go.Proofs.YtgeagiikkeiioaaGreat
open Go Go.Fx
def WM.code (m : WM) : Int := if m.ok then 0 else 1
def codeL (ms : List WM) : Int := if ∀ m ∈ ms, m.ok then 0 else 1
def bothC (a b : WM) : Int := if a.ok ∧ b.ok then (if a.rows.length = b.rows.length ∧ (gt a.rows 0).es.length = (gt b.rows 0).es.length then 0 else 4) else 1
def sqC (a : WM) : Int := if a.ok then (if a.rows.length = (gt a.rows 0).es.length then 0 else 4) else 1
section
variable {P : Program} {n : Nat} {Q : Exit → Act → World → Prop} {G : Env} {X : List Nat} {w0 : World} {M M' : List Ent} {I I' : List bA} {ops l : List Oper} {m : Fx.Mode} {ty : TypeId} {pos : String} {af : Array Edge} {g : Option (Nat × Bool)}
theorem nG {d : Nat} {t : TypeId} {x : Operand} {q : Option Addr} {len c : Nat} (hx : ev G x = some (.slice q len c)) (hg : oD ops G g = some true) (hd : Nat.ble (d + 1) n = true)
  (k : ∀ b, OkD m X w0 (.blk b [.slice q len c] t :: M) I ∧ RD P n ops Q m.nextE l ((d, .pointer (some ⟨b, 0, none⟩)) :: G) X w0 M (aT (some ⟨b, 0, none⟩) [.slice q len c] :: I)) :
  RD P n ops Q m (⟨some d, .box t x, ty, pos, af, g⟩ :: l) G X w0 M I := mX hx hg hd (fun b => ⟨(k b).1, aF .here (k b).2⟩)
end
section
variable {X : List Nat} {w0 : World} {M0 : List Ent} {I0 : List bA}
theorem aDK {m : WM} {b : Nat} {r : WL} (hR : 1 ≤ m.rows.length) (hs : r.sml) (h : Hv I0 (iW r)) (hm : oZ m ∈ I0) (hb : aT (some ⟨b, 0, none⟩) [.slice m.p m.rows.length m.c] ∈ I0) :
  CD Tryz.prog 197 [vD r, .pointer (some ⟨b, 0, none⟩)] X w0 M0 I0 (fun v M I => M0 = M ∧ I0 = I ∧ v = .bool (B (¬ (r.es.length = (gt m.rows 0).es.length ∧ r.good)))) := by
 refine bQ (φ := iW r) h ?_
 refine bQ (φ := aT m.p (recs wH m.rows)) (Hv.wmsl (List.Mem.tail _ hm)) ?_
 by_cases he : r.es.length = (gt m.rows 0).es.length
 ·have hq : B (¬ r.good) = B (¬ (r.es.length = (gt m.rows 0).es.length ∧ r.good)) := jU (not_congr ⟨fun h => ⟨he, h⟩, fun h => h.2⟩)
  refine bD Tryz.func197 rfl Tryz.ntmps197 rfl ?_
  repeat (refine aK ?_)
  (refine aA rfl (vK (r := r) hs aB) rfl rfl ?_; rintro _ _ _ ⟨rfl, rfl, rfl⟩; refine ⟨okF, ?_⟩)
  repeat (refine aK ?_)
  refine aH (by first | exact .inl rfl | exact .inr rfl) rfl rfl _ _ aC aD (⟨rfl, rfl, congrArg Value.bool hq⟩)
 ·have hn : ¬ (r.es.length = (gt m.rows 0).es.length ∧ r.good) := fun e => he e.1
  have hq : B (¬ (r.es.length = (gt m.rows 0).es.length ∧ r.good)) = true := bR hn
  refine bD Tryz.func197 rfl Tryz.ntmps197 rfl ?_
  repeat (refine aK ?_)
  refine aH (by first | exact .inl rfl | exact .inr rfl) rfl rfl _ _ aC aD (⟨rfl, rfl, congrArg Value.bool hq.symm⟩)
theorem WM.code_ok {m : WM} (h : m.ok) : m.code = 0 := if_pos h
theorem WM.code_no {m : WM} (h : ¬ m.ok) : m.code = 1 := if_neg h
theorem aGC {m : WM} (hs : m.sml) (hm : oZ m ∈ I0) : CD Tryz.prog 160 [mvW m] X w0 M0 I0 (fun v M I => M0 = M ∧ I0 = I ∧ v = .int .i64 m.code) := by
 refine bQ (φ := aT m.p (recs wH m.rows)) (Hv.wmsl hm) ?_
 have hl := hs.1
 by_cases hsh : 1 ≤ m.rows.length ∧ m.rows.length ≤ 64 ∧ 1 ≤ (gt m.rows 0).es.length ∧ (gt m.rows 0).es.length ≤ 64
 ·obtain ⟨s1, s2, s3, s4⟩ := hsh
  by_cases hall : ∃ r ∈ m.rows, ¬ (r.es.length = (gt m.rows 0).es.length ∧ r.good)
  ·have hno : ¬ m.ok := fun e => by obtain ⟨r, hr, hn⟩ := hall; exact hn (e.2 r hr)
   rw [WM.code_no hno]
   refine bE Tryz.func160 rfl Tryz.ntmps160 rfl ?_
   refine aJ ?_
   refine aI ?_
   (refine nG rfl rfl rfl ?_; intro b; refine ⟨okF, ?_⟩)
   repeat (refine aK ?_)
   (refine aA rfl (aGK (g := 197) (fs := #[]) (cs := #[.pointer (some ⟨b, 0, none⟩)]) (fun (r : WL) => ¬ (r.es.length = (gt m.rows 0).es.length ∧ r.good)) (by omega) aB (fun i hi => aDK (m := m) (b := b) s1 (hs.2 _ (cZ (by omega))) (Hv.wmrow aB (by omega)) aB aB)) rfl rfl ?_; rintro _ _ _ ⟨rfl, rfl, rfl⟩; refine ⟨okF, ?_⟩)
   rw [bR hall]
   repeat (refine aK ?_)
   refine aH (by first | exact .inl rfl | exact .inr rfl) rfl rfl _ _ aC aD (⟨rfl, rfl, rfl⟩)
  ·have hok : m.ok := ⟨⟨s1, s2, s3, s4⟩, fun r hr => Decidable.of_not_not (fun hn => hall ⟨r, hr, hn⟩)⟩
   rw [WM.code_ok hok]
   refine bE Tryz.func160 rfl Tryz.ntmps160 rfl ?_
   refine aJ ?_
   refine aI ?_
   (refine nG rfl rfl rfl ?_; intro b; refine ⟨okF, ?_⟩)
   repeat (refine aK ?_)
   (refine aA rfl (aGK (g := 197) (fs := #[]) (cs := #[.pointer (some ⟨b, 0, none⟩)]) (fun (r : WL) => ¬ (r.es.length = (gt m.rows 0).es.length ∧ r.good)) (by omega) aB (fun i hi => aDK (m := m) (b := b) s1 (hs.2 _ (cZ (by omega))) (Hv.wmrow aB (by omega)) aB aB)) rfl rfl ?_; rintro _ _ _ ⟨rfl, rfl, rfl⟩; refine ⟨okF, ?_⟩)
   rw [aY hall]
   repeat (refine aK ?_)
   refine aH (by first | exact .inl rfl | exact .inr rfl) rfl rfl _ _ aC aD (⟨rfl, rfl, rfl⟩)
 ·have hno : ¬ m.ok := fun e => hsh e.1
  rw [WM.code_no hno]
  refine bE Tryz.func160 rfl Tryz.ntmps160 rfl ?_
  refine aJ ?_
  refine aI ?_
  (refine nG rfl rfl rfl ?_; intro b; refine ⟨okF, ?_⟩)
  by_cases c1 : 1 ≤ m.rows.length
  ·by_cases c2 : m.rows.length ≤ 64
   ·by_cases c3 : 1 ≤ (gt m.rows 0).es.length
    ·repeat (refine aK ?_)
     refine aH (by first | exact .inl rfl | exact .inr rfl) rfl rfl _ _ aC aD (⟨rfl, rfl, rfl⟩)
    ·repeat (refine aK ?_)
     refine aH (by first | exact .inl rfl | exact .inr rfl) rfl rfl _ _ aC aD (⟨rfl, rfl, rfl⟩)
   ·repeat (refine aK ?_)
    refine aH (by first | exact .inl rfl | exact .inr rfl) rfl rfl _ _ aC aD (⟨rfl, rfl, rfl⟩)
  ·repeat (refine aK ?_)
   refine aH (by first | exact .inl rfl | exact .inr rfl) rfl rfl _ _ aC aD (⟨rfl, rfl, rfl⟩)
end
end Go.Proofs.YtgeagiikkeiioaaGreat
