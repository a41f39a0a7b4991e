/- Matrices and lists of fractions that are only read: facts about memory; matrices as they come in. Matrices as they come in; which numbers are brief. matrix.Check and its like, of matrices as they come in. matrix.Check, check, both, square; the document's Check; the law's code. Matrices and lists that are built by appending: rows of facts. -/
import Derived.Test.YtkccjglmnhgabaaGreatZhaz
import Derived.Test.YtkccjglmnhgabaaGreatZhav
import Derived.Test.YtkccjglmnhgabaaGreatZhaw
import Derived.Test.YtkccjglmnhgabaaGreatZhax
set_option linter.unusedSimpArgs false
set_option linter.unusedVariables false
set_option maxRecDepth 100000
set_option maxHeartbeats 4000000
namespace Go.Proofs.YtkccjglmnhgabaaGreat
open Go Go.Fx
structure RL where
 p : Option Addr
 c : Nat
 es : List RE
instance : Inhabited RL := ⟨⟨none, 0, []⟩⟩
abbrev eL (r : RL) : List Value := [.slice r.p r.es.length r.c]
abbrev lv (r : RL) : Value := .slice r.p r.es.length r.c
instance : Sized eL 1 := ⟨fun _ => rfl⟩
instance : Ones eL := ⟨fun m u hu => by simp only [eL, List.mem_cons, List.not_mem_nil, or_false] at hu; subst hu; rfl⟩
structure IsL (r : RL) (k : Nat) (X : List Nat) (w : World) : Prop where
 sl : Sl X w r.p (recs eR r.es)
 el : ∀ e ∈ r.es, IsR e k X w
 cap : Cap r.p r.es.length r.c
abbrev iY (r : RL) (k : Nat) : aZ := IsL r k
instance (r : RL) (k : Nat) : Fx.Good (IsL r k) := ⟨fun X Y w w' h he hY => ⟨Sl.carry h.sl he hY, fun e hm => Fx.Good.go (φ := IsR _ _) X Y w w' (h.el e hm) he hY, h.cap⟩⟩
abbrev RL.q (r : RL) : List Rat := qs r.es
structure MX where
 p : Option Addr
 c : Nat
 rows : List RL
instance : Inhabited MX := ⟨⟨none, 0, []⟩⟩
abbrev eMX (m : MX) : List Value := [.slice m.p m.rows.length m.c]
abbrev mv (m : MX) : Value := .slice m.p m.rows.length m.c
instance : Sized eMX 1 := ⟨fun _ => rfl⟩
instance : Ones eMX := ⟨fun m u hu => by simp only [eMX, List.mem_cons, List.not_mem_nil, or_false] at hu; subst hu; rfl⟩
structure IsX (m : MX) (k : Nat) (X : List Nat) (w : World) : Prop where
 sl : Sl X w m.p (recs eL m.rows)
 row : ∀ r ∈ m.rows, IsL r k X w
 cap : Cap m.p m.rows.length m.c
abbrev nU (m : MX) (k : Nat) : aZ := IsX m k
instance (m : MX) (k : Nat) : Fx.Good (IsX m k) := ⟨fun X Y w w' h he hY => ⟨Sl.carry h.sl he hY, fun e hm => Fx.Good.go (φ := IsL _ _) X Y w w' (h.row e hm) he hY, h.cap⟩⟩
abbrev MX.q (m : MX) : Mt := m.rows.map RL.q
def MX.dim (m : MX) (R C : Nat) : Prop := m.rows.length = R ∧ ∀ r ∈ m.rows, r.es.length = C
theorem MX.dim.row {m : MX} {R C : Nat} (h : m.dim R C) {i : Nat} (hi : i < R) : (gt m.rows (i : Int)).es.length = C := h.2 _ (dX ⟨by omega, by have := h.1; omega⟩)
/- what follows from the facts -/
theorem Hv.xsl {I : List aZ} {m : MX} {k : Nat} (h : nU m k ∈ I) : Hv I (bI m.p (recs eL m.rows)) := ⟨fun X w hw => ⟨(hw _ h : IsX m k X w).sl⟩⟩
theorem Hv.xrow {I : List aZ} {m : MX} {k : Nat} {i : Int} (h : nU m k ∈ I) (hi : 0 ≤ i ∧ i < m.rows.length) : Hv I (iY (gt m.rows i) k) := ⟨fun X w hw => (hw _ h : IsX m k X w).row _ (dX hi)⟩
theorem Hv.xrsl {I : List aZ} {m : MX} {k : Nat} {i : Int} (h : nU m k ∈ I) (hi : 0 ≤ i ∧ i < m.rows.length) : Hv I (bI (gt m.rows i).p (recs eR (gt m.rows i).es)) := ⟨fun X w hw => ⟨((hw _ h : IsX m k X w).row _ (dX hi)).sl⟩⟩
theorem Hv.xel {I : List aZ} {m : MX} {k : Nat} {i j : Int} (h : nU m k ∈ I) (hi : 0 ≤ i ∧ i < m.rows.length) (hj : 0 ≤ j ∧ j < (gt m.rows i).es.length) : Hv I (bM (gt (gt m.rows i).es j) k) := ⟨fun X w hw => ((hw _ h : IsX m k X w).row _ (dX hi)).el _ (dX hj)⟩
theorem Hv.lsl {I : List aZ} {r : RL} {k : Nat} (h : iY r k ∈ I) : Hv I (bI r.p (recs eR r.es)) := ⟨fun X w hw => ⟨(hw _ h : IsL r k X w).sl⟩⟩
theorem Hv.lel {I : List aZ} {r : RL} {k : Nat} {j : Int} (h : iY r k ∈ I) (hj : 0 ≤ j ∧ j < r.es.length) : Hv I (bM (gt r.es j) k) := ⟨fun X w hw => (hw _ h : IsL r k X w).el _ (dX hj)⟩
theorem Hv.lall {I : List aZ} {r : RL} {k : Nat} (h : iY r k ∈ I) : Hv I (fE r.es k) := ⟨fun X w hw => ⟨(hw _ h : IsL r k X w).el⟩⟩
theorem IsL.mono {r : RL} {k m : Nat} {X : List Nat} {w : World} (h : IsL r k X w) (hk : k ≤ m) : IsL r m X w := ⟨h.sl, fun e he => (h.el e he).mono hk, h.cap⟩
theorem Hv.lm {I : List aZ} {r : RL} {k m : Nat} (h : iY r k ∈ I) (hk : k ≤ m) : Hv I (iY r m) := ⟨fun X w hw => IsL.mono (hw _ h) hk⟩
/- the posts -/
def XQ (A : Mt) (R C k : Nat) (M0 : List Ent) (I0 : List aZ) (v : Value) (M : List Ent) (I : List aZ) : Prop := M0 = M ∧ ∃ m : MX, v = mv m ∧ m.q = A ∧ m.dim R C ∧ I = nU m k :: I0
def XQc (A : Mt) (R C k : Nat) (M0 : List Ent) (I0 : List aZ) (v : Value) (M : List Ent) (I : List aZ) : Prop := M0 = M ∧ ∃ m : MX, v = .tuple #[mv m, .int .i64 0] ∧ m.q = A ∧ m.dim R C ∧ I = nU m k :: I0
def LQ (l : List Rat) (k : Nat) (M0 : List Ent) (I0 : List aZ) (v : Value) (M : List Ent) (I : List aZ) : Prop := M0 = M ∧ ∃ r : RL, v = lv r ∧ r.q = l ∧ I = iY r k :: I0
def LQc (l : List Rat) (k : Nat) (M0 : List Ent) (I0 : List aZ) (v : Value) (M : List Ent) (I : List aZ) : Prop := M0 = M ∧ ∃ r : RL, v = .tuple #[lv r, .int .i64 0] ∧ r.q = l ∧ I = iY r k :: I0
def mkM (R C : Nat) (F : Nat → Nat → Rat) : Mt := (List.range R).map (fun i => (List.range C).map (F i))
theorem aKU {m : MX} {i j : Nat} (hi : i < m.rows.length) (hj : j < (gt m.rows (i : Int)).es.length) : at2 m.q i j = (gt (gt m.rows (i : Int)).es (j : Int)).q := by
 rw [fH hi] at hj
 unfold at2 rowAt
 rw [fH hi, fH hj]
 simp [List.getD, hi, hj]
theorem MX.dim.mk {m : MX} {R C : Nat} (h : m.dim R C) : m.q = mkM R C (at2 m.q) := by
 apply List.ext_getElem
 ·simp [mkM, h.1]
 ·intro i h1 h2
  have hi : i < m.rows.length := by simpa using h1
  have hc := h.2 _ (List.getElem_mem hi)
  apply List.ext_getElem
  ·simp [mkM, hc]
  ·intro j h3 h4
   have hj : j < (m.rows[i]).es.length := by simpa using h3
   simp only [mkM, List.getElem_map, List.getElem_range]
   rw [aKU hi (by rw [fH hi]; exact hj), fH hi, fH hj]
/- a matrix made is a matrix that is read -/
def MR.l (r : MR) : RL := ⟨some ⟨r.b, 0, none⟩, r.es.length, r.es⟩
theorem wZ {X : List Nat} {w0 w : World} {k : Nat} : ∀ {rows : List MR} {M : List Ent} {I : List aZ}, Mem X w0 (rows.map gG ++ M) I w → (∀ r ∈ rows, AllR r.es k (muts (rows.map gG ++ M)) w) → ∃ I', (∀ φ ∈ I, φ ∈ I') ∧ (∀ r ∈ rows, iY r.l k ∈ I') ∧ Mem X w0 M I' w
 | [], M, I, h, _ => ⟨I, fun _ h => h, fun r hr => by simp at hr, h⟩
 | r :: rows, M, I, h, ha => by
  have h1 : Mem X w0 (rows.map gG ++ M) (bI (some ⟨r.b, 0, none⟩) (recs eR r.es) :: I) w := h.freezeB .here
  have hsub : ∀ y ∈ muts (rows.map gG ++ M), y ∈ muts ((r :: rows).map gG ++ M) := fun y hy => by simp [muts] at hy ⊢; right; exact hy
  have h2 : IsL r.l k (muts (rows.map gG ++ M)) w := by
   refine ⟨(h1.sl (List.Mem.head _)), fun e he => ?_, Nat.le_refl _, .inl (Ok.mk _ _)⟩
   exact Fx.Good.go (φ := IsR _ _) _ _ w w ((ha r (List.Mem.head _)).go e he) (Ext.refl _ _) (fun y hy => .inl (hsub y hy))
  obtain ⟨I', i1, i2, i3⟩ := wZ (h1.add (φ := iY r.l k) h2) (fun s hs => ⟨fun e he => Fx.Good.go (φ := IsR _ _) _ _ w w ((ha s (List.Mem.tail _ hs)).go e he) (Ext.refl _ _) (fun y hy => .inl (hsub y hy))⟩)
  refine ⟨I', fun φ hφ => i1 φ (List.Mem.tail _ (List.Mem.tail _ hφ)), fun s hs => ?_, i3⟩
  rcases List.mem_cons.1 hs with rfl | hs
  ·exact i1 _ (List.Mem.head _)
  ·exact i2 s hs
def MR.x (bo : Nat) (rows : List MR) : MX := ⟨some ⟨bo, 0, none⟩, rows.length, rows.map MR.l⟩
theorem aPG (rows : List MR) : recs eL (rows.map MR.l) = recs eM rows := by
 induction rows with
 | nil => rfl
 | cons x r ih =>
  have h1 : recs eL ((x :: r).map MR.l) = eL x.l ++ recs eL (r.map MR.l) := rfl
  have h2 : recs eM (x :: r) = eM x ++ recs eM r := rfl
  rw [h1, h2, ih]
  rfl
theorem q_x (bo : Nat) (rows : List MR) : (MR.x bo rows).q = mq rows := by
 unfold MR.x
 simp [MX.q, MR.l, Function.comp_def]
theorem aMO {X : List Nat} {w0 w : World} {k bo : Nat} {rows : List MR} {M : List Ent} {I : List aZ} (h : Mem X w0 (.blk bo (recs eM rows) 39 :: (rows.map gG ++ M)) I w) (ha : allM rows k ∈ I) : Mem X w0 M (nU (MR.x bo rows) k :: I) w := by
 have h0 : Mem X w0 (rows.map gG ++ M) (bI (some ⟨bo, 0, none⟩) (recs eM rows) :: I) w := h.freezeB .here
 obtain ⟨I', i1, i2, i3⟩ := wZ (k := k) h0 (fun r hr => ⟨fun e he => ((h0.imm _ (List.Mem.tail _ ha)).2 : AllM rows k _ w).go r hr e he⟩)
 have h3 : IsX (MR.x bo rows) k (muts M) w := by
  refine ⟨?_, fun r hr => ?_, ?_⟩
  ·rw [show (MR.x bo rows).rows = rows.map MR.l from rfl, aPG]; exact i3.sl (i1 _ (List.Mem.head _))
  ·obtain ⟨s, hs, rfl⟩ := List.mem_map.1 hr
   exact (i3.imm _ (i2 s hs)).2
  ·show Cap (some ⟨bo, 0, none⟩) (rows.map MR.l).length rows.length
   rw [List.length_map]; exact ⟨Nat.le_refl _, .inl (Ok.mk _ _)⟩
 exact (i3.add (φ := nU (MR.x bo rows) k) h3).inc (.of fun φ hφ => by
  rcases List.mem_cons.1 hφ with rfl | hφ
  ·exact List.Mem.head _
  ·exact List.Mem.tail _ (i1 _ (List.Mem.tail _ hφ)))
section
variable {X : List Nat} {w0 : World} {M0 : List Ent} {I0 : List aZ}
end
end Go.Proofs.YtkccjglmnhgabaaGreat
namespace Go.Proofs.YtkccjglmnhgabaaGreat
open Go Go.Fx
structure WL where
 p : Option Addr
 c : Nat
 es : List RW
instance : Inhabited WL := ⟨⟨none, 0, []⟩⟩
abbrev eWL (r : WL) : List Value := [.slice r.p r.es.length r.c]
abbrev lvW (r : WL) : Value := .slice r.p r.es.length r.c
instance : Sized eWL 1 := ⟨fun _ => rfl⟩
instance : Ones eWL := ⟨fun m u hu => by simp only [eWL, List.mem_cons, List.not_mem_nil, or_false] at hu; subst hu; rfl⟩
structure IsWL (r : WL) (X : List Nat) (w : World) : Prop where
 sl : Sl X w r.p (recs eW r.es)
 el : ∀ e ∈ r.es, IsW e X w
 cap : Cap r.p r.es.length r.c
abbrev rJ (r : WL) : aZ := IsWL r
instance (r : WL) : Fx.Good (IsWL r) := ⟨fun X Y w w' h he hY => ⟨Sl.carry h.sl he hY, fun e hm => Fx.Good.go (φ := IsW _) X Y w w' (h.el e hm) he hY, h.cap⟩⟩
structure WM where
 p : Option Addr
 c : Nat
 rows : List WL
instance : Inhabited WM := ⟨⟨none, 0, []⟩⟩
abbrev eWM (m : WM) : List Value := [.slice m.p m.rows.length m.c]
abbrev mvW (m : WM) : Value := .slice m.p m.rows.length m.c
instance : Sized eWM 1 := ⟨fun _ => rfl⟩
instance : Ones eWM := ⟨fun m u hu => by simp only [eWM, List.mem_cons, List.not_mem_nil, or_false] at hu; subst hu; rfl⟩
structure IsWM (m : WM) (X : List Nat) (w : World) : Prop where
 sl : Sl X w m.p (recs eWL m.rows)
 row : ∀ r ∈ m.rows, IsWL r X w
 cap : Cap m.p m.rows.length m.c
abbrev wR (m : WM) : aZ := IsWM m
instance (m : WM) : Fx.Good (IsWM m) := ⟨fun X Y w w' h he hY => ⟨Sl.carry h.sl he hY, fun e hm => Fx.Good.go (φ := IsWL _) X Y w w' (h.row e hm) he hY, h.cap⟩⟩
structure AllWM (ms : List WM) (X : List Nat) (w : World) : Prop where
 go : ∀ m ∈ ms, IsWM m X w
abbrev allWM (ms : List WM) : aZ := AllWM ms
instance (ms : List WM) : Fx.Good (AllWM ms) := ⟨fun X Y w w' h he hY => ⟨fun m hm => Fx.Good.go (φ := IsWM _) X Y w w' (h.go m hm) he hY⟩⟩
theorem Hv.wlsl {I : List aZ} {r : WL} (h : rJ r ∈ I) : Hv I (bI r.p (recs eW r.es)) := ⟨fun X w hw => ⟨(hw _ h : IsWL r X w).sl⟩⟩
theorem Hv.wlel {I : List aZ} {r : WL} {j : Int} (h : rJ r ∈ I) (hj : 0 ≤ j ∧ j < r.es.length) : Hv I (isW (gt r.es j)) := ⟨fun X w hw => (hw _ h : IsWL r X w).el _ (dX hj)⟩
theorem Hv.wmsl {I : List aZ} {m : WM} (h : wR m ∈ I) : Hv I (bI m.p (recs eWL m.rows)) := ⟨fun X w hw => ⟨(hw _ h : IsWM m X w).sl⟩⟩
theorem Hv.wmrow {I : List aZ} {m : WM} {i : Int} (h : wR m ∈ I) (hi : 0 ≤ i ∧ i < m.rows.length) : Hv I (rJ (gt m.rows i)) := ⟨fun X w hw => (hw _ h : IsWM m X w).row _ (dX hi)⟩
/- short numbers, canonical ones, matrices -/
def RW.brief (r : RW) : Prop := r.g1.length ≤ 1 ∧ r.g2.length ≤ 1 ∧ (r.g1.length = 0 ∨ gt r.g1 0 < 100000) ∧ (r.g2.length = 0 ∨ gt r.g2 0 ≤ 100)
instance (r : RW) : Decidable r.brief := by unfold RW.brief; exact inferInstance
def RW.sml (r : RW) : Prop := r.g1.length ≤ 1000000000 ∧ r.g2.length ≤ 1000000000
def WL.sht (r : WL) : Prop := r.es.length ≤ 6 ∧ ∀ e ∈ r.es, e.brief
instance (r : WL) : Decidable r.sht := by unfold WL.sht; exact inferInstance
def WL.sml (r : WL) : Prop := r.es.length ≤ 1000000000 ∧ ∀ e ∈ r.es, e.sml
def WL.good (r : WL) : Prop := ∀ e ∈ r.es, e.good
instance (r : WL) : Decidable r.good := by unfold WL.good; exact inferInstance
def WM.sht (m : WM) : Prop := m.rows.length ≤ 6 ∧ ∀ r ∈ m.rows, r.sht
instance (m : WM) : Decidable m.sht := by unfold WM.sht; exact inferInstance
def WM.sml (m : WM) : Prop := m.rows.length ≤ 1000000000 ∧ ∀ r ∈ m.rows, r.sml
def WM.ok (m : WM) : Prop := (1 ≤ m.rows.length ∧ m.rows.length ≤ 64 ∧ 1 ≤ (gt m.rows 0).es.length ∧ (gt m.rows 0).es.length ≤ 64) ∧ ∀ r ∈ m.rows, r.es.length = (gt m.rows 0).es.length ∧ r.good
instance (m : WM) : Decidable m.ok := by unfold WM.ok; exact inferInstance
/- of canonical numbers -/
def RL.raw (r : RL) : WL := ⟨r.p, r.c, r.es.map RE.raw⟩
def MX.raw (m : MX) : WM := ⟨m.p, m.c, m.rows.map RL.raw⟩
theorem aJJ (es : List RE) : recs eW (es.map RE.raw) = recs eR es := by
 induction es with
 | nil => rfl
 | cons x r ih =>
  have h1 : recs eW ((x :: r).map RE.raw) = eW x.raw ++ recs eW (r.map RE.raw) := rfl
  have h2 : recs eR (x :: r) = eR x ++ recs eR r := rfl
  rw [h1, h2, ih]; rfl
theorem aIQ (rows : List RL) : recs eWL (rows.map RL.raw) = recs eL rows := by
 induction rows with
 | nil => rfl
 | cons x r ih =>
  have h1 : recs eWL ((x :: r).map RL.raw) = eWL x.raw ++ recs eWL (r.map RL.raw) := rfl
  have h2 : recs eL (x :: r) = eL x ++ recs eL r := rfl
  rw [h1, h2, ih]
  show [Value.slice x.p (x.es.map RE.raw).length x.c] ++ _ = [Value.slice x.p x.es.length x.c] ++ _
  rw [List.length_map]
theorem aJX (r : RL) : lvW r.raw = lv r := by show Value.slice r.p (r.es.map RE.raw).length r.c = _; rw [List.length_map]
theorem aFL (m : MX) : mvW m.raw = mv m := by show Value.slice m.p (m.rows.map RL.raw).length m.c = _; rw [List.length_map]
theorem RL.raw_good (r : RL) : r.raw.good := fun e he => by
 obtain ⟨x, _, rfl⟩ := List.mem_map.1 he
 exact x.raw_good
theorem IsL.raw {r : RL} {k : Nat} {X : List Nat} {w : World} (hk : k ≤ 1000000000000) (h : IsL r k X w) : IsWL r.raw X w :=
 ⟨by show Sl X w r.p (recs eW (r.es.map RE.raw)); rw [aJJ]; exact h.sl, fun e he => by obtain ⟨x, hx, rfl⟩ := List.mem_map.1 he; exact RE.fit hk (h.el x hx), by show Cap r.p (r.es.map RE.raw).length r.c; rw [List.length_map]; exact h.cap⟩
theorem IsX.raw {m : MX} {k : Nat} {X : List Nat} {w : World} (hk : k ≤ 1000000000000) (h : IsX m k X w) : IsWM m.raw X w :=
 ⟨by show Sl X w m.p (recs eWL (m.rows.map RL.raw)); rw [aIQ]; exact h.sl, fun e he => by obtain ⟨x, hx, rfl⟩ := List.mem_map.1 he; exact IsL.raw hk (h.row x hx), by show Cap m.p (m.rows.map RL.raw).length m.c; rw [List.length_map]; exact h.cap⟩
theorem IsR.sml {e : RE} {k : Nat} {X : List Nat} {w : World} (hk : k ≤ 20000000000) (h : IsR e k X w) : e.raw.sml := by
 have a := dZ (IsI.le h.num)
 have b := dZ (IsI.le h.den)
 constructor
 ·show (gr e.q.num.natAbs).length ≤ _; omega
 ·show (gr (e.q.den : Int).natAbs).length ≤ _; omega
theorem Hv.lraw {I : List aZ} {r : RL} {k : Nat} (h : iY r k ∈ I) (hk : k ≤ 20000000000) : Hv I (rJ r.raw) := ⟨fun X w hw => IsL.raw (by omega) (hw _ h)⟩
theorem Hv.xraw {I : List aZ} {m : MX} {k : Nat} (h : nU m k ∈ I) (hk : k ≤ 20000000000) : Hv I (wR m.raw) := ⟨fun X w hw => IsX.raw (by omega) (hw _ h)⟩
theorem aLO {α β : Type} [Inhabited α] [Inhabited β] {l : List α} {f : α → β} {i : Int} (h : 0 ≤ i ∧ i < l.length) : gt (l.map f) i = f (gt l i) := by
 obtain ⟨n, rfl⟩ : ∃ n : Nat, i = n := ⟨i.toNat, by omega⟩
 rw [fH (by simpa using h.2), fH (by omega)]
 simp
theorem aPW {m : MX} {R C : Nat} (h : m.dim R C) (hR : 1 ≤ R ∧ R ≤ 64) (hC : 1 ≤ C ∧ C ≤ 64) : m.raw.ok := by
 have e : m.raw.rows = m.rows.map RL.raw := rfl
 have h0 := h.1
 have hl : ∀ r ∈ m.rows, r.raw.es.length = C := fun r hr => by rw [show r.raw.es = r.es.map RE.raw from rfl, List.length_map]; exact h.2 r hr
 unfold WM.ok
 rw [e, List.length_map, aLO (by omega), hl _ (dX (by omega))]
 refine ⟨by omega, fun r hr => ?_⟩
 obtain ⟨s, hs, rfl⟩ := List.mem_map.1 hr
 exact ⟨hl s hs, s.raw_good⟩
end Go.Proofs.YtkccjglmnhgabaaGreat
namespace Go.Proofs.YtkccjglmnhgabaaGreat
open Go Go.Fx
/- ---------- IndexFunc, ContainsFunc of []fiducial/api.Rat ---------- -/
section
variable {X : List Nat} {w0 : World} {M0 : List Ent} {I0 : List aZ}
theorem aKM {q : Option Addr} {a : List RW} {c : Nat} {g : FuncId} [FnOk Tryz.prog g] {fs cs : Array Value} (pr : RW → Prop) [DecidablePred pr] (hn : (a.length : Int) ≤ 9223372036854775807) (ha : bI q (recs eW a) ∈ I0)
  (hg : ∀ i : Nat, i < a.length → CD Tryz.prog g (fs.toList ++ [wv (gt a i)] ++ cs.toList) X w0 M0 I0 (fun v M I => M0 = M ∧ I0 = I ∧ v = .bool (B (pr (gt a i))))) :
  CD Tryz.prog 117 [.slice q a.length c, .func (.func g) fs cs] X w0 M0 I0 (fun v M I => M0 = M ∧ I0 = I ∧ ∃ r : Int, v = .int .i64 r ∧ ((∃ i : Nat, i < a.length ∧ r = i ∧ pr (gt a i) ∧ ∀ j : Nat, j < i → ¬ pr (gt a j)) ∨ (r = -1 ∧ ∀ j : Nat, j < a.length → ¬ pr (gt a j)))) := by
 refine bE Tryz.func117 rfl Tryz.ntmps117 rfl ?_
 repeat (refine aJ ?_)
 refine bG [0, 1, 7] rfl (fun k G M I => ∃ i : Nat, i ≤ a.length ∧ k = a.length - i ∧ (∀ j : Nat, j < i → ¬ pr (gt a j)) ∧ G = [(8, .int .i64 i)] ∧ M = M0 ∧ I = I0) (a.length) _ _ _ aO aD aF (⟨0, by omega, rfl, fun j hj => by omega, rfl, rfl, rfl⟩) ?_
 rintro k G M I ⟨i, hi, rfl, hs, rfl, rfl, rfl⟩
 repeat' (first | refine aJ ?_ | refine aU rfl (fun h => ?_) (fun h => ?_) | refine aT rfl rfl (fun h => ?_) (fun h => ?_) | fail)
 ·have hlt : i < a.length := by omega
  (refine qI rfl rfl (hg i hlt) rfl rfl rfl ?_; rintro _ _ _ ⟨rfl, rfl, rfl⟩; refine ⟨okF, ?_⟩)
  repeat' (first | refine aJ ?_ | refine aU rfl (fun h => ?_) (fun h => ?_) | refine aT rfl rfl (fun h => ?_) (fun h => ?_) | fail)
  ·refine aQ (by first | exact .inl rfl | exact .inr rfl) rfl rfl _ _ aD aF (⟨rfl, rfl, _, rfl, .inl ⟨i, hlt, rfl, by assumption, hs⟩⟩)
  ·refine aS (a.length - (i + 1)) _ _ _ (by first | omega | (simp only [List.length_append, List.length_cons, List.length_nil]; omega)) aO aD aF (⟨i + 1, by omega, rfl, fun j hj => ?_, rfl, rfl, rfl⟩)
   by_cases e : j = i
   ·subst e; assumption
   ·exact hs j (by omega)
 ·refine aQ (by first | exact .inl rfl | exact .inr rfl) rfl rfl _ _ aD aF (⟨rfl, rfl, _, rfl, .inr ⟨rfl, fun j hj => hs j (by omega)⟩⟩)
theorem aJG {q : Option Addr} {a : List RW} {c : Nat} {g : FuncId} [FnOk Tryz.prog g] {fs cs : Array Value} (pr : RW → Prop) [DecidablePred pr] (hn : (a.length : Int) ≤ 9223372036854775807) (ha : bI q (recs eW a) ∈ I0)
  (hg : ∀ i : Nat, i < a.length → CD Tryz.prog g (fs.toList ++ [wv (gt a i)] ++ cs.toList) X w0 M0 I0 (fun v M I => M0 = M ∧ I0 = I ∧ v = .bool (B (pr (gt a i))))) :
  CD Tryz.prog 76 [.slice q a.length c, .func (.func g) fs cs] X w0 M0 I0 (fun v M I => M0 = M ∧ I0 = I ∧ v = .bool (B (∃ x ∈ a, pr x))) := by
 refine bE Tryz.func76 rfl Tryz.ntmps76 rfl ?_
 repeat (refine aJ ?_)
 (refine aA rfl (aKM pr hn ha hg) rfl rfl ?_; rintro _ _ _ ⟨rfl, rfl, r, rfl, h⟩; refine ⟨okF, ?_⟩)
 repeat (refine aJ ?_)
 refine aQ (by first | exact .inl rfl | exact .inr rfl) rfl rfl _ _ aD aF (⟨rfl, rfl, congrArg Value.bool (gD ?_)⟩)
 rcases h with ⟨i, hi, rfl, hp, _⟩ | ⟨rfl, h⟩
 ·exact ⟨fun _ => ⟨gt a i, by rw [lI hi]; exact List.getElem_mem hi, hp⟩, fun _ => by omega⟩
 ·refine ⟨fun h => by omega, ?_⟩
  rintro ⟨x, hx, hp⟩
  obtain ⟨j, hj, rfl⟩ := List.mem_iff_getElem.1 hx
  exact absurd (by rw [lI hj]; exact hp) (h j hj)
end
/- ---------- IndexFunc, ContainsFunc of fiducial/api.Matrix ---------- -/
section
variable {X : List Nat} {w0 : World} {M0 : List Ent} {I0 : List aZ}
theorem aLU {q : Option Addr} {a : List WL} {c : Nat} {g : FuncId} [FnOk Tryz.prog g] {fs cs : Array Value} (pr : WL → Prop) [DecidablePred pr] (hn : (a.length : Int) ≤ 9223372036854775807) (ha : bI q (recs eWL a) ∈ I0)
  (hg : ∀ i : Nat, i < a.length → CD Tryz.prog g (fs.toList ++ [lvW (gt a i)] ++ cs.toList) X w0 M0 I0 (fun v M I => M0 = M ∧ I0 = I ∧ v = .bool (B (pr (gt a i))))) :
  CD Tryz.prog 136 [.slice q a.length c, .func (.func g) fs cs] X w0 M0 I0 (fun v M I => M0 = M ∧ I0 = I ∧ ∃ r : Int, v = .int .i64 r ∧ ((∃ i : Nat, i < a.length ∧ r = i ∧ pr (gt a i) ∧ ∀ j : Nat, j < i → ¬ pr (gt a j)) ∨ (r = -1 ∧ ∀ j : Nat, j < a.length → ¬ pr (gt a j)))) := by
 refine bE Tryz.func136 rfl Tryz.ntmps136 rfl ?_
 repeat (refine aJ ?_)
 refine bG [0, 1, 7] rfl (fun k G M I => ∃ i : Nat, i ≤ a.length ∧ k = a.length - i ∧ (∀ j : Nat, j < i → ¬ pr (gt a j)) ∧ G = [(8, .int .i64 i)] ∧ M = M0 ∧ I = I0) (a.length) _ _ _ aO aD aF (⟨0, by omega, rfl, fun j hj => by omega, rfl, rfl, rfl⟩) ?_
 rintro k G M I ⟨i, hi, rfl, hs, rfl, rfl, rfl⟩
 repeat' (first | refine aJ ?_ | refine aU rfl (fun h => ?_) (fun h => ?_) | refine aT rfl rfl (fun h => ?_) (fun h => ?_) | fail)
 ·have hlt : i < a.length := by omega
  (refine qI rfl rfl (hg i hlt) rfl rfl rfl ?_; rintro _ _ _ ⟨rfl, rfl, rfl⟩; refine ⟨okF, ?_⟩)
  repeat' (first | refine aJ ?_ | refine aU rfl (fun h => ?_) (fun h => ?_) | refine aT rfl rfl (fun h => ?_) (fun h => ?_) | fail)
  ·refine aQ (by first | exact .inl rfl | exact .inr rfl) rfl rfl _ _ aD aF (⟨rfl, rfl, _, rfl, .inl ⟨i, hlt, rfl, by assumption, hs⟩⟩)
  ·refine aS (a.length - (i + 1)) _ _ _ (by first | omega | (simp only [List.length_append, List.length_cons, List.length_nil]; omega)) aO aD aF (⟨i + 1, by omega, rfl, fun j hj => ?_, rfl, rfl, rfl⟩)
   by_cases e : j = i
   ·subst e; assumption
   ·exact hs j (by omega)
 ·refine aQ (by first | exact .inl rfl | exact .inr rfl) rfl rfl _ _ aD aF (⟨rfl, rfl, _, rfl, .inr ⟨rfl, fun j hj => hs j (by omega)⟩⟩)
theorem aCM {q : Option Addr} {a : List WL} {c : Nat} {g : FuncId} [FnOk Tryz.prog g] {fs cs : Array Value} (pr : WL → Prop) [DecidablePred pr] (hn : (a.length : Int) ≤ 9223372036854775807) (ha : bI q (recs eWL a) ∈ I0)
  (hg : ∀ i : Nat, i < a.length → CD Tryz.prog g (fs.toList ++ [lvW (gt a i)] ++ cs.toList) X w0 M0 I0 (fun v M I => M0 = M ∧ I0 = I ∧ v = .bool (B (pr (gt a i))))) :
  CD Tryz.prog 72 [.slice q a.length c, .func (.func g) fs cs] X w0 M0 I0 (fun v M I => M0 = M ∧ I0 = I ∧ v = .bool (B (∃ x ∈ a, pr x))) := by
 refine bE Tryz.func72 rfl Tryz.ntmps72 rfl ?_
 repeat (refine aJ ?_)
 (refine aA rfl (aLU pr hn ha hg) rfl rfl ?_; rintro _ _ _ ⟨rfl, rfl, r, rfl, h⟩; refine ⟨okF, ?_⟩)
 repeat (refine aJ ?_)
 refine aQ (by first | exact .inl rfl | exact .inr rfl) rfl rfl _ _ aD aF (⟨rfl, rfl, congrArg Value.bool (gD ?_)⟩)
 rcases h with ⟨i, hi, rfl, hp, _⟩ | ⟨rfl, h⟩
 ·exact ⟨fun _ => ⟨gt a i, by rw [lI hi]; exact List.getElem_mem hi, hp⟩, fun _ => by omega⟩
 ·refine ⟨fun h => by omega, ?_⟩
  rintro ⟨x, hx, hp⟩
  obtain ⟨j, hj, rfl⟩ := List.mem_iff_getElem.1 hx
  exact absurd (by rw [lI hj]; exact hp) (h j hj)
end
section
variable {X : List Nat} {w0 : World} {M0 : List Ent} {I0 : List aZ}
theorem zL {r : RW} (hs : r.sml) (hw : Hv I0 (isW r)) : CD Tryz.prog 159 [wv r] X w0 M0 I0 (fun v M I => M0 = M ∧ I0 = I ∧ v = .bool (B (¬ r.good))) := by
 refine cO Tryz.func159 rfl Tryz.ntmps159 rfl ?_
 refine aL ?_
 refine aM ?_
 (refine aR rfl rfl rfl ?_; intro b; refine ⟨okF, ?_⟩)
 repeat (refine aJ ?_)
 (refine aA rfl (pR (r := r) hs hw) rfl rfl ?_; rintro _ _ _ ⟨rfl, rfl, rfl⟩; refine ⟨okF, ?_⟩)
 repeat (refine aJ ?_)
 refine aQ (by first | exact .inl rfl | exact .inr rfl) rfl rfl _ _ aD aF (⟨rfl, rfl, rfl⟩)
theorem uE {r : WL} (hs : r.sml) (hw : rJ r ∈ I0) : CD Tryz.prog 114 [lvW r] X w0 M0 I0 (fun v M I => M0 = M ∧ I0 = I ∧ v = .bool (B r.good)) := by
 refine eD (φ := bI r.p (recs eW r.es)) (Hv.wlsl hw) ?_
 have hl := hs.1
 refine cO Tryz.func114 rfl Tryz.ntmps114 rfl ?_
 repeat (refine aJ ?_)
 (refine aA rfl (aJG (g := 159) (fs := #[]) (cs := #[]) (fun (x : RW) => ¬ x.good) (by omega) (List.Mem.head _) (fun i hi => zL (hs.2 _ (dX (by omega))) (Hv.wlel (List.Mem.tail _ hw) (by omega)))) rfl rfl ?_; rintro _ _ _ ⟨rfl, rfl, rfl⟩; refine ⟨okF, ?_⟩)
 repeat (refine aJ ?_)
 refine aQ (by first | exact .inl rfl | exact .inr rfl) rfl rfl _ _ aD aF (⟨rfl, rfl, congrArg Value.bool (gD ?_)⟩)
 exact ⟨fun e x hx => Decidable.of_not_not (fun hn => e ⟨x, hx, hn⟩), fun e ⟨x, hx, hn⟩ => hn (e x hx)⟩
end
end Go.Proofs.YtkccjglmnhgabaaGreat
namespace Go.Proofs.YtkccjglmnhgabaaGreat
open Go Go.Fx
def WM.code (m : WM) : Int := if m.ok then 0 else 1
def codeL (ms : List WM) : Int := if ∀ m ∈ ms, m.ok then 0 else 1
def bothC (a b : WM) : Int := if a.ok ∧ b.ok then (if a.rows.length = b.rows.length ∧ (gt a.rows 0).es.length = (gt b.rows 0).es.length then 0 else 4) else 1
def sqC (a : WM) : Int := if a.ok then (if a.rows.length = (gt a.rows 0).es.length then 0 else 4) else 1
section
variable {P : Program} {n : Nat} {Q : Exit → Act → World → Prop} {G : Env} {X : List Nat} {w0 : World} {M M' : List Ent} {I I' : List aZ} {ops l : List Oper} {m : Fx.Mode} {ty : TypeId} {pos : String} {af : Array Edge} {g : Option (Nat × Bool)}
theorem vM {d : Nat} {t : TypeId} {x : Operand} {q : Option Addr} {len c : Nat} (hx : ev G x = some (.slice q len c)) (hg : nV ops G g = some true) (hd : Nat.ble (d + 1) n = true)
  (k : ∀ b, OkD m X w0 (.blk b [.slice q len c] t :: M) I ∧ RD P n ops Q m.nextE l ((d, .pointer (some ⟨b, 0, none⟩)) :: G) X w0 M (bI (some ⟨b, 0, none⟩) [.slice q len c] :: I)) :
  RD P n ops Q m (⟨some d, .box t x, ty, pos, af, g⟩ :: l) G X w0 M I := mK hx hg hd (fun b => ⟨(k b).1, bF .here (k b).2⟩)
end
section
variable {X : List Nat} {w0 : World} {M0 : List Ent} {I0 : List aZ}
theorem aAS {m : WM} {b : Nat} {r : WL} (hR : 1 ≤ m.rows.length) (hs : r.sml) (h : Hv I0 (rJ r)) (hm : wR m ∈ I0) (hb : bI (some ⟨b, 0, none⟩) [.slice m.p m.rows.length m.c] ∈ I0) :
  CD Tryz.prog 113 [lvW r, .pointer (some ⟨b, 0, none⟩)] X w0 M0 I0 (fun v M I => M0 = M ∧ I0 = I ∧ v = .bool (B (¬ (r.es.length = (gt m.rows 0).es.length ∧ r.good)))) := by
 refine eD (φ := rJ r) h ?_
 refine eD (φ := bI m.p (recs eWL m.rows)) (Hv.wmsl (List.Mem.tail _ hm)) ?_
 by_cases he : r.es.length = (gt m.rows 0).es.length
 ·have hq : B (¬ r.good) = B (¬ (r.es.length = (gt m.rows 0).es.length ∧ r.good)) := gD (not_congr ⟨fun h => ⟨he, h⟩, fun h => h.2⟩)
  refine bE Tryz.func113 rfl Tryz.ntmps113 rfl ?_
  repeat (refine aJ ?_)
  (refine aA rfl (uE (r := r) hs aC) rfl rfl ?_; rintro _ _ _ ⟨rfl, rfl, rfl⟩; refine ⟨okF, ?_⟩)
  repeat (refine aJ ?_)
  refine aQ (by first | exact .inl rfl | exact .inr rfl) rfl rfl _ _ aD aF (⟨rfl, rfl, congrArg Value.bool hq⟩)
 ·have hn : ¬ (r.es.length = (gt m.rows 0).es.length ∧ r.good) := fun e => he e.1
  have hq : B (¬ (r.es.length = (gt m.rows 0).es.length ∧ r.good)) = true := dG hn
  refine bE Tryz.func113 rfl Tryz.ntmps113 rfl ?_
  repeat (refine aJ ?_)
  refine aQ (by first | exact .inl rfl | exact .inr rfl) rfl rfl _ _ aD aF (⟨rfl, rfl, congrArg Value.bool hq.symm⟩)
theorem WM.code_ok {m : WM} (h : m.ok) : m.code = 0 := if_pos h
theorem WM.code_no {m : WM} (h : ¬ m.ok) : m.code = 1 := if_neg h
theorem aCJ {m : WM} (hs : m.sml) (hm : wR m ∈ I0) : CD Tryz.prog 59 [mvW m] X w0 M0 I0 (fun v M I => M0 = M ∧ I0 = I ∧ v = .int .i64 m.code) := by
 refine eD (φ := bI m.p (recs eWL m.rows)) (Hv.wmsl hm) ?_
 have hl := hs.1
 by_cases hsh : 1 ≤ m.rows.length ∧ m.rows.length ≤ 64 ∧ 1 ≤ (gt m.rows 0).es.length ∧ (gt m.rows 0).es.length ≤ 64
 ·obtain ⟨s1, s2, s3, s4⟩ := hsh
  by_cases hall : ∃ r ∈ m.rows, ¬ (r.es.length = (gt m.rows 0).es.length ∧ r.good)
  ·have hno : ¬ m.ok := fun e => by obtain ⟨r, hr, hn⟩ := hall; exact hn (e.2 r hr)
   rw [WM.code_no hno]
   refine cO Tryz.func59 rfl Tryz.ntmps59 rfl ?_
   refine aL ?_
   refine aM ?_
   (refine vM rfl rfl rfl ?_; intro b; refine ⟨okF, ?_⟩)
   repeat (refine aJ ?_)
   (refine aA rfl (aCM (g := 113) (fs := #[]) (cs := #[.pointer (some ⟨b, 0, none⟩)]) (fun (r : WL) => ¬ (r.es.length = (gt m.rows 0).es.length ∧ r.good)) (by omega) aC (fun i hi => aAS (m := m) (b := b) s1 (hs.2 _ (dX (by omega))) (Hv.wmrow aC (by omega)) aC aC)) rfl rfl ?_; rintro _ _ _ ⟨rfl, rfl, rfl⟩; refine ⟨okF, ?_⟩)
   rw [dG hall]
   repeat (refine aJ ?_)
   refine aQ (by first | exact .inl rfl | exact .inr rfl) rfl rfl _ _ aD aF (⟨rfl, rfl, rfl⟩)
  ·have hok : m.ok := ⟨⟨s1, s2, s3, s4⟩, fun r hr => Decidable.of_not_not (fun hn => hall ⟨r, hr, hn⟩)⟩
   rw [WM.code_ok hok]
   refine cO Tryz.func59 rfl Tryz.ntmps59 rfl ?_
   refine aL ?_
   refine aM ?_
   (refine vM rfl rfl rfl ?_; intro b; refine ⟨okF, ?_⟩)
   repeat (refine aJ ?_)
   (refine aA rfl (aCM (g := 113) (fs := #[]) (cs := #[.pointer (some ⟨b, 0, none⟩)]) (fun (r : WL) => ¬ (r.es.length = (gt m.rows 0).es.length ∧ r.good)) (by omega) aC (fun i hi => aAS (m := m) (b := b) s1 (hs.2 _ (dX (by omega))) (Hv.wmrow aC (by omega)) aC aC)) rfl rfl ?_; rintro _ _ _ ⟨rfl, rfl, rfl⟩; refine ⟨okF, ?_⟩)
   rw [bN hall]
   repeat (refine aJ ?_)
   refine aQ (by first | exact .inl rfl | exact .inr rfl) rfl rfl _ _ aD aF (⟨rfl, rfl, rfl⟩)
 ·have hno : ¬ m.ok := fun e => hsh e.1
  rw [WM.code_no hno]
  refine cO Tryz.func59 rfl Tryz.ntmps59 rfl ?_
  refine aL ?_
  refine aM ?_
  (refine vM rfl rfl rfl ?_; intro b; refine ⟨okF, ?_⟩)
  by_cases c1 : 1 ≤ m.rows.length
  ·by_cases c2 : m.rows.length ≤ 64
   ·by_cases c3 : 1 ≤ (gt m.rows 0).es.length
    ·repeat (refine aJ ?_)
     refine aQ (by first | exact .inl rfl | exact .inr rfl) rfl rfl _ _ aD aF (⟨rfl, rfl, rfl⟩)
    ·repeat (refine aJ ?_)
     refine aQ (by first | exact .inl rfl | exact .inr rfl) rfl rfl _ _ aD aF (⟨rfl, rfl, rfl⟩)
   ·repeat (refine aJ ?_)
    refine aQ (by first | exact .inl rfl | exact .inr rfl) rfl rfl _ _ aD aF (⟨rfl, rfl, rfl⟩)
  ·repeat (refine aJ ?_)
   refine aQ (by first | exact .inl rfl | exact .inr rfl) rfl rfl _ _ aD aF (⟨rfl, rfl, rfl⟩)
end
end Go.Proofs.YtkccjglmnhgabaaGreat
namespace Go.Proofs.YtkccjglmnhgabaaGreat
open Go Go.Fx
structure AllL (rows : List RL) (k : Nat) (X : List Nat) (w : World) : Prop where
 go : ∀ r ∈ rows, IsL r k X w
abbrev kG (rows : List RL) (k : Nat) : aZ := AllL rows k
instance (rows : List RL) (k : Nat) : Fx.Good (AllL rows k) := ⟨fun X Y w w' h he hY => ⟨fun r hm => Fx.Good.go (φ := IsL _ _) X Y w w' (h.go r hm) he hY⟩⟩
theorem Hv.nilL {I : List aZ} {k : Nat} : Hv I (kG [] k) := ⟨fun X w _ => ⟨fun x hx => by simp at hx⟩⟩
theorem Hv.snocL {I : List aZ} {rows : List RL} {r : RL} {k : Nat} (h1 : kG rows k ∈ I) (h2 : iY r k ∈ I) : Hv I (kG (rows ++ [r]) k) := ⟨fun X w hw => ⟨fun x hx => by
 rcases List.mem_append.1 hx with hx | hx
 ·exact (hw _ h1 : AllL rows k X w).go x hx
 ·rw [List.mem_singleton.1 hx]; exact hw _ h2⟩⟩
section
variable {X : List Nat} {w0 : World} {M : List Ent} {I : List aZ}
theorem Mem.toL {w : World} {q : Option Addr} {c k : Nat} {es : List RE} {ty : TypeId} {sz : Nat} (h : Mem X w0 (.row q es.length c (recs eR es) ty sz :: M) I w) (ha : fE es k ∈ I) : Mem X w0 M (iY ⟨q, c, es⟩ k :: I) w := by
 have ho := h.rowS List.mem_cons_self
 have hc := h.rowLe List.mem_cons_self
 have h1 := h.freezeR .here
 refine (h1.add (φ := iY ⟨q, c, es⟩ k) ⟨(h1.sl (List.Mem.head _)), (((h1.imm _ (List.Mem.tail _ ha)).2 : AllR es k _ w)).go, ⟨hc, ho.2.imp id And.right⟩⟩).inc (.of fun φ hφ => ?_)
 rcases List.mem_cons.1 hφ with rfl | hφ
 ·exact List.Mem.head _
 ·exact List.Mem.tail _ (List.Mem.tail _ hφ)
theorem Mem.toX {w : World} {q : Option Addr} {c k : Nat} {rows : List RL} {ty : TypeId} {sz : Nat} (h : Mem X w0 (.row q rows.length c (recs eL rows) ty sz :: M) I w) (ha : kG rows k ∈ I) : Mem X w0 M (nU ⟨q, c, rows⟩ k :: I) w := by
 have ho := h.rowS List.mem_cons_self
 have hc := h.rowLe List.mem_cons_self
 have h1 := h.freezeR .here
 refine (h1.add (φ := nU ⟨q, c, rows⟩ k) ⟨(h1.sl (List.Mem.head _)), (((h1.imm _ (List.Mem.tail _ ha)).2 : AllL rows k _ w)).go, ⟨hc, ho.2.imp id And.right⟩⟩).inc (.of fun φ hφ => ?_)
 rcases List.mem_cons.1 hφ with rfl | hφ
 ·exact List.Mem.head _
 ·exact List.Mem.tail _ (List.Mem.tail _ hφ)
variable {P : Program} {n : Nat} {Q : Exit → Act → World → Prop} {G : Env}
theorem aEL {cd : Code} {q : Option Addr} {c k : Nat} {es : List RE} {ty : TypeId} {sz : Nat} (ha : fE es k ∈ I) (h : TD P n cd Q G X w0 M (iY ⟨q, c, es⟩ k :: I)) : TD P n cd Q G X w0 (.row q es.length c (recs eR es) ty sz :: M) I := yO (fun _ hw => Mem.toL hw ha) h
theorem aBO {ex : Exit} {q : Option Addr} {c k : Nat} {es : List RE} {ty : TypeId} {sz : Nat} (ha : fE es k ∈ I) (h : ND n Q ex G X w0 M (iY ⟨q, c, es⟩ k :: I)) : ND n Q ex G X w0 (.row q es.length c (recs eR es) ty sz :: M) I := yX (fun _ hw => Mem.toL hw ha) h
theorem aKY {ex : Exit} {q : Option Addr} {c k : Nat} {rows : List RL} {ty : TypeId} {sz : Nat} (ha : kG rows k ∈ I) (h : ND n Q ex G X w0 M (nU ⟨q, c, rows⟩ k :: I)) : ND n Q ex G X w0 (.row q rows.length c (recs eL rows) ty sz :: M) I := yX (fun _ hw => Mem.toX hw ha) h
end
theorem aOZ {rows : List RL} {r : RL} : (rows ++ [r]).map RL.q = rows.map RL.q ++ [r.q] := by simp
end Go.Proofs.YtkccjglmnhgabaaGreat
