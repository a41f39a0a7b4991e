/- Arrays: sliced, built, read by an index; loads of eight and twelve cells. Matrices as they come in; which numbers are brief. The walk, kept once. -/
import Derived.Test.YtdmlebigkakplaaGreatZdaa
import Derived.Test.YtdmlebigkakplaaGreatZdad
import Derived.Test.YtdmlebigkakplaaGreatZmak
set_option linter.unusedSimpArgs false
set_option linter.unusedVariables false
namespace Go.Fx
section
variable {P : Program} {n : Nat} {G : Env} {ty : TypeId} {C : World → Prop}
theorem Const_sliceA {t e : TypeId} {sz len b o : Nat} {x : Operand} [ht : ArrTy P t len e sz] (hx : ev G x = some (.pointer (some ⟨b, o, none⟩))) :
    Const P n G (.slice t x none none none) ty C (.slice (some ⟨b, o, none⟩) len len) := by
  refine ⟨?_⟩
  intro st ha dst pos after guard w _
  by_cases h : len = 0
  · subst h
    simp [execOp, Instr.sliceAt, ha.ev hx, run_und ht.und, run_sizeOf ht.size, Instr.sliceBounds, Instr.sureAddr]
  · simp [execOp, Instr.sliceAt, ha.ev hx, run_und ht.und, run_sizeOf ht.size, Instr.sliceBounds, Instr.sureAddr, h, add_lit]
theorem Const_arr {t e : TypeId} {sz len sz' by_ : Nat} {z : List Value} {parts : List (Nat × Operand)} {pvs : List (Nat × Value)} {cells : List Value} [ht : ArrTy P t len e sz] [hz : ElemTy P t sz' by_ z]
    (hp : parts.map (fun p => (p.1, ev G p.2)) = pvs.map (fun p => (p.1, some p.2)))
    (hf : Instr.fill (fun i => some (i * sz, sz)) z.toArray pvs = some cells.toArray) : Const P n G (.build t parts.toArray) ty C (.agg cells.toArray) := by
  refine Const_build hp fun w => ?_
  obtain ⟨i, hi, h3⟩ := Option.map_eq_some_iff.1 hz.info
  simp only [Prod.mk.injEq] at h3
  obtain ⟨h4, h5, h6⟩ := h3
  obtain ⟨v, hv, hc⟩ := Option.map_eq_some_iff.1 h6
  have hzv : (zeroValue t).run P w = .ok v w := by simp [zeroValue, typeInfo, hi, hv]
  unfold Instr.build
  rw [Sem.run_bind, hzv, Result.andThen_ok, Sem.run_bind, run_und ht.und, Result.andThen_ok]
  simp only [Sem.run_bind, run_sizeOf ht.size, Result.andThen_ok, hc, hf]
  rfl
theorem Const_indexV {t e : TypeId} {sz len sz' : Nat} {x ix : Operand} {cs vs : List Value} {k : IntKind} {i : Int} [ht : ArrTy P t len e sz] [he : AggTy P e sz'] (hx : ev G x = some (.agg cs.toArray)) (hi : ev G ix = some (.int k i)) (h : 0 ≤ i ∧ i < len)
    (hv : (cs.drop (i.toNat * sz)).take sz = vs) : Const P n G (.index t x ix) ty C (.agg vs.toArray) := by
  refine ⟨?_⟩
  intro st ha dst pos after guard w _
  simp [execOp, Instr.index, ha.ev hx, ha.ev hi, asIntOf, run_und ht.und, h.1, h.2, part, run_isAgg_yes, run_sizeOf ht.size, List.extract_eq_take_drop, hv]
end
def PlOk (place : Nat → Option (Nat × Nat)) : Nat → Nat → List Value → Prop
  | _, _, [] => True
  | k, off, v :: r => place k = some (off, v.cells.size) ∧ PlOk place (k + 1) (off + v.cells.size) r
def cellsOf' (vals : List Value) : List Value := vals.flatMap (fun v => v.cells.toList)
theorem fill_places (place : Nat → Option (Nat × Nat)) : ∀ (vals : List Value) (k : Nat) (pre : List Value) (base : Array Value), base.size = pre.length + (cellsOf' vals).length → base.toList.take pre.length = pre → PlOk place k pre.length vals →
    Instr.fill place base ((vals.zipIdx k).map (fun p => (p.2, p.1))) = some (pre ++ cellsOf' vals).toArray
  | [], k, pre, base, hb, ht, _ => by
    have : base.toList = pre := by
      rw [← ht, List.take_of_length_le]
      simp [hb, cellsOf']
    simp [Instr.fill, cellsOf', ← this]
  | v :: r, k, pre, base, hb, ht, hc => by
    obtain ⟨h1, h2⟩ := hc
    have hcl : cellsOf' (v :: r) = v.cells.toList ++ cellsOf' r := by simp [cellsOf']
    have hcs : v.cells.toList.length = v.cells.size := by simp
    have hlt : pre.length + v.cells.size ≤ base.size := by
      rw [hb, hcl, List.length_append, hcs]; omega
    simp only [List.zipIdx_cons, List.map_cons, Instr.fill, h1]
    have hno : ¬ (v.cells.size ≠ v.cells.size ∨ pre.length + v.cells.size > base.size) := by omega
    have hf := fold_splice pre.length v.cells.toList base (by simp; omega)
    simp only [Array.toArray_toList] at hf
    simp only [Bool.or_eq_true, decide_eq_true_eq, hno, if_false, hf]
    rw [fill_places place r (k + 1) (pre ++ v.cells.toList) _ ?_ ?_ (by rw [List.length_append, hcs]; exact h2)]
    · rw [hcl, List.append_assoc]
    · simp only [List.size_toArray, List.length_append, List.length_take, List.length_drop, hcs, Array.length_toList]
      rw [hcl, List.length_append, hcs] at hb
      omega
    · simp only [ht]
      rw [List.take_append_of_le_length (by simp), List.take_of_length_le (by simp)]
section
variable {P : Program} {n : Nat} {G : Env} {ty : TypeId} {C : World → Prop}
theorem Const_structC {t : TypeId} {parts : List (Nat × Operand)} {vals cells : List Value} {places : List (Nat × Nat)} {z : List Value} [ht : StructTy P t places z]
    (hp : parts.map (fun p => (p.1, ev G p.2)) = vals.zipIdx.map (fun p => (p.2, some p.1))) (hpl : PlOk (places.toArray[·]?) 0 0 vals) (hc : cellsOf' vals = cells) (hz : z.length = cells.length) :
    Const P n G (.build t parts.toArray) ty C (.agg cells.toArray) := by
  refine Const_struct (pvs := vals.zipIdx.map (fun p => (p.2, p.1))) (places := places) (z := z) (by rw [hp]; simp) ?_
  have := fill_places (places.toArray[·]?) vals 0 [] z.toArray (by simp [hc, hz]) (by simp) (by simpa using hpl)
  rw [hc] at this
  simpa using this
theorem Const_arrC {t e : TypeId} {sz len sz' by_ : Nat} {z : List Value} {parts : List (Nat × Operand)} {vals cells : List Value} [ht : ArrTy P t len e sz] [hz : ElemTy P t sz' by_ z]
    (hp : parts.map (fun p => (p.1, ev G p.2)) = vals.zipIdx.map (fun p => (p.2, some p.1))) (hs : ∀ v ∈ vals, v.cells.size = sz) (hc : cellsOf' vals = cells) (hl : z.length = vals.length * sz) :
    Const P n G (.build t parts.toArray) ty C (.agg cells.toArray) := by
  refine Const_arr (pvs := vals.zipIdx.map (fun p => (p.2, p.1))) (by rw [hp]; simp) ?_
  have := fill_seq sz vals 0 [] z.toArray (by simp) (by simp [hl]) (by simp) hs
  have h2 : vals.flatMap (fun v => v.cells.toList) = cells := hc
  rw [h2] at this
  simpa using this
end
theorem Const_neB {P : Program} {n : Nat} {G : Env} {ty : TypeId} {C : World → Prop} {t t' : TypeId} {x y : Operand} {a b : Bool} [ht : BoolTy P t] (hx : ev G x = some (.bool a)) (hy : ev G y = some (.bool b)) :
    Const P n G (.binOp .neq t x y t') ty C (.bool (!(a == b))) := by
  refine ⟨?_⟩
  intro s ha dst pos after guard w _
  have e1 : (eqGuard .neq t x y (.bool a) (.bool b)).run P w = .ok () w := rfl
  simp only [execOp, ha.ev hx, ha.ev hy, Sem.run_bind, e1, Result.andThen_ok, run_neq_bool _ t a b ht.und, Sem.run_pure]
theorem recs_part {α : Type} [Inhabited α] {enc : α → List Value} {sz : Nat} [h : Sized enc sz] {ms : List α} {i : Int} (hi : 0 ≤ i ∧ i < ms.length) : ((recs enc ms).drop (i.toNat * sz)).take sz = enc (gt ms i) := by
  apply List.ext_getElem?
  intro j
  have hl := h.len (gt ms i)
  rw [List.getElem?_take]
  by_cases hj : j < sz
  · rw [if_pos hj, List.getElem?_drop, List.getElem?_eq_getElem (by omega : j < (enc (gt ms i)).length)]
    exact recs_nat ms i.toNat j _ _ (gt_some hi) (List.getElem?_eq_getElem (by omega))
  · rw [if_neg hj, List.getElem?_eq_none (by omega)]
theorem AtsZ.n8 {cs : List Value} {o : Nat} {a b c d e f g h : Value} (h0 : cs[o]? = some a) (h1 : cs[o + 1]? = some b) (h2 : cs[o + 2]? = some c) (h3 : cs[o + 3]? = some d) (h4 : cs[o + 4]? = some e) (h5 : cs[o + 5]? = some f) (h6 : cs[o + 6]? = some g) (h7 : cs[o + 7]? = some h) : AtsZ cs o [a, b, c, d, e, f, g, h] 8 := ⟨⟨fun j v hj => by
  match j, hj with
  | 0, hj => simp at hj; subst hj; exact h0
  | 1, hj => simp at hj; subst hj; exact h1
  | 2, hj => simp at hj; subst hj; exact h2
  | 3, hj => simp at hj; subst hj; exact h3
  | 4, hj => simp at hj; subst hj; exact h4
  | 5, hj => simp at hj; subst hj; exact h5
  | 6, hj => simp at hj; subst hj; exact h6
  | 7, hj => simp at hj; subst hj; exact h7
  | j + 8, hj => simp at hj⟩, rfl⟩
theorem atY {cs vs : List Value} {o sz : Nat} (h : AtsZ cs o vs sz := by first | (with_reducible refine AtsZ.r ?_; exact bdI) | (with_reducible refine AtsZ.r2 ?_ ?_ ?_; exact bdI; rfl; rfl) | (with_reducible refine AtsZ.r4 ?_ ?_ ?_ ?_ ?_; exact bdI; rfl; rfl; rfl; rfl) | exact AtsZ.all rfl | exact AtsZ.n2 rfl rfl | exact AtsZ.n4 rfl rfl rfl rfl | exact AtsZ.n8 rfl rfl rfl rfl rfl rfl rfl rfl | (refine AtsZ.r ?_; exact bdI) | (refine AtsZ.app ?_; refine AtsZ.r ?_; exact bdI)) : AtsZ cs o vs sz := h
end Go.Fx
namespace Go.Proofs.YtdmlebigkakplaaGreat
open Go Go.Fx
/-- a list as it came in -/
structure WL where
  p : Option Addr
  c : Nat
  es : List RW
instance : Inhabited WL := ⟨⟨none, 0, []⟩⟩
abbrev eWL (r : WL) : List Value := [.slice r.p r.es.length r.c]
abbrev lvW (r : WL) : Value := .slice r.p r.es.length r.c
instance : Sized eWL 1 := ⟨fun _ => rfl⟩
instance : Ones eWL := ⟨fun m u hu => by simp only [eWL, List.mem_cons, List.not_mem_nil, or_false] at hu; subst hu; rfl⟩
structure IsWL (r : WL) (X : List Nat) (w : World) : Prop where
  sl : Sl X w r.p (recs eW r.es)
  el : ∀ e ∈ r.es, IsW e X w
  cap : Cap r.p r.es.length r.c
abbrev isWL (r : WL) : Imm := IsWL r
instance (r : WL) : Fx.Good (IsWL r) := ⟨fun X Y w w' h he hY => ⟨Sl.carry h.sl he hY, fun e hm => Fx.Good.go (φ := IsW _) X Y w w' (h.el e hm) he hY, h.cap⟩⟩
/-- a matrix as it came in -/
structure WM where
  p : Option Addr
  c : Nat
  rows : List WL
instance : Inhabited WM := ⟨⟨none, 0, []⟩⟩
abbrev eWM (m : WM) : List Value := [.slice m.p m.rows.length m.c]
abbrev mvW (m : WM) : Value := .slice m.p m.rows.length m.c
instance : Sized eWM 1 := ⟨fun _ => rfl⟩
instance : Ones eWM := ⟨fun m u hu => by simp only [eWM, List.mem_cons, List.not_mem_nil, or_false] at hu; subst hu; rfl⟩
structure IsWM (m : WM) (X : List Nat) (w : World) : Prop where
  sl : Sl X w m.p (recs eWL m.rows)
  row : ∀ r ∈ m.rows, IsWL r X w
  cap : Cap m.p m.rows.length m.c
abbrev isWM (m : WM) : Imm := IsWM m
instance (m : WM) : Fx.Good (IsWM m) := ⟨fun X Y w w' h he hY => ⟨Sl.carry h.sl he hY, fun e hm => Fx.Good.go (φ := IsWL _) X Y w w' (h.row e hm) he hY, h.cap⟩⟩
/-- several matrices -/
structure AllWM (ms : List WM) (X : List Nat) (w : World) : Prop where
  go : ∀ m ∈ ms, IsWM m X w
abbrev allWM (ms : List WM) : Imm := AllWM ms
instance (ms : List WM) : Fx.Good (AllWM ms) := ⟨fun X Y w w' h he hY => ⟨fun m hm => Fx.Good.go (φ := IsWM _) X Y w w' (h.go m hm) he hY⟩⟩
theorem Hv.wlsl {I : List Imm} {r : WL} (h : isWL r ∈ I) : Hv I (slI r.p (recs eW r.es)) := ⟨fun X w hw => ⟨(hw _ h : IsWL r X w).sl⟩⟩
theorem Hv.wlel {I : List Imm} {r : WL} {j : Int} (h : isWL r ∈ I) (hj : 0 ≤ j ∧ j < r.es.length) : Hv I (isW (gt r.es j)) := ⟨fun X w hw => (hw _ h : IsWL r X w).el _ (gt_mem hj)⟩
theorem Hv.wmsl {I : List Imm} {m : WM} (h : isWM m ∈ I) : Hv I (slI m.p (recs eWL m.rows)) := ⟨fun X w hw => ⟨(hw _ h : IsWM m X w).sl⟩⟩
theorem Hv.wmrow {I : List Imm} {m : WM} {i : Int} (h : isWM m ∈ I) (hi : 0 ≤ i ∧ i < m.rows.length) : Hv I (isWL (gt m.rows i)) := ⟨fun X w hw => (hw _ h : IsWM m X w).row _ (gt_mem hi)⟩
theorem Hv.wmAt {I : List Imm} {ms : List WM} {i : Int} (h : allWM ms ∈ I) (hi : 0 ≤ i ∧ i < ms.length) : Hv I (isWM (gt ms i)) := ⟨fun X w hw => (hw _ h : AllWM ms X w).go _ (gt_mem hi)⟩
theorem Hv.wm1 {I : List Imm} {a : WM} (h1 : isWM a ∈ I) : Hv I (allWM [a]) := ⟨fun X w hw => ⟨fun p hp => by
  simp only [List.mem_cons, List.not_mem_nil, or_false] at hp; subst hp; exact hw _ h1⟩⟩
/- short numbers, canonical ones, matrices -/
def RW.brief (r : RW) : Prop := r.g1.length ≤ 1 ∧ r.g2.length ≤ 1 ∧ (r.g1.length = 0 ∨ gt r.g1 0 < 100000) ∧ (r.g2.length = 0 ∨ gt r.g2 0 ≤ 100)
instance (r : RW) : Decidable r.brief := by unfold RW.brief; exact inferInstance
def RW.sml (r : RW) : Prop := r.g1.length ≤ 1000000 ∧ r.g2.length ≤ 1000000
def WL.sht (r : WL) : Prop := r.es.length ≤ 6 ∧ ∀ e ∈ r.es, e.brief
instance (r : WL) : Decidable r.sht := by unfold WL.sht; exact inferInstance
def WL.sml (r : WL) : Prop := r.es.length ≤ 1000000 ∧ ∀ e ∈ r.es, e.sml
def WL.good (r : WL) : Prop := ∀ e ∈ r.es, e.good
instance (r : WL) : Decidable r.good := by unfold WL.good; exact inferInstance
def WM.sht (m : WM) : Prop := m.rows.length ≤ 6 ∧ ∀ r ∈ m.rows, r.sht
instance (m : WM) : Decidable m.sht := by unfold WM.sht; exact inferInstance
def WM.sml (m : WM) : Prop := m.rows.length ≤ 1000000 ∧ ∀ r ∈ m.rows, r.sml
def WM.ok (m : WM) : Prop := (1 ≤ m.rows.length ∧ m.rows.length ≤ 64 ∧ 1 ≤ (gt m.rows 0).es.length ∧ (gt m.rows 0).es.length ≤ 64) ∧ ∀ r ∈ m.rows, r.es.length = (gt m.rows 0).es.length ∧ r.good
instance (m : WM) : Decidable m.ok := by unfold WM.ok; exact inferInstance
theorem RW.brief.sml {r : RW} (h : r.brief) : r.sml := ⟨by have := h.1; omega, by have := h.2.1; omega⟩
theorem WL.sht.sml {r : WL} (h : r.sht) : r.sml := ⟨by have := h.1; omega, fun e he => (h.2 e he).sml⟩
theorem WM.sht.sml {m : WM} (h : m.sht) : m.sml := ⟨by have := h.1; omega, fun r hr => (h.2 r hr).sml⟩
/- of canonical numbers -/
def RL.raw (r : RL) : WL := ⟨r.p, r.c, r.es.map RE.raw⟩
def MX.raw (m : MX) : WM := ⟨m.p, m.c, m.rows.map RL.raw⟩
theorem recs_raw (es : List RE) : recs eW (es.map RE.raw) = recs eR es := by
  induction es with
  | nil => rfl
  | cons x r ih =>
    have h1 : recs eW ((x :: r).map RE.raw) = eW x.raw ++ recs eW (r.map RE.raw) := rfl
    have h2 : recs eR (x :: r) = eR x ++ recs eR r := rfl
    rw [h1, h2, ih]; rfl
theorem recs_rawL (rows : List RL) : recs eWL (rows.map RL.raw) = recs eL rows := by
  induction rows with
  | nil => rfl
  | cons x r ih =>
    have h1 : recs eWL ((x :: r).map RL.raw) = eWL x.raw ++ recs eWL (r.map RL.raw) := rfl
    have h2 : recs eL (x :: r) = eL x ++ recs eL r := rfl
    rw [h1, h2, ih]
    show [Value.slice x.p (x.es.map RE.raw).length x.c] ++ _ = [Value.slice x.p x.es.length x.c] ++ _
    rw [List.length_map]
theorem lv_raw (r : RL) : lvW r.raw = lv r := by show Value.slice r.p (r.es.map RE.raw).length r.c = _; rw [List.length_map]
theorem mv_raw (m : MX) : mvW m.raw = mv m := by show Value.slice m.p (m.rows.map RL.raw).length m.c = _; rw [List.length_map]
theorem RL.raw_good (r : RL) : r.raw.good := fun e he => by
  obtain ⟨x, _, rfl⟩ := List.mem_map.1 he
  exact x.raw_good
theorem IsL.raw {r : RL} {k : Nat} {X : List Nat} {w : World} (hk : k ≤ 1000000000000) (h : IsL r k X w) : IsWL r.raw X w :=
  ⟨by show Sl X w r.p (recs eW (r.es.map RE.raw)); rw [recs_raw]; exact h.sl, fun e he => by obtain ⟨x, hx, rfl⟩ := List.mem_map.1 he; exact RE.fit hk (h.el x hx), by show Cap r.p (r.es.map RE.raw).length r.c; rw [List.length_map]; exact h.cap⟩
theorem IsX.raw {m : MX} {k : Nat} {X : List Nat} {w : World} (hk : k ≤ 1000000000000) (h : IsX m k X w) : IsWM m.raw X w :=
  ⟨by show Sl X w m.p (recs eWL (m.rows.map RL.raw)); rw [recs_rawL]; exact h.sl, fun e he => by obtain ⟨x, hx, rfl⟩ := List.mem_map.1 he; exact IsL.raw hk (h.row x hx), by show Cap m.p (m.rows.map RL.raw).length m.c; rw [List.length_map]; exact h.cap⟩
theorem IsR.sml {e : RE} {k : Nat} {X : List Nat} {w : World} (hk : k ≤ 20000000) (h : IsR e k X w) : e.raw.sml := by
  have a := gr_len_pow (IsI.le h.num)
  have b := gr_len_pow (IsI.le h.den)
  constructor
  · show (gr e.q.num.natAbs).length ≤ _; omega
  · show (gr (e.q.den : Int).natAbs).length ≤ _; omega
theorem Hv.lraw {I : List Imm} {r : RL} {k : Nat} (h : isL r k ∈ I) (hk : k ≤ 20000000) : Hv I (isWL r.raw) := ⟨fun X w hw => IsL.raw (by omega) (hw _ h)⟩
theorem Hv.xraw {I : List Imm} {m : MX} {k : Nat} (h : isX m k ∈ I) (hk : k ≤ 20000000) : Hv I (isWM m.raw) := ⟨fun X w hw => IsX.raw (by omega) (hw _ h)⟩
theorem WL.good_raw {r : WL} (hf : ∀ e ∈ r.es, e.Fit) (h : r.good) : ∃ l : RL, r = l.raw := by
  obtain ⟨p, c, es⟩ := r
  have : ∃ xs : List RE, es = xs.map RE.raw := by
    have hf' : ∀ e ∈ es, e.Fit := hf
    have h' : ∀ e ∈ es, e.good := h
    clear h hf
    induction es with
    | nil => exact ⟨[], rfl⟩
    | cons x es ih =>
      obtain ⟨xs, rfl⟩ := ih (fun e he => hf' e (List.Mem.tail _ he)) (fun e he => h' e (List.Mem.tail _ he))
      obtain ⟨e, rfl⟩ := RW.good_raw (hf' x (List.Mem.head _)) (h' x (List.Mem.head _))
      exact ⟨e :: xs, rfl⟩
  obtain ⟨xs, rfl⟩ := this
  exact ⟨⟨p, c, xs⟩, rfl⟩
theorem WM.good_raw {m : WM} (hf : ∀ r ∈ m.rows, ∀ e ∈ r.es, e.Fit) (h : ∀ r ∈ m.rows, r.good) : ∃ x : MX, m = x.raw := by
  obtain ⟨p, c, rows⟩ := m
  have : ∃ xs : List RL, rows = xs.map RL.raw := by
    have hf' : ∀ r ∈ rows, ∀ e ∈ r.es, e.Fit := hf
    have h' : ∀ r ∈ rows, r.good := h
    clear h hf
    induction rows with
    | nil => exact ⟨[], rfl⟩
    | cons x es ih =>
      obtain ⟨xs, rfl⟩ := ih (fun e he => hf' e (List.Mem.tail _ he)) (fun e he => h' e (List.Mem.tail _ he))
      obtain ⟨e, rfl⟩ := WL.good_raw (hf' x (List.Mem.head _)) (h' x (List.Mem.head _))
      exact ⟨e :: xs, rfl⟩
  obtain ⟨xs, rfl⟩ := this
  exact ⟨⟨p, c, xs⟩, rfl⟩
theorem brief_pow {e : RE} (h : e.raw.brief) {X : List Nat} {w : World} (hw : IsW e.raw X w) : IsR e 30 X w := by
  refine RE.isR_raw hw ?_ ?_
  · have := h.1; omega
  · have := h.2.1; omega
theorem sht_isL {r : RL} (h : r.raw.sht) {X : List Nat} {w : World} (hw : IsWL r.raw X w) : IsL r 30 X w := by
  refine ⟨?_, fun e he => ?_, ?_⟩
  · have := hw.sl; rw [show r.raw.es = r.es.map RE.raw from rfl, recs_raw] at this; exact this
  · have hm : e.raw ∈ r.raw.es := List.mem_map.2 ⟨e, he, rfl⟩
    exact brief_pow (h.2 _ hm) (hw.el _ hm)
  · have := hw.cap; rw [show r.raw.es = r.es.map RE.raw from rfl, List.length_map] at this; exact this
theorem sht_isX {m : MX} (h : m.raw.sht) {X : List Nat} {w : World} (hw : IsWM m.raw X w) : IsX m 30 X w := by
  refine ⟨?_, fun e he => ?_, ?_⟩
  · have := hw.sl; rw [show m.raw.rows = m.rows.map RL.raw from rfl, recs_rawL] at this; exact this
  · have hm : e.raw ∈ m.raw.rows := List.mem_map.2 ⟨e, he, rfl⟩
    exact sht_isL (h.2 _ hm) (hw.row _ hm)
  · have := hw.cap; rw [show m.raw.rows = m.rows.map RL.raw from rfl, List.length_map] at this; exact this
theorem gt_map {α β : Type} [Inhabited α] [Inhabited β] {l : List α} {f : α → β} {i : Int} (h : 0 ≤ i ∧ i < l.length) : gt (l.map f) i = f (gt l i) := by
  obtain ⟨n, rfl⟩ : ∃ n : Nat, i = n := ⟨i.toNat, by omega⟩
  rw [gt_lt (by simpa using h.2), gt_lt (by omega)]
  simp
/-- a matrix: as many rows and columns -/
theorem ok_dim {m : MX} (h : m.raw.ok) : m.dim m.rows.length (gt m.rows 0).es.length ∧ 1 ≤ m.rows.length ∧ m.rows.length ≤ 64 ∧ 1 ≤ (gt m.rows 0).es.length ∧ (gt m.rows 0).es.length ≤ 64 := by
  have e : m.raw.rows = m.rows.map RL.raw := rfl
  unfold WM.ok at h
  rw [e, List.length_map] at h
  obtain ⟨⟨h1, h2, h3, h4⟩, h5⟩ := h
  rw [gt_map (by omega)] at h3 h4 h5
  have e2 : (gt m.rows 0).raw.es.length = (gt m.rows 0).es.length := by show ((gt m.rows 0).es.map RE.raw).length = _; rw [List.length_map]
  rw [e2] at h3 h4 h5
  refine ⟨⟨rfl, fun r hr => ?_⟩, h1, h2, h3, h4⟩
  have := (h5 r.raw (List.mem_map.2 ⟨r, hr, rfl⟩)).1
  rwa [show r.raw.es = r.es.map RE.raw from rfl, List.length_map] at this
theorem dim_ok {m : MX} {R C : Nat} (h : m.dim R C) (hR : 1 ≤ R ∧ R ≤ 64) (hC : 1 ≤ C ∧ C ≤ 64) : m.raw.ok := by
  have e : m.raw.rows = m.rows.map RL.raw := rfl
  have h0 := h.1
  have hl : ∀ r ∈ m.rows, r.raw.es.length = C := fun r hr => by rw [show r.raw.es = r.es.map RE.raw from rfl, List.length_map]; exact h.2 r hr
  unfold WM.ok
  rw [e, List.length_map, gt_map (by omega), hl _ (gt_mem (by omega))]
  refine ⟨by omega, fun r hr => ?_⟩
  obtain ⟨s, hs, rfl⟩ := List.mem_map.1 hr
  exact ⟨hl s hs, s.raw_good⟩
end Go.Proofs.YtdmlebigkakplaaGreat
namespace Go.Fx
theorem wXh {p g : Prop} (h : g) (w : BoxP g → p := by (intro hh; (first | refine TD_seq ?_ | refine TD_region ?_ | refine TD_ret ?_ | refine TD_skip ?_ | refine TD_label ?_ | refine TD_block ?_ | refine TD_exit ?_ | refine ND_then ?_ | refine ND_thenR ?_ | refine ND_thenE ?_ | refine ND_inN ?_ | refine ND_inR ?_ | refine ND_inE ?_ | refine ND_inO rfl ?_ | refine RD_nil ?_ | (refine RD_isGu ?_; first | refine RD_skip rfl rfl rfl ?_ | (refine RD_isEf rfl rfl ?_; refine RD_skipE rfl rfl rfl okF ?_) | refine RD_grdY rfl rfl (by omega) ?_ | refine RD_grdN rfl rfl (by omega) ?_) | (refine RD_isUn ?_; refine RD_c rfl (fun _ => Const_notB rfl) rfl rfl ?_) | refine RD_c rfl (fun _ => Const_pure rfl) rfl rfl ?_ | (refine RD_isBi ?_; first | refine RD_c rfl (fun _ => Const_add rfl rfl wF) rfl rfl ?_ | refine RD_c rfl (fun _ => Const_sub rfl rfl wF) rfl rfl ?_ | refine RD_c rfl (fun _ => Const_mul rfl rfl wF) rfl rfl ?_ | refine RD_c rfl (fun _ => Const_quo rfl rfl (by omega) qF) rfl rfl ?_ | refine RD_c rfl (fun _ => Const_rem rfl rfl (by omega) rfl) rfl rfl ?_ | refine RD_c rfl (fun _ => Const_half rfl rfl) rfl rfl ?_ | refine RD_c rfl (fun _ => Const_eqBB rfl rfl) rfl rfl ?_ | refine RD_c rfl (fun _ => Const_neBB rfl rfl) rfl rfl ?_ | refine RD_c rfl (fun _ => Const_eqB rfl rfl) rfl rfl ?_ | refine RD_c rfl (fun _ => Const_neB rfl rfl) rfl rfl ?_) | (refine RD_isUn ?_; first | refine RD_c rfl (fun _ => Const_neg rfl wF) rfl rfl ?_) | (refine RD_isCv ?_; first | refine RD_c rfl (fun _ => Const_conv rfl wF) rfl rfl ?_) | (refine RD_isCa ?_; first | refine RD_c rfl (fun _ => Const_len rfl) rfl rfl ?_ | refine RD_c rfl (fun _ => Const_minM rfl rfl) rfl rfl ?_ | refine RD_c rfl (fun _ => Const_maxM rfl rfl) rfl rfl ?_ | refine RD_c rfl (fun _ => Const_min3 rfl rfl rfl) rfl rfl ?_) | (refine RD_isFa ?_; first | refine RD_fldP rfl (by decide) rfl rfl ?_ | refine RD_fld rfl (by decide) rfl rfl ?_) | (refine RD_isIx ?_; first | refine RD_ixB rfl rfl bdI rfl rfl ?_ | refine RD_ixI vwF rfl rfl bdI memF posC rfl rfl ?_ | refine RD_ixR vwF rfl rfl bdI memF posC rfl rfl ?_ | refine RD_c rfl (fun _ => Const_indexA rfl rfl bdI) rfl rfl ?_) | (refine RD_isLd ?_; first | (apply RD_ldZB; exact vwF; exact rfl; (focus ((repeat (first | with_reducible exact List.mem_cons_self | with_reducible assumption | with_reducible refine List.mem_cons_of_mem _ ?_)); done)); exact atY; exact rfl; exact rfl) | (apply RD_ldZIB; exact vwF; exact rfl; (focus ((repeat (first | with_reducible exact List.mem_cons_self | with_reducible assumption | with_reducible refine List.mem_cons_of_mem _ ?_)); done)); exact atY; exact rfl; exact rfl) | (apply RD_ldZI; exact vwF; exact rfl; (focus ((repeat (first | with_reducible exact List.mem_cons_self | with_reducible assumption | with_reducible refine List.mem_cons_of_mem _ ?_)); done)); exact atY; exact rfl; exact rfl) | (apply RD_ldZR; exact vwF; exact rfl; (focus ((repeat (first | with_reducible exact List.mem_cons_self | with_reducible assumption | with_reducible refine List.mem_cons_of_mem _ ?_)); done)); exact atY; exact rfl; exact rfl) | (apply RD_ldB; exact vwF; exact rfl; (focus ((repeat (first | with_reducible exact List.mem_cons_self | with_reducible assumption | with_reducible refine List.mem_cons_of_mem _ ?_)); done)); exact atF; exact rfl; exact rfl) | (apply RD_ldIB; exact vwF; exact rfl; (focus ((repeat (first | with_reducible exact List.mem_cons_self | with_reducible assumption | with_reducible refine List.mem_cons_of_mem _ ?_)); done)); exact atF; exact rfl; exact rfl) | (apply RD_ldI; exact vwF; exact rfl; (focus ((repeat (first | with_reducible exact List.mem_cons_self | with_reducible assumption | with_reducible refine List.mem_cons_of_mem _ ?_)); done)); exact atF; exact rfl; exact rfl) | (apply RD_ldR; exact vwF; exact rfl; (focus ((repeat (first | with_reducible exact List.mem_cons_self | with_reducible assumption | with_reducible refine List.mem_cons_of_mem _ ?_)); done)); exact atF; exact rfl; exact rfl)) | (refine RD_isFd ?_; first | refine RD_c rfl (fun _ => Const_field1 rfl rfl) rfl rfl ?_ | refine RD_c rfl (fun _ => Const_fieldN rfl) rfl rfl ?_) | (refine RD_isSt ?_; first | refine RD_st rfl rfl rfl repF stC rfl rfl ⟨okF, ?_⟩ | refine RD_stN rfl rfl lenC oneC repF stsC rfl rfl ⟨okF, ?_⟩) | (refine TD_isCo ?_; first | refine TD_cond_true rfl ?_ | refine TD_cond_false rfl ?_ | refine TD_yes rfl (by omega) ?_ | refine TD_no rfl (by omega) ?_)); (repeat (first | refine TD_seq ?_ | refine TD_region ?_ | refine TD_ret ?_ | refine TD_skip ?_ | refine TD_label ?_ | refine TD_block ?_ | refine TD_exit ?_ | refine ND_then ?_ | refine ND_thenR ?_ | refine ND_thenE ?_ | refine ND_inN ?_ | refine ND_inR ?_ | refine ND_inE ?_ | refine ND_inO rfl ?_ | refine RD_nil ?_ | (refine RD_isGu ?_; first | refine RD_skip rfl rfl rfl ?_ | (refine RD_isEf rfl rfl ?_; refine RD_skipE rfl rfl rfl okF ?_) | refine RD_grdY rfl rfl (by omega) ?_ | refine RD_grdN rfl rfl (by omega) ?_) | (refine RD_isUn ?_; refine RD_c rfl (fun _ => Const_notB rfl) rfl rfl ?_) | refine RD_c rfl (fun _ => Const_pure rfl) rfl rfl ?_ | (refine RD_isBi ?_; first | refine RD_c rfl (fun _ => Const_add rfl rfl wF) rfl rfl ?_ | refine RD_c rfl (fun _ => Const_sub rfl rfl wF) rfl rfl ?_ | refine RD_c rfl (fun _ => Const_mul rfl rfl wF) rfl rfl ?_ | refine RD_c rfl (fun _ => Const_quo rfl rfl (by omega) qF) rfl rfl ?_ | refine RD_c rfl (fun _ => Const_rem rfl rfl (by omega) rfl) rfl rfl ?_ | refine RD_c rfl (fun _ => Const_half rfl rfl) rfl rfl ?_ | refine RD_c rfl (fun _ => Const_eqBB rfl rfl) rfl rfl ?_ | refine RD_c rfl (fun _ => Const_neBB rfl rfl) rfl rfl ?_ | refine RD_c rfl (fun _ => Const_eqB rfl rfl) rfl rfl ?_ | refine RD_c rfl (fun _ => Const_neB rfl rfl) rfl rfl ?_) | (refine RD_isUn ?_; first | refine RD_c rfl (fun _ => Const_neg rfl wF) rfl rfl ?_) | (refine RD_isCv ?_; first | refine RD_c rfl (fun _ => Const_conv rfl wF) rfl rfl ?_) | (refine RD_isCa ?_; first | refine RD_c rfl (fun _ => Const_len rfl) rfl rfl ?_ | refine RD_c rfl (fun _ => Const_minM rfl rfl) rfl rfl ?_ | refine RD_c rfl (fun _ => Const_maxM rfl rfl) rfl rfl ?_ | refine RD_c rfl (fun _ => Const_min3 rfl rfl rfl) rfl rfl ?_) | (refine RD_isFa ?_; first | refine RD_fldP rfl (by decide) rfl rfl ?_ | refine RD_fld rfl (by decide) rfl rfl ?_) | (refine RD_isIx ?_; first | refine RD_ixB rfl rfl bdI rfl rfl ?_ | refine RD_ixI vwF rfl rfl bdI memF posC rfl rfl ?_ | refine RD_ixR vwF rfl rfl bdI memF posC rfl rfl ?_ | refine RD_c rfl (fun _ => Const_indexA rfl rfl bdI) rfl rfl ?_) | (refine RD_isLd ?_; first | (apply RD_ldZB; exact vwF; exact rfl; (focus ((repeat (first | with_reducible exact List.mem_cons_self | with_reducible assumption | with_reducible refine List.mem_cons_of_mem _ ?_)); done)); exact atY; exact rfl; exact rfl) | (apply RD_ldZIB; exact vwF; exact rfl; (focus ((repeat (first | with_reducible exact List.mem_cons_self | with_reducible assumption | with_reducible refine List.mem_cons_of_mem _ ?_)); done)); exact atY; exact rfl; exact rfl) | (apply RD_ldZI; exact vwF; exact rfl; (focus ((repeat (first | with_reducible exact List.mem_cons_self | with_reducible assumption | with_reducible refine List.mem_cons_of_mem _ ?_)); done)); exact atY; exact rfl; exact rfl) | (apply RD_ldZR; exact vwF; exact rfl; (focus ((repeat (first | with_reducible exact List.mem_cons_self | with_reducible assumption | with_reducible refine List.mem_cons_of_mem _ ?_)); done)); exact atY; exact rfl; exact rfl) | (apply RD_ldB; exact vwF; exact rfl; (focus ((repeat (first | with_reducible exact List.mem_cons_self | with_reducible assumption | with_reducible refine List.mem_cons_of_mem _ ?_)); done)); exact atF; exact rfl; exact rfl) | (apply RD_ldIB; exact vwF; exact rfl; (focus ((repeat (first | with_reducible exact List.mem_cons_self | with_reducible assumption | with_reducible refine List.mem_cons_of_mem _ ?_)); done)); exact atF; exact rfl; exact rfl) | (apply RD_ldI; exact vwF; exact rfl; (focus ((repeat (first | with_reducible exact List.mem_cons_self | with_reducible assumption | with_reducible refine List.mem_cons_of_mem _ ?_)); done)); exact atF; exact rfl; exact rfl) | (apply RD_ldR; exact vwF; exact rfl; (focus ((repeat (first | with_reducible exact List.mem_cons_self | with_reducible assumption | with_reducible refine List.mem_cons_of_mem _ ?_)); done)); exact atF; exact rfl; exact rfl)) | (refine RD_isFd ?_; first | refine RD_c rfl (fun _ => Const_field1 rfl rfl) rfl rfl ?_ | refine RD_c rfl (fun _ => Const_fieldN rfl) rfl rfl ?_) | (refine RD_isSt ?_; first | refine RD_st rfl rfl rfl repF stC rfl rfl ⟨okF, ?_⟩ | refine RD_stN rfl rfl lenC oneC repF stsC rfl rfl ⟨okF, ?_⟩) | (refine TD_isCo ?_; first | refine TD_cond_true rfl ?_ | refine TD_cond_false rfl ?_ | refine TD_yes rfl (by omega) ?_ | refine TD_no rfl (by omega) ?_))); exact hh.out)) : p := w ⟨h⟩
end Go.Fx
