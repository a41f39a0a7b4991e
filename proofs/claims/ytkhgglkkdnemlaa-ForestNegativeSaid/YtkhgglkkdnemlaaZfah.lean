/- Arrays: sliced, built, read by an index; loads of eight and twelve cells. -/
import Derived.Test.YtkhgglkkdnemlaaZfag
set_option linter.unusedSimpArgs false
set_option linter.unusedVariables false
namespace Go.Fx
section
variable {P : Program} {n : Nat} {G : Env} {ty : TypeId} {C : World → Prop}
end
def PlOk (place : Nat → Option (Nat × Nat)) : Nat → Nat → List Value → Prop
  | _, _, [] => True
  | k, off, v :: r => place k = some (off, v.cells.size) ∧ PlOk place (k + 1) (off + v.cells.size) r
def cellsOf' (vals : List Value) : List Value := vals.flatMap (fun v => v.cells.toList)
theorem fill_places (place : Nat → Option (Nat × Nat)) : ∀ (vals : List Value) (k : Nat) (pre : List Value) (base : Array Value), base.size = pre.length + (cellsOf' vals).length → base.toList.take pre.length = pre → PlOk place k pre.length vals →
    Instr.fill place base ((vals.zipIdx k).map (fun p => (p.2, p.1))) = some (pre ++ cellsOf' vals).toArray
  | [], k, pre, base, hb, ht, _ => by
    have : base.toList = pre := by
      rw [← ht, List.take_of_length_le]
      simp [hb, cellsOf']
    simp [Instr.fill, cellsOf', ← this]
  | v :: r, k, pre, base, hb, ht, hc => by
    obtain ⟨h1, h2⟩ := hc
    have hcl : cellsOf' (v :: r) = v.cells.toList ++ cellsOf' r := by simp [cellsOf']
    have hcs : v.cells.toList.length = v.cells.size := by simp
    have hlt : pre.length + v.cells.size ≤ base.size := by
      rw [hb, hcl, List.length_append, hcs]; omega
    simp only [List.zipIdx_cons, List.map_cons, Instr.fill, h1]
    have hno : ¬ (v.cells.size ≠ v.cells.size ∨ pre.length + v.cells.size > base.size) := by omega
    have hf := fold_splice pre.length v.cells.toList base (by simp; omega)
    simp only [Array.toArray_toList] at hf
    simp only [Bool.or_eq_true, decide_eq_true_eq, hno, if_false, hf]
    rw [fill_places place r (k + 1) (pre ++ v.cells.toList) _ ?_ ?_ (by rw [List.length_append, hcs]; exact h2)]
    · rw [hcl, List.append_assoc]
    · simp only [List.size_toArray, List.length_append, List.length_take, List.length_drop, hcs, Array.length_toList]
      rw [hcl, List.length_append, hcs] at hb
      omega
    · simp only [ht]
      rw [List.take_append_of_le_length (by simp), List.take_of_length_le (by simp)]
section
variable {P : Program} {n : Nat} {G : Env} {ty : TypeId} {C : World → Prop}
theorem Const_structC {t : TypeId} {parts : List (Nat × Operand)} {vals cells : List Value} {places : List (Nat × Nat)} {z : List Value} [ht : StructTy P t places z]
    (hp : parts.map (fun p => (p.1, ev G p.2)) = vals.zipIdx.map (fun p => (p.2, some p.1))) (hpl : PlOk (places.toArray[·]?) 0 0 vals) (hc : cellsOf' vals = cells) (hz : z.length = cells.length) :
    Const P n G (.build t parts.toArray) ty C (.agg cells.toArray) := by
  refine Const_struct (pvs := vals.zipIdx.map (fun p => (p.2, p.1))) (places := places) (z := z) (by rw [hp]; simp) ?_
  have := fill_places (places.toArray[·]?) vals 0 [] z.toArray (by simp [hc, hz]) (by simp) (by simpa using hpl)
  rw [hc] at this
  simpa using this
end
theorem Const_neB {P : Program} {n : Nat} {G : Env} {ty : TypeId} {C : World → Prop} {t t' : TypeId} {x y : Operand} {a b : Bool} [ht : BoolTy P t] (hx : ev G x = some (.bool a)) (hy : ev G y = some (.bool b)) :
    Const P n G (.binOp .neq t x y t') ty C (.bool (!(a == b))) := by
  refine ⟨?_⟩
  intro s ha dst pos after guard w _
  have e1 : (eqGuard .neq t x y (.bool a) (.bool b)).run P w = .ok () w := rfl
  simp only [execOp, ha.ev hx, ha.ev hy, Sem.run_bind, e1, Result.andThen_ok, run_neq_bool _ t a b ht.und, Sem.run_pure]
theorem AtsZ.n8 {cs : List Value} {o : Nat} {a b c d e f g h : Value} (h0 : cs[o]? = some a) (h1 : cs[o + 1]? = some b) (h2 : cs[o + 2]? = some c) (h3 : cs[o + 3]? = some d) (h4 : cs[o + 4]? = some e) (h5 : cs[o + 5]? = some f) (h6 : cs[o + 6]? = some g) (h7 : cs[o + 7]? = some h) : AtsZ cs o [a, b, c, d, e, f, g, h] 8 := ⟨⟨fun j v hj => by
  match j, hj with
  | 0, hj => simp at hj; subst hj; exact h0
  | 1, hj => simp at hj; subst hj; exact h1
  | 2, hj => simp at hj; subst hj; exact h2
  | 3, hj => simp at hj; subst hj; exact h3
  | 4, hj => simp at hj; subst hj; exact h4
  | 5, hj => simp at hj; subst hj; exact h5
  | 6, hj => simp at hj; subst hj; exact h6
  | 7, hj => simp at hj; subst hj; exact h7
  | j + 8, hj => simp at hj⟩, rfl⟩
theorem atY {cs vs : List Value} {o sz : Nat} (h : AtsZ cs o vs sz := by first | (with_reducible refine AtsZ.r ?_; exact bdI) | (with_reducible refine AtsZ.r2 ?_ ?_ ?_; exact bdI; rfl; rfl) | (with_reducible refine AtsZ.r4 ?_ ?_ ?_ ?_ ?_; exact bdI; rfl; rfl; rfl; rfl) | exact AtsZ.all rfl | exact AtsZ.n2 rfl rfl | exact AtsZ.n4 rfl rfl rfl rfl | exact AtsZ.n8 rfl rfl rfl rfl rfl rfl rfl rfl | (refine AtsZ.r ?_; exact bdI) | (refine AtsZ.app ?_; refine AtsZ.r ?_; exact bdI)) : AtsZ cs o vs sz := h
end Go.Fx
