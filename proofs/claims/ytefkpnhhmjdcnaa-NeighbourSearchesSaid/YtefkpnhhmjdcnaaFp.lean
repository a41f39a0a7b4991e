/- The symbolic heap, continued: drawn regions that lean on a part of the heap. -/
import Derived.Test.YtefkpnhhmjdcnaaFn
namespace Go.Fx
section
variable {P : Program} {n : Nat} {Q Q' : Exit → Act → World → Prop} {G : Env} {X : List Nat} {w0 : World} {M M' M1 : List Ent} {I I' I1 : List Imm}
theorem TD_drawnW {id : Nat} {l : List Oper} (Ms : List Ent) (Is : List Imm) (p ms : List Nat) (hM : SubP M Ms) (hI : Inc I Is) (hx : P.follows .mixedOrders = true)
    (hp : (Region.noSelect l.toArray && orderOk l.toArray p ms (Array.replicate l.length false) && p.length == l.length) = true)
    (h : RD P n l Q (.any (Cst X w0 Ms Is) 0 ms) (pick l p) G X w0 M I) : TD P n (.region id l.toArray true) Q G X w0 M I :=
  TD_drawnS (Cst X w0 Ms Is) p ms hx (fun _ _ h => h) hp (fun _ h => h.weak hM hI) h
/- slices from the start -/
theorem Const_slice0 {C : World → Prop} {ty t e : TypeId} {sz : Nat} {x y : Operand} {b o len c : Nat} {k : IntKind} {i : Int} (h : Nat) [ht : SliceTy P t e sz] (hx : ev G x = some (.slice (some ⟨b, o, none⟩) len c)) (hy : ev G y = some (.int k i)) (hi : i = h) (h2 : h ≤ c) :
    Const P n G (.slice t x none (some y) none) ty C (.slice (some ⟨b, o, none⟩) h c) := by
  subst hi
  refine ⟨?_⟩
  intro st ha dst pos after guard w _
  by_cases h0 : c = 0
  · have hh : h = 0 := by omega
    simp [execOp, Instr.sliceAt, Instr.slice, ha.ev hx, run_und ht.und, run_sizeOf ht.size, Instr.sliceBounds, Instr.sliceBound, asIntOf, ha.ev hy, h0, hh]
  · simp [execOp, Instr.sliceAt, Instr.slice, ha.ev hx, run_und ht.und, run_sizeOf ht.size, Instr.sliceBounds, Instr.sliceBound, asIntOf, ha.ev hy, h2, h0, add_lit]
theorem Const_slice03 {C : World → Prop} {ty t e : TypeId} {sz : Nat} {x y z : Operand} {b o len c : Nat} {k k' : IntKind} {i j : Int} (h m : Nat) [ht : SliceTy P t e sz] (hx : ev G x = some (.slice (some ⟨b, o, none⟩) len c)) (hy : ev G y = some (.int k i)) (hz : ev G z = some (.int k' j)) (hi : i = h) (hj : j = m) (h1 : h ≤ m) (h2 : m ≤ c) :
    Const P n G (.slice t x none (some y) (some z)) ty C (.slice (some ⟨b, o, none⟩) h m) := by
  subst hi; subst hj
  refine ⟨?_⟩
  intro st ha dst pos after guard w _
  by_cases h0 : m = 0
  · have hh : h = 0 := by omega
    simp [execOp, Instr.sliceAt, Instr.slice, ha.ev hx, run_und ht.und, run_sizeOf ht.size, Instr.sliceBounds, Instr.sliceBound, asIntOf, ha.ev hy, ha.ev hz, h0, hh]
  · simp [execOp, Instr.sliceAt, Instr.slice, ha.ev hx, run_und ht.und, run_sizeOf ht.size, Instr.sliceBounds, Instr.sliceBound, asIntOf, ha.ev hy, ha.ev hz, h1, h2, h0, add_lit]
theorem Const_slice03n {C : World → Prop} {ty t e : TypeId} {sz : Nat} {x y z : Operand} {k k' : IntKind} {i j : Int} [ht : SliceTy P t e sz] (hx : ev G x = some (.slice none 0 0)) (hy : ev G y = some (.int k i)) (hz : ev G z = some (.int k' j)) (hi : i = 0) (hj : j = 0) :
    Const P n G (.slice t x none (some y) (some z)) ty C (.slice none 0 0) := by
  subst hi; subst hj
  refine ⟨?_⟩
  intro st ha dst pos after guard w _
  simp [execOp, Instr.sliceAt, Instr.slice, ha.ev hx, run_und ht.und, run_sizeOf ht.size, Instr.sliceBounds, Instr.sliceBound, asIntOf, ha.ev hy, ha.ev hz]
theorem Mem.rowC {w : World} {mm c : Nat} {cs : List Value} {e : TypeId} {sz : Nat} (h : Mem X w0 (.row none mm c cs e sz :: M) I w) : c = 0 := by
  have ho : w.ownsRow 0 e sz (.slice none mm c) mm cs := h.ent _ List.mem_cons_self
  rcases ho.2 with ⟨h1, h2⟩ | ⟨g, cap, cur, hv, _⟩
  · injection h1
  · injection hv with e1; cases e1
end
end Go.Fx
