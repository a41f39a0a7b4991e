/- Comparisons of truth values. -/
import Derived.Test.YtefkpnhhmjdcnaaFb
import Derived.Laws.Small
namespace Go.Fx
section
variable {P : Program} {n : Nat} {G : Env} {ty : TypeId} {C : World → Prop}
theorem Const_eqB {t t' : TypeId} {x y : Operand} {a b : Bool} [ht : BoolTy P t] (hx : ev G x = some (.bool a)) (hy : ev G y = some (.bool b)) :
    Const P n G (.binOp .eql t x y t') ty C (.bool (a == b)) := by
  refine ⟨?_⟩
  intro s ha dst pos after guard w _
  have e1 : (eqGuard .eql t x y (.bool a) (.bool b)).run P w = .ok () w := rfl
  simp only [execOp, ha.ev hx, ha.ev hy, Sem.run_bind, e1, Result.andThen_ok, run_eql_bool _ t a b ht.und, Sem.run_pure]
/-- of two decided tests -/
theorem Const_eqBB {t t' : TypeId} {x y : Operand} {p q : Prop} [Decidable p] [Decidable q] [ht : BoolTy P t] (hx : ev G x = some (.bool (B p))) (hy : ev G y = some (.bool (B q))) :
    Const P n G (.binOp .eql t x y t') ty C (.bool (B (p ↔ q))) := by
  have := Const_eqB (P := P) (n := n) (ty := ty) (C := C) (t := t) (t' := t') hx hy
  have e : (B p == B q) = B (p ↔ q) := by
    rw [B_eq, B_eq, B_eq]
    by_cases hp : p <;> by_cases hq : q <;> simp [hp, hq]
  rwa [e] at this
end
end Go.Fx
