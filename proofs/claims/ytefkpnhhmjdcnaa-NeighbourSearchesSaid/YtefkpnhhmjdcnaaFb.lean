/- Bits: shifts, and, xor on natural numbers. -/
import Derived.Test.YtefkpnhhmjdcnaaFv
namespace Go.Fx
section
variable {P : Program} {n : Nat} {G : Env} {ty : TypeId} {C : World → Prop}

theorem ofInt64 {x : Nat} (hx : x < 2 ^ 64) : (BitVec.ofInt 64 (x : Int)).toNat = x := by
  rw [BitVec.toNat_ofInt]
  omega
theorem Const_shr {t t' : TypeId} {x y : Operand} {k k' : IntKind} {a s : Nat} (hx : ev G x = some (.int k (a : Int))) (hy : ev G y = some (.int k' (s : Int))) (hs : s < k.bits) :
    Const P n G (.binOp .shr t x y t') ty C (.int k ((a / 2 ^ s : Nat) : Int)) := by
  refine Const_shift hx hy (by omega) (.inr ⟨rfl, ?_⟩)
  have : min ((s : Int).toNat) k.bits = s := by simp; omega
  rw [this, Int.fdiv_eq_ediv_of_nonneg _ (by exact Int.le_of_lt (Int.pow_pos (by omega)))]
  simp
theorem Const_and64 {t t' : TypeId} {x y : Operand} {a b : Nat} (hx : ev G x = some (.int .u64 (a : Int))) (hy : ev G y = some (.int .u64 (b : Int))) (ha : a < 2 ^ 64) (hb : b < 2 ^ 64) :
    Const P n G (.binOp .and t x y t') ty C (.int .u64 ((a &&& b : Nat) : Int)) := by
  refine Const_bits hx hy (.inl rfl) fun w => ?_
  have e : (BitVec.ofInt IntKind.u64.bits (a : Int) &&& BitVec.ofInt IntKind.u64.bits (b : Int)).toNat = a &&& b := by
    show (BitVec.ofInt 64 (a : Int) &&& BitVec.ofInt 64 (b : Int)).toNat = _
    rw [BitVec.toNat_and, ofInt64 ha, ofInt64 hb]
  have hlt : a &&& b ≤ a := Nat.and_le_left
  simp only [Op.intBits, e, Sem.run_pure]
  rw [wrap_u64 ⟨by omega, by omega⟩]
theorem Const_andI {t t' : TypeId} {x y : Operand} {a b : Nat} (hx : ev G x = some (.int .i64 (a : Int))) (hy : ev G y = some (.int .i64 (b : Int))) (ha : a < 2 ^ 63) (hb : b < 2 ^ 63) :
    Const P n G (.binOp .and t x y t') ty C (.int .i64 ((a &&& b : Nat) : Int)) := by
  refine Const_bits hx hy (.inl rfl) fun w => ?_
  have e : (BitVec.ofInt IntKind.i64.bits (a : Int) &&& BitVec.ofInt IntKind.i64.bits (b : Int)).toNat = a &&& b := by
    show (BitVec.ofInt 64 (a : Int) &&& BitVec.ofInt 64 (b : Int)).toNat = _
    rw [BitVec.toNat_and, ofInt64 (by omega), ofInt64 (by omega)]
  have hlt : a &&& b ≤ a := Nat.and_le_left
  simp only [Op.intBits, e, Sem.run_pure]
  rw [wrap_i64 ⟨by omega, by omega⟩]
theorem Const_xor64 {t t' : TypeId} {x y : Operand} {a b : Nat} (hx : ev G x = some (.int .u64 (a : Int))) (hy : ev G y = some (.int .u64 (b : Int))) (ha : a < 2 ^ 64) (hb : b < 2 ^ 64) :
    Const P n G (.binOp .xor t x y t') ty C (.int .u64 ((a ^^^ b : Nat) : Int)) := by
  refine Const_bits hx hy (.inr (.inr (.inl rfl))) fun w => ?_
  have e : (BitVec.ofInt IntKind.u64.bits (a : Int) ^^^ BitVec.ofInt IntKind.u64.bits (b : Int)).toNat = a ^^^ b := by
    show (BitVec.ofInt 64 (a : Int) ^^^ BitVec.ofInt 64 (b : Int)).toNat = _
    rw [BitVec.toNat_xor, ofInt64 ha, ofInt64 hb]
  have hlt : a ^^^ b < 2 ^ 64 := Nat.xor_lt_two_pow ha hb
  simp only [Op.intBits, e, Sem.run_pure]
  rw [wrap_u64 ⟨by omega, by omega⟩]
end
end Go.Fx
