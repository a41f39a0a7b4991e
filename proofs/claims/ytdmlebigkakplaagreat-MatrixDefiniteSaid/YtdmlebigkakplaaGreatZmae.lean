/- Structs of plain integers: equality. Closures' variables. Bits: shifts, and, xor on natural numbers. Comparisons of truth values. -/
import Derived.Test.YtdmlebigkakplaaGreatZmad
import Derived.Laws.StructEq
import Derived.Laws.Small
set_option linter.unusedSimpArgs false
set_option linter.unusedVariables false
namespace Go.Fx

def isI64 : Option TypeDesc → Bool
  | some (.int .i64) => true
  | _ => false
theorem isI64_eq {d : Option TypeDesc} (h : isI64 d = true) : d = some (.int .i64) := by
  unfold isI64 at h
  split at h
  · rfl
  · cases h
/-- a struct of m fields, each an int -/
class IntStruct (P : Program) (t : TypeId) (m : outParam Nat) : Prop where
  und : P.underlying t = some (.struct (P.fieldsOf t))
  held : P.stoodInHeld t = false
  guard : P.eqGuardType P.depth t = false
  fields : (P.fieldsOf t).toList.map (fun f => (f.name == "_", f.offset, isI64 (P.underlying f.type))) = (List.range m).map (fun k => (false, k, true))

def i64s (xs : List Int) : List Value := xs.map (Value.int .i64)
theorem i64s_inj {xs ys : List Int} (h : i64s xs = i64s ys) : xs = ys := by
  unfold i64s at h
  exact (List.map_inj_right (fun a b e => by injection e)).1 h

section
variable {P : Program} {n : Nat} {G : Env} {ty : TypeId} {C : World → Prop}

theorem run_eqFields (d : Nat) (w : World) : ∀ (fs : List Field) (k : Nat) (xs ys : List Int), (∀ j f, fs[j]? = some f → (f.name == "_") = false ∧ f.offset = k + j ∧ P.underlying f.type = some (.int .i64)) →
    k + fs.length = xs.length → k + fs.length = ys.length →
    (Op.eqFields (d + 1) (i64s xs).toArray (i64s ys).toArray fs).run P w = .ok (decide (xs.drop k = ys.drop k)) w
  | [], k, xs, ys, _, hx, hy => by
    have h1 : xs.drop k = [] := List.drop_eq_nil_of_le (by simp at hx; omega)
    have h2 : ys.drop k = [] := List.drop_eq_nil_of_le (by simp at hy; omega)
    simp [Op.eqFields, h1, h2]
  | f :: fs, k, xs, ys, hf, hx, hy => by
    obtain ⟨h1, h2, h3⟩ := hf 0 f rfl
    have h1' : f.name ≠ "_" := by simpa using h1
    simp only [List.length_cons] at hx hy
    have hxk : k < xs.length := by omega
    have hyk : k < ys.length := by omega
    have hag : (isAgg f.type).run P w = .ok false w := by simp [isAgg, run_und h3]
    have px : (part f.type (i64s xs).toArray f.offset).run P w = .ok (.int .i64 xs[k]) w := by
      simp [part, hag, h2, i64s, hxk]
    have py : (part f.type (i64s ys).toArray f.offset).run P w = .ok (.int .i64 ys[k]) w := by
      simp [part, hag, h2, i64s, hyk]
    have ih := run_eqFields d w fs (k + 1) xs ys (fun j g hj => by
      obtain ⟨g1, g2, g3⟩ := hf (j + 1) g (by simpa using hj)
      exact ⟨g1, by omega, g3⟩) (by omega) (by omega)
    have hrq := run_equalIn_int (P := P) w d f.type .i64 .i64 xs[k] ys[k] h3
    simp only [Op.eqFields, if_pos h1', Sem.run_bind, px, py, Result.andThen_ok, hrq]
    have ex := List.drop_eq_getElem_cons hxk
    have ey := List.drop_eq_getElem_cons hyk
    have hiff : (xs.drop k = ys.drop k) ↔ (xs[k] = ys[k] ∧ xs.drop (k + 1) = ys.drop (k + 1)) := by
      constructor
      · intro h
        rw [ex, ey] at h
        injection h with h1 h2
        exact ⟨h1, h2⟩
      · rintro ⟨h1, h2⟩
        rw [ex, ey, h1, h2]
    by_cases he : xs[k] = ys[k]
    · simp [he, ih, hiff]
    · simp [he, hiff]
theorem run_eqInts {t : TypeId} {m : Nat} [ht : IntStruct P t m] (xs ys : List Int) (hx : xs.length = m) (hy : ys.length = m) (w : World) (op : BinOp) (x y : Operand) :
    (eqGuard op t x y (.agg (i64s xs).toArray) (.agg (i64s ys).toArray)).run P w = .ok () w ∧ (Op.equalIn 10000 t (.agg (i64s xs).toArray) (.agg (i64s ys).toArray)).run P w = .ok (decide (xs = ys)) w := by
  refine ⟨run_eqGuard_agg w op t x y _ _ ht.guard, ?_⟩
  rw [show (10000 : Nat) = 9999 + 1 from rfl, run_equalIn_struct w 9999 t _ _ ht.und ht.held]
  have hlen : (P.fieldsOf t).toList.length = m := by
    have := congrArg List.length ht.fields
    simpa using this
  have := run_eqFields (P := P) 9998 w (P.fieldsOf t).toList 0 xs ys (fun j f hj => by
    have hh : ((P.fieldsOf t).toList.map (fun f => (f.name == "_", f.offset, isI64 (P.underlying f.type))))[j]? = some (f.name == "_", f.offset, isI64 (P.underlying f.type)) := by simp [List.getElem?_map, hj]
    rw [ht.fields, List.getElem?_map] at hh
    obtain ⟨a, ha, hq⟩ := Option.map_eq_some_iff.1 hh
    have hja : a = j := by
      obtain ⟨_, h2⟩ := List.getElem?_eq_some_iff.1 ha
      rw [List.getElem_range] at h2
      exact h2.symm
    subst hja
    have e1 : false = (f.name == "_") := congrArg (fun p => p.1) hq
    have e2 : a = f.offset := congrArg (fun p => p.2.1) hq
    have e3 : true = isI64 (P.underlying f.type) := congrArg (fun p => p.2.2) hq
    exact ⟨e1.symm, by omega, isI64_eq e3.symm⟩) (by omega) (by omega)
  simpa using this
theorem Const_eqI {t t' : TypeId} {x y : Operand} {xs ys : List Int} {m : Nat} [ht : IntStruct P t m] (hx : ev G x = some (.agg (i64s xs).toArray)) (hy : ev G y = some (.agg (i64s ys).toArray)) (h1 : xs.length = m) (h2 : ys.length = m) :
    Const P n G (.binOp .eql t x y t') ty C (.bool (B (xs = ys))) := by
  refine ⟨?_⟩
  intro s ha dst pos after guard w _
  obtain ⟨e1, e2⟩ := run_eqInts (P := P) (t := t) xs ys h1 h2 w .eql x y
  simp only [execOp, ha.ev hx, ha.ev hy, Sem.run_bind, e1, Result.andThen_ok, run_eql_struct, e2, Sem.run_pure, B_eq]
theorem Const_neI {t t' : TypeId} {x y : Operand} {xs ys : List Int} {m : Nat} [ht : IntStruct P t m] (hx : ev G x = some (.agg (i64s xs).toArray)) (hy : ev G y = some (.agg (i64s ys).toArray)) (h1 : xs.length = m) (h2 : ys.length = m) :
    Const P n G (.binOp .neq t x y t') ty C (.bool (B (xs ≠ ys))) := by
  refine ⟨?_⟩
  intro s ha dst pos after guard w _
  obtain ⟨e1, e2⟩ := run_eqInts (P := P) (t := t) xs ys h1 h2 w .neq x y
  simp only [execOp, ha.ev hx, ha.ev hy, Sem.run_bind, e1, Result.andThen_ok, run_neq_struct, e2, Sem.run_pure, B_eq]
  congr 3
  simp
end

theorem i64s_len (xs : List Int) : (i64s xs).length = xs.length := by simp [i64s]
theorem i64s_one (xs : List Int) : ∀ u ∈ i64s xs, u.oneCell' = true := by
  intro u hu
  simp only [i64s, List.mem_map] at hu
  obtain ⟨x, _, rfl⟩ := hu
  rfl
/-- stages of a region: nothing turns before its first store -/
def stg (X : List Nat) (w0 : World) : Nat → World → Prop
  | 0 => Ext [] w0
  | _ + 1 => Ext X w0
theorem stg_mono (X : List Nat) (w0 : World) : ∀ s w, stg X w0 s w → stg X w0 (s + 1) w
  | 0, _, h => h.of_nil
  | _ + 1, _, h => h
theorem Blk.at {w : World} {b : Nat} {cs : List Value} {e : TypeId} (h : Blk w b cs e) {i : Nat} {v : Value} (hv : cs[i]? = some v) : w.cell? (pt (some ⟨b, 0, none⟩) (i * 1)) = some v := by
  simpa [pt, bl, of] using h.cell hv
/- a slice against nil -/
theorem run_eqNil {P : Program} {t e : TypeId} {sz : Nat} [ht : SliceTy P t e sz] (d : Nat) (a : Option Addr) (l c : Nat) (w : World) : (Op.equalIn (d + 1) t (.slice a l c) (.slice none 0 0)).run P w = .ok a.isNone w := by
  cases a <;> simp [Op.equalIn, run_und ht.und]
theorem run_nilEq {P : Program} {t e : TypeId} {sz : Nat} [ht : SliceTy P t e sz] (op : BinOp) (x y : Operand) (a : Option Addr) (l c : Nat) (w : World) :
    (eqGuard op t x y (.slice a l c) (.slice none 0 0)).run P w = .ok () w ∧ (Op.equal t (.slice a l c) (.slice none 0 0)).run P w = .ok a.isNone w := by
  refine ⟨?_, ?_⟩
  · cases op <;> rfl
  · exact run_eqNil (P := P) (t := t) 9999 a l c w
theorem Const_eqNil {P : Program} {n : Nat} {G : Env} {ty : TypeId} {C : World → Prop} {t t' e : TypeId} {sz : Nat} {x : Operand} {a : Option Addr} {l c : Nat} [ht : SliceTy P t e sz] (hx : ev G x = some (.slice a l c)) :
    Const P n G (.binOp .eql t x (.const (.slice none 0 0)) t') ty C (.bool a.isNone) := by
  refine ⟨?_⟩
  intro s ha dst pos after guard w _
  obtain ⟨e1, e2⟩ := run_nilEq (P := P) (t := t) .eql x (.const (.slice none 0 0)) a l c w
  have hc : s.eval (.const (.slice none 0 0)) = .slice none 0 0 := rfl
  simp only [execOp, ha.ev hx, hc, Sem.run_bind, e1, Result.andThen_ok, binOp, e2, Sem.run_pure]
theorem Const_neNil {P : Program} {n : Nat} {G : Env} {ty : TypeId} {C : World → Prop} {t t' e : TypeId} {sz : Nat} {x : Operand} {a : Option Addr} {l c : Nat} [ht : SliceTy P t e sz] (hx : ev G x = some (.slice a l c)) :
    Const P n G (.binOp .neq t x (.const (.slice none 0 0)) t') ty C (.bool (!a.isNone)) := by
  refine ⟨?_⟩
  intro s ha dst pos after guard w _
  obtain ⟨e1, e2⟩ := run_nilEq (P := P) (t := t) .neq x (.const (.slice none 0 0)) a l c w
  have hc : s.eval (.const (.slice none 0 0)) = .slice none 0 0 := rfl
  simp only [execOp, ha.ev hx, hc, Sem.run_bind, e1, Result.andThen_ok, binOp, e2, Sem.run_pure]

theorem B_congr {p q : Prop} [Decidable p] [Decidable q] (h : p ↔ q) : B p = B q := by rw [B_eq, B_eq]; exact decide_eq_decide.2 h
/-- new memory: a slice whose cells lie in none of the blocks that were there -/
def New (w0 w : World) (a : Option Addr) (cs : List Value) : Prop := ∀ X : List Nat, (∀ x ∈ X, x < w0.heap.size) → Sl X w a cs
theorem New.mono {w0 w w' : World} {a : Option Addr} {cs : List Value} (h : New w0 w a cs) (he : Ext [] w w') : New w0 w' a cs := fun X hX j v hj => by
  obtain ⟨h1, h2, h3⟩ := h X hX j v hj
  exact ⟨h1, h2, he.cell h3 (by simp)⟩
/-- a row of m structs of k cells: element i -/
theorem Sl.rowAt {X : List Nat} {w : World} {a : Option Addr} {cs : List Value} (h : Sl X w a cs) (o : Nat) (vs : List Value) (hv : ∀ j v, vs[j]? = some v → cs[o + j]? = some v) : Row w (bl a) (of a + o) vs := fun j v hj => by
  have := (h _ v (hv j v hj)).2.2
  simpa [pt, Nat.add_assoc] using this
end Go.Fx
namespace Go.Fx
section
variable {P : Program} {n : Nat} {G : Env} {ty : TypeId} {C : World → Prop}

theorem ofInt64 {x : Nat} (hx : x < 2 ^ 64) : (BitVec.ofInt 64 (x : Int)).toNat = x := by
  rw [BitVec.toNat_ofInt]
  omega
theorem Const_shr {t t' : TypeId} {x y : Operand} {k k' : IntKind} {a s : Nat} (hx : ev G x = some (.int k (a : Int))) (hy : ev G y = some (.int k' (s : Int))) (hs : s < k.bits) :
    Const P n G (.binOp .shr t x y t') ty C (.int k ((a / 2 ^ s : Nat) : Int)) := by
  refine Const_shift hx hy (by omega) (.inr ⟨rfl, ?_⟩)
  have : min ((s : Int).toNat) k.bits = s := by simp; omega
  rw [this, Int.fdiv_eq_ediv_of_nonneg _ (by exact Int.le_of_lt (Int.pow_pos (by omega)))]
  simp
theorem Const_and64 {t t' : TypeId} {x y : Operand} {a b : Nat} (hx : ev G x = some (.int .u64 (a : Int))) (hy : ev G y = some (.int .u64 (b : Int))) (ha : a < 2 ^ 64) (hb : b < 2 ^ 64) :
    Const P n G (.binOp .and t x y t') ty C (.int .u64 ((a &&& b : Nat) : Int)) := by
  refine Const_bits hx hy (.inl rfl) fun w => ?_
  have e : (BitVec.ofInt IntKind.u64.bits (a : Int) &&& BitVec.ofInt IntKind.u64.bits (b : Int)).toNat = a &&& b := by
    show (BitVec.ofInt 64 (a : Int) &&& BitVec.ofInt 64 (b : Int)).toNat = _
    rw [BitVec.toNat_and, ofInt64 ha, ofInt64 hb]
  have hlt : a &&& b ≤ a := Nat.and_le_left
  simp only [Op.intBits, e, Sem.run_pure]
  rw [wrap_u64 ⟨by omega, by omega⟩]
theorem Const_andI {t t' : TypeId} {x y : Operand} {a b : Nat} (hx : ev G x = some (.int .i64 (a : Int))) (hy : ev G y = some (.int .i64 (b : Int))) (ha : a < 2 ^ 63) (hb : b < 2 ^ 63) :
    Const P n G (.binOp .and t x y t') ty C (.int .i64 ((a &&& b : Nat) : Int)) := by
  refine Const_bits hx hy (.inl rfl) fun w => ?_
  have e : (BitVec.ofInt IntKind.i64.bits (a : Int) &&& BitVec.ofInt IntKind.i64.bits (b : Int)).toNat = a &&& b := by
    show (BitVec.ofInt 64 (a : Int) &&& BitVec.ofInt 64 (b : Int)).toNat = _
    rw [BitVec.toNat_and, ofInt64 (by omega), ofInt64 (by omega)]
  have hlt : a &&& b ≤ a := Nat.and_le_left
  simp only [Op.intBits, e, Sem.run_pure]
  rw [wrap_i64 ⟨by omega, by omega⟩]
theorem Const_xor64 {t t' : TypeId} {x y : Operand} {a b : Nat} (hx : ev G x = some (.int .u64 (a : Int))) (hy : ev G y = some (.int .u64 (b : Int))) (ha : a < 2 ^ 64) (hb : b < 2 ^ 64) :
    Const P n G (.binOp .xor t x y t') ty C (.int .u64 ((a ^^^ b : Nat) : Int)) := by
  refine Const_bits hx hy (.inr (.inr (.inl rfl))) fun w => ?_
  have e : (BitVec.ofInt IntKind.u64.bits (a : Int) ^^^ BitVec.ofInt IntKind.u64.bits (b : Int)).toNat = a ^^^ b := by
    show (BitVec.ofInt 64 (a : Int) ^^^ BitVec.ofInt 64 (b : Int)).toNat = _
    rw [BitVec.toNat_xor, ofInt64 ha, ofInt64 hb]
  have hlt : a ^^^ b < 2 ^ 64 := Nat.xor_lt_two_pow ha hb
  simp only [Op.intBits, e, Sem.run_pure]
  rw [wrap_u64 ⟨by omega, by omega⟩]
end
end Go.Fx
namespace Go.Fx
section
variable {P : Program} {n : Nat} {G : Env} {ty : TypeId} {C : World → Prop}
theorem Const_eqB {t t' : TypeId} {x y : Operand} {a b : Bool} [ht : BoolTy P t] (hx : ev G x = some (.bool a)) (hy : ev G y = some (.bool b)) :
    Const P n G (.binOp .eql t x y t') ty C (.bool (a == b)) := by
  refine ⟨?_⟩
  intro s ha dst pos after guard w _
  have e1 : (eqGuard .eql t x y (.bool a) (.bool b)).run P w = .ok () w := rfl
  simp only [execOp, ha.ev hx, ha.ev hy, Sem.run_bind, e1, Result.andThen_ok, run_eql_bool _ t a b ht.und, Sem.run_pure]
/-- of two decided tests -/
theorem Const_eqBB {t t' : TypeId} {x y : Operand} {p q : Prop} [Decidable p] [Decidable q] [ht : BoolTy P t] (hx : ev G x = some (.bool (B p))) (hy : ev G y = some (.bool (B q))) :
    Const P n G (.binOp .eql t x y t') ty C (.bool (B (p ↔ q))) := by
  have := Const_eqB (P := P) (n := n) (ty := ty) (C := C) (t := t) (t' := t') hx hy
  have e : (B p == B q) = B (p ↔ q) := by
    rw [B_eq, B_eq, B_eq]
    by_cases hp : p <;> by_cases hq : q <;> simp [hp, hq]
  rwa [e] at this
end
end Go.Fx
