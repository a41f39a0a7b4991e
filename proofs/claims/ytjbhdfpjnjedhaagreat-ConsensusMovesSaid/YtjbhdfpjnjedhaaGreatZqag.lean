/- The symbolic heap, continued: parts of what is read, xor. The types and functions of this seat, as instances. Written by facts.py. A premise that no search takes for another; looks alone. The walk, kept once. integer: magnitudes: at, trim, plus, minus, compare, times, short -/
import Derived.Test.YtjbhdfpjnjedhaaGreatZqaf
import Derived.Test.YtjbhdfpjnjedhaaGreatProg
import Derived.Test.YtjbhdfpjnjedhaaGreatZqac
import Derived.KernelRfl
import Derived.Test.YtjbhdfpjnjedhaaGreatZqae
set_option linter.unusedSimpArgs false
set_option linter.unusedVariables false
set_option maxRecDepth 100000
set_option maxHeartbeats 4000000
namespace Go.Fx
section
variable {α : Type} {enc : α → List Value} {sz : Nat}
end
section
variable {P : Program} {n : Nat} {Q Q' : Exit → Act → World → Prop} {G : Env} {X : List Nat} {w0 : World} {M M' M1 : List Ent} {I I' I1 : List aT}
theorem xZ {C : World → Prop} {ty t e : TypeId} {sz : Nat} {x : Operand} {lo hi : Option Operand} {a : Option Addr} {len c : Nat} (l h k : Nat) [ht : SliceTy P t e sz] (hx : ev G x = some (.slice a len c))
  (hl : (lo = none ∧ l = 0) ∨ ∃ y k i, lo = some y ∧ ev G y = some (.int k i) ∧ i = (l : Int)) (hh : (hi = none ∧ h = len) ∨ ∃ y k i, hi = some y ∧ ev G y = some (.int k i) ∧ i = (h : Int)) (h1 : l ≤ h) (h2 : h ≤ c) (hk : h - l = k) :
  Const P n G (.slice t x lo hi none) ty C (.slice (aIX a c l sz) k (c - l)) := by
 subst hk
 exact aFY hx (hl.imp id (fun ⟨y, k, i, h1, h2, h3⟩ => ⟨y, k, h1, by rw [← h3]; exact h2⟩)) (hh.imp id (fun ⟨y, k, i, h1, h2, h3⟩ => ⟨y, k, h1, by rw [← h3]; exact h2⟩)) h1 h2
theorem aVG {ex : Exit} (e : TypeId) (sz : Nat) (h : ND n Q ex G X w0 (.row none 0 0 [] e sz :: M) I) : ND n Q ex G X w0 M I := xP (fun _ hw => hw.row0 e sz) h
theorem wJ {ops l : List Oper} {m : Mode} {b mm : Nat} {cs : List Value} {e : TypeId} (sz : Nat) (hr : Rep (.blk b cs e) (.row (some ⟨b, 0, none⟩) mm mm cs e sz) M M') (hl : cs.length = mm * sz) (hm : mm ≤ 9223372036854775807) (h : RD P n ops Q m l G X w0 M' I) : RD P n ops Q m l G X w0 M I := xJ (fun _ hw => hw.toRow sz hr hl hm) h
theorem CD.post {f : FuncId} {vs : List Value} {K K' : Value → List Ent → List aT → Prop} (h : CD P f vs X w0 M I K) (hk : ∀ v M1 I1 w, K v M1 I1 → Mem X w0 M1 I1 w → ∃ M2 I2, K' v M2 I2 ∧ Mem X w0 M2 I2 w) : CD P f vs X w0 M I K' :=
 ⟨fun w hw => (h.go w hw).mono (fun _ _ ⟨_, _, h1, h2⟩ => hk _ _ _ _ h1 h2)⟩
theorem CD.pre {f : FuncId} {vs : List Value} {K : Value → List Ent → List aT → Prop} (hM : ∀ w, Mem X w0 M I w → Mem X w0 M' I' w) (h : CD P f vs X w0 M' I' K) : CD P f vs X w0 M I K := ⟨fun w hw => h.go w (hM w hw)⟩
/- two operations that change the world, in either order -/
theorem dA {C : World → Prop} {ty t t' : TypeId} {x y : Operand} {p q : Prop} [Decidable p] [Decidable q] [ht : BoolTy P t] (hx : ev G x = some (.bool (B p))) (hy : ev G y = some (.bool (B q))) :
  Const P n G (.binOp .neq t x y t') ty C (.bool (B (¬ (p ↔ q)))) := by
 refine ⟨?_⟩
 intro s ha dst pos after guard w _
 have h : (!(B p == B q)) = B (¬ (p ↔ q)) := by
  rw [tV, tV, tV]
  by_cases hp : p <;> by_cases hq : q <;> simp [hp, hq]
 have e1 : (eqGuard .neq t x y (.bool (B p)) (.bool (B q))).run P w = .ok () w := rfl
 simp only [execOp, ha.ev hx, ha.ev hy, Sem.run_bind, e1, Result.andThen_ok, run_neq_bool _ t (B p) (B q) ht.und, Sem.run_pure, h]
theorem Mem.rowLe {w : World} {a : Option Addr} {m c : Nat} {cs : List Value} {e : TypeId} {sz : Nat} (h : Mem X w0 M I w) (hm : .row a m c cs e sz ∈ M) : m ≤ c := by
 have ho : w.ownsRow 0 e sz (.slice a m c) m cs := h.ent _ hm
 obtain ⟨a', c', hv, _, _, hle⟩ := aBI ho
 injection hv with e1 e2 e3
 subst e3
 exact hle
end
end Go.Fx
namespace Go.Proofs.YtjbhdfpjnjedhaaGreat
open Go Go.Fx
instance : IntTy Tryz.prog 2 .i64 := ⟨Tryz.underlying2⟩
instance : ScalarTy Tryz.prog 3 := ⟨⟨_, Tryz.underlying3, (by intro _ h; cases h), (by intro _ _ h; cases h)⟩, by kernel_rfl⟩
instance : IntTy Tryz.prog 3 .i64 := ⟨Tryz.underlying3⟩
instance : ElemTy Tryz.prog 3 1 8 [.int .i64 0] := ⟨by kernel_rfl, rfl⟩
instance : ScalarTy Tryz.prog 4 := ⟨⟨_, Tryz.underlying4, (by intro _ h; cases h), (by intro _ _ h; cases h)⟩, by kernel_rfl⟩
instance : BoolTy Tryz.prog 4 := ⟨Tryz.underlying4⟩
instance : IntTy Tryz.prog 5 .u8 := ⟨Tryz.underlying5⟩
instance : StrTy Tryz.prog 9 := ⟨Tryz.underlying9⟩
instance : ScalarTy Tryz.prog 22 := ⟨⟨_, Tryz.underlying22, (by intro _ h; cases h), (by intro _ _ h; cases h)⟩, by kernel_rfl⟩
instance : SliceTy Tryz.prog 22 65 4 := ⟨Tryz.underlying22, by kernel_rfl⟩
instance : ScalarTy Tryz.prog 23 := ⟨⟨_, Tryz.underlying23, (by intro _ h; cases h), (by intro _ _ h; cases h)⟩, by kernel_rfl⟩
instance : ScalarTy Tryz.prog 24 := ⟨⟨_, Tryz.underlying24, (by intro _ h; cases h), (by intro _ _ h; cases h)⟩, by kernel_rfl⟩
instance : IntTy Tryz.prog 24 .i16 := ⟨Tryz.underlying24⟩
instance : FieldAt Tryz.prog 26 0 0 23 1 := ⟨⟨_, _, Tryz.underlying26, rfl, rfl, rfl⟩, by kernel_rfl⟩
instance : FieldAt Tryz.prog 26 1 1 3 1 := ⟨⟨_, _, Tryz.underlying26, rfl, rfl, rfl⟩, by kernel_rfl⟩
instance : FieldAt Tryz.prog 26 2 2 24 1 := ⟨⟨_, _, Tryz.underlying26, rfl, rfl, rfl⟩, by kernel_rfl⟩
instance : FieldAt Tryz.prog 26 3 3 24 1 := ⟨⟨_, _, Tryz.underlying26, rfl, rfl, rfl⟩, by kernel_rfl⟩
instance : FieldAt Tryz.prog 26 4 4 4 1 := ⟨⟨_, _, Tryz.underlying26, rfl, rfl, rfl⟩, by kernel_rfl⟩
instance : FieldAt Tryz.prog 26 5 5 4 1 := ⟨⟨_, _, Tryz.underlying26, rfl, rfl, rfl⟩, by kernel_rfl⟩
instance : ScalarTy Tryz.prog 32 := ⟨⟨_, Tryz.underlying32, (by intro _ h; cases h), (by intro _ _ h; cases h)⟩, by kernel_rfl⟩
instance : SliceTy Tryz.prog 32 3 1 := ⟨Tryz.underlying32, by kernel_rfl⟩
instance : ElemTy Tryz.prog 32 1 24 [.slice none 0 0] := ⟨by kernel_rfl, rfl⟩
instance : ScalarTy Tryz.prog 34 := ⟨⟨_, Tryz.underlying34, (by intro _ h; cases h), (by intro _ _ h; cases h)⟩, by kernel_rfl⟩
instance : SliceTy Tryz.prog 34 53 1 := ⟨Tryz.underlying34, by kernel_rfl⟩
instance : ElemTy Tryz.prog 34 1 24 [.slice none 0 0] := ⟨by kernel_rfl, rfl⟩
instance : AggTy Tryz.prog 36 4 := ⟨.inl ⟨_, Tryz.underlying36⟩, by kernel_rfl⟩
instance : StructTy Tryz.prog 36 [(0, 1), (1, 1), (2, 1), (3, 1)] [.int .i64 0, .slice none 0 0, .slice none 0 0, .slice none 0 0] := ⟨⟨_, Tryz.underlying36, by kernel_rfl⟩, by kernel_rfl⟩
instance : FieldAt Tryz.prog 36 1 1 32 1 := ⟨⟨_, _, Tryz.underlying36, rfl, rfl, rfl⟩, by kernel_rfl⟩
instance : FieldAt Tryz.prog 36 2 2 32 1 := ⟨⟨_, _, Tryz.underlying36, rfl, rfl, rfl⟩, by kernel_rfl⟩
instance : FieldAt Tryz.prog 36 3 3 34 1 := ⟨⟨_, _, Tryz.underlying36, rfl, rfl, rfl⟩, by kernel_rfl⟩
instance : ElemTy Tryz.prog 36 4 80 [.int .i64 0, .slice none 0 0, .slice none 0 0, .slice none 0 0] := ⟨by kernel_rfl, rfl⟩
instance : ScalarTy Tryz.prog 46 := ⟨⟨_, Tryz.underlying46, (by intro _ h; cases h), (by intro _ _ h; cases h)⟩, by kernel_rfl⟩
instance : SliceTy Tryz.prog 46 104 1 := ⟨Tryz.underlying46, by kernel_rfl⟩
instance : AggTy Tryz.prog 48 2 := ⟨.inl ⟨_, Tryz.underlying48⟩, by kernel_rfl⟩
instance : StructTy Tryz.prog 48 [(0, 1), (1, 1)] [.bool false, .slice none 0 0] := ⟨⟨_, Tryz.underlying48, by kernel_rfl⟩, by kernel_rfl⟩
instance : FieldAt Tryz.prog 48 0 0 4 1 := ⟨⟨_, _, Tryz.underlying48, rfl, rfl, rfl⟩, by kernel_rfl⟩
instance : FieldAt Tryz.prog 48 1 1 46 1 := ⟨⟨_, _, Tryz.underlying48, rfl, rfl, rfl⟩, by kernel_rfl⟩
instance : ElemTy Tryz.prog 48 2 32 [.bool false, .slice none 0 0] := ⟨by kernel_rfl, rfl⟩
instance : AggTy Tryz.prog 50 4 := ⟨.inl ⟨_, Tryz.underlying50⟩, by kernel_rfl⟩
instance : StructTy Tryz.prog 50 [(0, 2), (2, 2)] [.bool false, .slice none 0 0, .bool false, .slice none 0 0] := ⟨⟨_, Tryz.underlying50, by kernel_rfl⟩, by kernel_rfl⟩
instance : FieldAt Tryz.prog 50 0 0 48 2 := ⟨⟨_, _, Tryz.underlying50, rfl, rfl, rfl⟩, by kernel_rfl⟩
instance : FieldAt Tryz.prog 50 1 2 48 2 := ⟨⟨_, _, Tryz.underlying50, rfl, rfl, rfl⟩, by kernel_rfl⟩
instance : ElemTy Tryz.prog 50 4 64 [.bool false, .slice none 0 0, .bool false, .slice none 0 0] := ⟨by kernel_rfl, rfl⟩
instance : ScalarTy Tryz.prog 53 := ⟨⟨_, Tryz.underlying53, (by intro _ h; cases h), (by intro _ _ h; cases h)⟩, by kernel_rfl⟩
instance : SliceTy Tryz.prog 53 50 4 := ⟨Tryz.underlying53, by kernel_rfl⟩
instance : ElemTy Tryz.prog 53 1 24 [.slice none 0 0] := ⟨by kernel_rfl, rfl⟩
instance : AggTy Tryz.prog 56 2 := ⟨.inl ⟨_, Tryz.underlying56⟩, by kernel_rfl⟩
instance : StructTy Tryz.prog 56 [(0, 1), (1, 1)] [.int .i64 0, .int .i64 0] := ⟨⟨_, Tryz.underlying56, by kernel_rfl⟩, by kernel_rfl⟩
instance : FieldAt Tryz.prog 56 0 0 3 1 := ⟨⟨_, _, Tryz.underlying56, rfl, rfl, rfl⟩, by kernel_rfl⟩
instance : FieldAt Tryz.prog 56 1 1 3 1 := ⟨⟨_, _, Tryz.underlying56, rfl, rfl, rfl⟩, by kernel_rfl⟩
instance : IntStruct Tryz.prog 56 2 := ⟨by kernel_rfl, by kernel_rfl, by kernel_rfl, by kernel_rfl⟩
instance : ElemTy Tryz.prog 56 2 16 [.int .i64 0, .int .i64 0] := ⟨by kernel_rfl, rfl⟩
instance : AggTy Tryz.prog 65 4 := ⟨.inl ⟨_, Tryz.underlying65⟩, by kernel_rfl⟩
instance : StructTy Tryz.prog 65 [(0, 2), (2, 2)] [.int .i64 0, .int .i64 0, .int .i64 0, .int .i64 0] := ⟨⟨_, Tryz.underlying65, by kernel_rfl⟩, by kernel_rfl⟩
instance : FieldAt Tryz.prog 65 0 0 56 2 := ⟨⟨_, _, Tryz.underlying65, rfl, rfl, rfl⟩, by kernel_rfl⟩
instance : FieldAt Tryz.prog 65 1 2 56 2 := ⟨⟨_, _, Tryz.underlying65, rfl, rfl, rfl⟩, by kernel_rfl⟩
instance : ElemTy Tryz.prog 65 4 32 [.int .i64 0, .int .i64 0, .int .i64 0, .int .i64 0] := ⟨by kernel_rfl, rfl⟩
instance : ScalarTy Tryz.prog 98 := ⟨⟨_, Tryz.underlying98, (by intro _ h; cases h), (by intro _ _ h; cases h)⟩, by kernel_rfl⟩
instance : ScalarTy Tryz.prog 104 := ⟨⟨_, Tryz.underlying104, (by intro _ h; cases h), (by intro _ _ h; cases h)⟩, by kernel_rfl⟩
instance : IntTy Tryz.prog 104 .u32 := ⟨Tryz.underlying104⟩
instance : ElemTy Tryz.prog 104 1 4 [.int .u32 0] := ⟨by kernel_rfl, rfl⟩
instance : ScalarTy Tryz.prog 125 := ⟨⟨_, Tryz.underlying125, (by intro _ h; cases h), (by intro _ _ h; cases h)⟩, by kernel_rfl⟩
instance : ElemTy Tryz.prog 125 1 8 [.nilFunc] := ⟨by kernel_rfl, rfl⟩
instance : AggTy Tryz.prog 128 18 := ⟨.inr ⟨_, _, Tryz.underlying128⟩, by kernel_rfl⟩
instance : ArrTy Tryz.prog 128 9 48 2 := ⟨Tryz.underlying128, by kernel_rfl⟩
instance : ElemTy Tryz.prog 128 18 288 [.bool false, .slice none 0 0, .bool false, .slice none 0 0, .bool false, .slice none 0 0, .bool false, .slice none 0 0, .bool false, .slice none 0 0, .bool false, .slice none 0 0, .bool false, .slice none 0 0, .bool false, .slice none 0 0, .bool false, .slice none 0 0] := ⟨by kernel_rfl, rfl⟩
instance : AggTy Tryz.prog 131 16 := ⟨.inr ⟨_, _, Tryz.underlying131⟩, by kernel_rfl⟩
instance : ArrTy Tryz.prog 131 4 65 4 := ⟨Tryz.underlying131, by kernel_rfl⟩
instance : SliceTy Tryz.prog 133 48 2 := ⟨Tryz.underlying133, by kernel_rfl⟩
instance : AggTy Tryz.prog 166 6 := ⟨.inr ⟨_, _, Tryz.underlying166⟩, by kernel_rfl⟩
instance : ArrTy Tryz.prog 166 3 48 2 := ⟨Tryz.underlying166, by kernel_rfl⟩
instance : ElemTy Tryz.prog 166 6 96 [.bool false, .slice none 0 0, .bool false, .slice none 0 0, .bool false, .slice none 0 0] := ⟨by kernel_rfl, rfl⟩
instance : AggTy Tryz.prog 167 24 := ⟨.inr ⟨_, _, Tryz.underlying167⟩, by kernel_rfl⟩
instance : ArrTy Tryz.prog 167 4 166 6 := ⟨Tryz.underlying167, by kernel_rfl⟩
instance : ElemTy Tryz.prog 167 24 384 [.bool false, .slice none 0 0, .bool false, .slice none 0 0, .bool false, .slice none 0 0, .bool false, .slice none 0 0, .bool false, .slice none 0 0, .bool false, .slice none 0 0, .bool false, .slice none 0 0, .bool false, .slice none 0 0, .bool false, .slice none 0 0, .bool false, .slice none 0 0, .bool false, .slice none 0 0, .bool false, .slice none 0 0] := ⟨by kernel_rfl, rfl⟩
instance : IntTy Tryz.prog 179 .u64 := ⟨Tryz.underlying179⟩
instance : ScalarTy Tryz.prog 183 := ⟨⟨_, Tryz.underlying183, (by intro _ h; cases h), (by intro _ _ h; cases h)⟩, by kernel_rfl⟩
instance : IntTy Tryz.prog 183 .u64 := ⟨Tryz.underlying183⟩
instance : ArrTy Tryz.prog 198 3 50 4 := ⟨Tryz.underlying198, by kernel_rfl⟩
instance : ElemTy Tryz.prog 198 12 192 [.bool false, .slice none 0 0, .bool false, .slice none 0 0, .bool false, .slice none 0 0, .bool false, .slice none 0 0, .bool false, .slice none 0 0, .bool false, .slice none 0 0] := ⟨by kernel_rfl, rfl⟩
instance : AggTy Tryz.prog 200 8 := ⟨.inr ⟨_, _, Tryz.underlying200⟩, by kernel_rfl⟩
instance : ArrTy Tryz.prog 200 4 48 2 := ⟨Tryz.underlying200, by kernel_rfl⟩
instance : ElemTy Tryz.prog 200 8 128 [.bool false, .slice none 0 0, .bool false, .slice none 0 0, .bool false, .slice none 0 0, .bool false, .slice none 0 0] := ⟨by kernel_rfl, rfl⟩
instance : ArrTy Tryz.prog 201 3 166 6 := ⟨Tryz.underlying201, by kernel_rfl⟩
instance : ElemTy Tryz.prog 201 18 288 [.bool false, .slice none 0 0, .bool false, .slice none 0 0, .bool false, .slice none 0 0, .bool false, .slice none 0 0, .bool false, .slice none 0 0, .bool false, .slice none 0 0, .bool false, .slice none 0 0, .bool false, .slice none 0 0, .bool false, .slice none 0 0] := ⟨by kernel_rfl, rfl⟩
instance : FnOk Tryz.prog 5 := ⟨_, Tryz.func5, by kernel_rfl, by kernel_rfl⟩
instance : FnOk Tryz.prog 10 := ⟨_, Tryz.func10, by kernel_rfl, by kernel_rfl⟩
instance : FnOk Tryz.prog 11 := ⟨_, Tryz.func11, by kernel_rfl, by kernel_rfl⟩
instance : FnOk Tryz.prog 13 := ⟨_, Tryz.func13, by kernel_rfl, by kernel_rfl⟩
instance : FnOk Tryz.prog 14 := ⟨_, Tryz.func14, by kernel_rfl, by kernel_rfl⟩
instance : FnOk Tryz.prog 17 := ⟨_, Tryz.func17, by kernel_rfl, by kernel_rfl⟩
instance : FnOk Tryz.prog 19 := ⟨_, Tryz.func19, by kernel_rfl, by kernel_rfl⟩
instance : FnOk Tryz.prog 22 := ⟨_, Tryz.func22, by kernel_rfl, by kernel_rfl⟩
instance : FnOk Tryz.prog 34 := ⟨_, Tryz.func34, by kernel_rfl, by kernel_rfl⟩
instance : FnOk Tryz.prog 37 := ⟨_, Tryz.func37, by kernel_rfl, by kernel_rfl⟩
instance : FnOk Tryz.prog 46 := ⟨_, Tryz.func46, by kernel_rfl, by kernel_rfl⟩
instance : FnOk Tryz.prog 47 := ⟨_, Tryz.func47, by kernel_rfl, by kernel_rfl⟩
instance : FnOk Tryz.prog 48 := ⟨_, Tryz.func48, by kernel_rfl, by kernel_rfl⟩
instance : FnOk Tryz.prog 49 := ⟨_, Tryz.func49, by kernel_rfl, by kernel_rfl⟩
instance : FnOk Tryz.prog 50 := ⟨_, Tryz.func50, by kernel_rfl, by kernel_rfl⟩
instance : FnOk Tryz.prog 51 := ⟨_, Tryz.func51, by kernel_rfl, by kernel_rfl⟩
instance : FnOk Tryz.prog 52 := ⟨_, Tryz.func52, by kernel_rfl, by kernel_rfl⟩
instance : FnOk Tryz.prog 53 := ⟨_, Tryz.func53, by kernel_rfl, by kernel_rfl⟩
instance : FnOk Tryz.prog 62 := ⟨_, Tryz.func62, by kernel_rfl, by kernel_rfl⟩
instance : FnOk Tryz.prog 63 := ⟨_, Tryz.func63, by kernel_rfl, by kernel_rfl⟩
instance : FnOk Tryz.prog 64 := ⟨_, Tryz.func64, by kernel_rfl, by kernel_rfl⟩
instance : FnOk Tryz.prog 65 := ⟨_, Tryz.func65, by kernel_rfl, by kernel_rfl⟩
instance : FnOk Tryz.prog 70 := ⟨_, Tryz.func70, by kernel_rfl, by kernel_rfl⟩
instance : FnOk Tryz.prog 72 := ⟨_, Tryz.func72, by kernel_rfl, by kernel_rfl⟩
instance : FnOk Tryz.prog 73 := ⟨_, Tryz.func73, by kernel_rfl, by kernel_rfl⟩
instance : FnOk Tryz.prog 78 := ⟨_, Tryz.func78, by kernel_rfl, by kernel_rfl⟩
instance : FnOk Tryz.prog 79 := ⟨_, Tryz.func79, by kernel_rfl, by kernel_rfl⟩
instance : FnOk Tryz.prog 84 := ⟨_, Tryz.func84, by kernel_rfl, by kernel_rfl⟩
instance : FnOk Tryz.prog 85 := ⟨_, Tryz.func85, by kernel_rfl, by kernel_rfl⟩
instance : FnOk Tryz.prog 86 := ⟨_, Tryz.func86, by kernel_rfl, by kernel_rfl⟩
instance : FnOk Tryz.prog 87 := ⟨_, Tryz.func87, by kernel_rfl, by kernel_rfl⟩
instance : FnOk Tryz.prog 88 := ⟨_, Tryz.func88, by kernel_rfl, by kernel_rfl⟩
instance : FnOk Tryz.prog 89 := ⟨_, Tryz.func89, by kernel_rfl, by kernel_rfl⟩
instance : FnOk Tryz.prog 90 := ⟨_, Tryz.func90, by kernel_rfl, by kernel_rfl⟩
instance : FnOk Tryz.prog 91 := ⟨_, Tryz.func91, by kernel_rfl, by kernel_rfl⟩
instance : FnOk Tryz.prog 104 := ⟨_, Tryz.func104, by kernel_rfl, by kernel_rfl⟩
instance : FnOk Tryz.prog 106 := ⟨_, Tryz.func106, by kernel_rfl, by kernel_rfl⟩
instance : FnOk Tryz.prog 107 := ⟨_, Tryz.func107, by kernel_rfl, by kernel_rfl⟩
instance : FnOk Tryz.prog 108 := ⟨_, Tryz.func108, by kernel_rfl, by kernel_rfl⟩
instance : FnOk Tryz.prog 114 := ⟨_, Tryz.func114, by kernel_rfl, by kernel_rfl⟩
instance : FnOk Tryz.prog 115 := ⟨_, Tryz.func115, by kernel_rfl, by kernel_rfl⟩
instance : FnOk Tryz.prog 116 := ⟨_, Tryz.func116, by kernel_rfl, by kernel_rfl⟩
instance : FnOk Tryz.prog 117 := ⟨_, Tryz.func117, by kernel_rfl, by kernel_rfl⟩
instance : FnOk Tryz.prog 118 := ⟨_, Tryz.func118, by kernel_rfl, by kernel_rfl⟩
instance : FnOk Tryz.prog 119 := ⟨_, Tryz.func119, by kernel_rfl, by kernel_rfl⟩
instance : FnOk Tryz.prog 120 := ⟨_, Tryz.func120, by kernel_rfl, by kernel_rfl⟩
instance : FnOk Tryz.prog 127 := ⟨_, Tryz.func127, by kernel_rfl, by kernel_rfl⟩
instance : FnOk Tryz.prog 131 := ⟨_, Tryz.func131, by kernel_rfl, by kernel_rfl⟩
instance : FnOk Tryz.prog 132 := ⟨_, Tryz.func132, by kernel_rfl, by kernel_rfl⟩
instance : FnOk Tryz.prog 133 := ⟨_, Tryz.func133, by kernel_rfl, by kernel_rfl⟩
instance : FnOk Tryz.prog 134 := ⟨_, Tryz.func134, by kernel_rfl, by kernel_rfl⟩
instance : FnOk Tryz.prog 135 := ⟨_, Tryz.func135, by kernel_rfl, by kernel_rfl⟩
instance : FnOk Tryz.prog 136 := ⟨_, Tryz.func136, by kernel_rfl, by kernel_rfl⟩
instance : FnOk Tryz.prog 137 := ⟨_, Tryz.func137, by kernel_rfl, by kernel_rfl⟩
instance : FnOk Tryz.prog 138 := ⟨_, Tryz.func138, by kernel_rfl, by kernel_rfl⟩
instance : FnOk Tryz.prog 139 := ⟨_, Tryz.func139, by kernel_rfl, by kernel_rfl⟩
instance : FnOk Tryz.prog 140 := ⟨_, Tryz.func140, by kernel_rfl, by kernel_rfl⟩
instance : FnOk Tryz.prog 141 := ⟨_, Tryz.func141, by kernel_rfl, by kernel_rfl⟩
instance : FnOk Tryz.prog 142 := ⟨_, Tryz.func142, by kernel_rfl, by kernel_rfl⟩
instance : FnOk Tryz.prog 143 := ⟨_, Tryz.func143, by kernel_rfl, by kernel_rfl⟩
instance : FnOk Tryz.prog 144 := ⟨_, Tryz.func144, by kernel_rfl, by kernel_rfl⟩
instance : FnOk Tryz.prog 145 := ⟨_, Tryz.func145, by kernel_rfl, by kernel_rfl⟩
instance : FnOk Tryz.prog 146 := ⟨_, Tryz.func146, by kernel_rfl, by kernel_rfl⟩
instance : FnOk Tryz.prog 147 := ⟨_, Tryz.func147, by kernel_rfl, by kernel_rfl⟩
instance : FnOk Tryz.prog 148 := ⟨_, Tryz.func148, by kernel_rfl, by kernel_rfl⟩
instance : FnOk Tryz.prog 149 := ⟨_, Tryz.func149, by kernel_rfl, by kernel_rfl⟩
instance : FnOk Tryz.prog 153 := ⟨_, Tryz.func153, by kernel_rfl, by kernel_rfl⟩
instance : FnOk Tryz.prog 154 := ⟨_, Tryz.func154, by kernel_rfl, by kernel_rfl⟩
instance : FnOk Tryz.prog 155 := ⟨_, Tryz.func155, by kernel_rfl, by kernel_rfl⟩
instance : FnOk Tryz.prog 161 := ⟨_, Tryz.func161, by kernel_rfl, by kernel_rfl⟩
instance : FnOk Tryz.prog 162 := ⟨_, Tryz.func162, by kernel_rfl, by kernel_rfl⟩
instance : FnOk Tryz.prog 163 := ⟨_, Tryz.func163, by kernel_rfl, by kernel_rfl⟩
instance : FnOk Tryz.prog 164 := ⟨_, Tryz.func164, by kernel_rfl, by kernel_rfl⟩
instance : FnOk Tryz.prog 165 := ⟨_, Tryz.func165, by kernel_rfl, by kernel_rfl⟩
instance : FnOk Tryz.prog 166 := ⟨_, Tryz.func166, by kernel_rfl, by kernel_rfl⟩
instance : FnOk Tryz.prog 167 := ⟨_, Tryz.func167, by kernel_rfl, by kernel_rfl⟩
instance : FnOk Tryz.prog 173 := ⟨_, Tryz.func173, by kernel_rfl, by kernel_rfl⟩
instance : FnOk Tryz.prog 174 := ⟨_, Tryz.func174, by kernel_rfl, by kernel_rfl⟩
instance : FnOk Tryz.prog 175 := ⟨_, Tryz.func175, by kernel_rfl, by kernel_rfl⟩
instance : FnOk Tryz.prog 176 := ⟨_, Tryz.func176, by kernel_rfl, by kernel_rfl⟩
instance : FnOk Tryz.prog 177 := ⟨_, Tryz.func177, by kernel_rfl, by kernel_rfl⟩
instance : FnOk Tryz.prog 178 := ⟨_, Tryz.func178, by kernel_rfl, by kernel_rfl⟩
instance : FnOk Tryz.prog 179 := ⟨_, Tryz.func179, by kernel_rfl, by kernel_rfl⟩
instance : FnOk Tryz.prog 180 := ⟨_, Tryz.func180, by kernel_rfl, by kernel_rfl⟩
instance : FnOk Tryz.prog 181 := ⟨_, Tryz.func181, by kernel_rfl, by kernel_rfl⟩
instance : FnOk Tryz.prog 182 := ⟨_, Tryz.func182, by kernel_rfl, by kernel_rfl⟩
instance : FnOk Tryz.prog 183 := ⟨_, Tryz.func183, by kernel_rfl, by kernel_rfl⟩
instance : FnOk Tryz.prog 184 := ⟨_, Tryz.func184, by kernel_rfl, by kernel_rfl⟩
instance : FnOk Tryz.prog 185 := ⟨_, Tryz.func185, by kernel_rfl, by kernel_rfl⟩
instance : FnOk Tryz.prog 186 := ⟨_, Tryz.func186, by kernel_rfl, by kernel_rfl⟩
instance : FnOk Tryz.prog 187 := ⟨_, Tryz.func187, by kernel_rfl, by kernel_rfl⟩
instance : FnOk Tryz.prog 188 := ⟨_, Tryz.func188, by kernel_rfl, by kernel_rfl⟩
instance : FnOk Tryz.prog 189 := ⟨_, Tryz.func189, by kernel_rfl, by kernel_rfl⟩
instance : FnOk Tryz.prog 190 := ⟨_, Tryz.func190, by kernel_rfl, by kernel_rfl⟩
instance : FnOk Tryz.prog 191 := ⟨_, Tryz.func191, by kernel_rfl, by kernel_rfl⟩
instance : FnOk Tryz.prog 192 := ⟨_, Tryz.func192, by kernel_rfl, by kernel_rfl⟩
instance : FnOk Tryz.prog 193 := ⟨_, Tryz.func193, by kernel_rfl, by kernel_rfl⟩
instance : FnOk Tryz.prog 194 := ⟨_, Tryz.func194, by kernel_rfl, by kernel_rfl⟩
instance : FnOk Tryz.prog 195 := ⟨_, Tryz.func195, by kernel_rfl, by kernel_rfl⟩
instance : FnOk Tryz.prog 196 := ⟨_, Tryz.func196, by kernel_rfl, by kernel_rfl⟩
instance : FnOk Tryz.prog 197 := ⟨_, Tryz.func197, by kernel_rfl, by kernel_rfl⟩
instance : FnOk Tryz.prog 198 := ⟨_, Tryz.func198, by kernel_rfl, by kernel_rfl⟩
instance : FnOk Tryz.prog 199 := ⟨_, Tryz.func199, by kernel_rfl, by kernel_rfl⟩
instance : FnOk Tryz.prog 200 := ⟨_, Tryz.func200, by kernel_rfl, by kernel_rfl⟩
instance : FnOk Tryz.prog 201 := ⟨_, Tryz.func201, by kernel_rfl, by kernel_rfl⟩
instance : FnOk Tryz.prog 204 := ⟨_, Tryz.func204, by kernel_rfl, by kernel_rfl⟩
instance : FnOk Tryz.prog 210 := ⟨_, Tryz.func210, by kernel_rfl, by kernel_rfl⟩
instance : FnOk Tryz.prog 214 := ⟨_, Tryz.func214, by kernel_rfl, by kernel_rfl⟩
instance : FnOk Tryz.prog 219 := ⟨_, Tryz.func219, by kernel_rfl, by kernel_rfl⟩
instance : FnOk Tryz.prog 220 := ⟨_, Tryz.func220, by kernel_rfl, by kernel_rfl⟩
instance : FnOk Tryz.prog 221 := ⟨_, Tryz.func221, by kernel_rfl, by kernel_rfl⟩
instance : FnOk Tryz.prog 222 := ⟨_, Tryz.func222, by kernel_rfl, by kernel_rfl⟩
instance : FnOk Tryz.prog 223 := ⟨_, Tryz.func223, by kernel_rfl, by kernel_rfl⟩
instance : FnOk Tryz.prog 224 := ⟨_, Tryz.func224, by kernel_rfl, by kernel_rfl⟩
instance : FnOk Tryz.prog 225 := ⟨_, Tryz.func225, by kernel_rfl, by kernel_rfl⟩
instance : FnOk Tryz.prog 226 := ⟨_, Tryz.func226, by kernel_rfl, by kernel_rfl⟩
instance : FnOk Tryz.prog 227 := ⟨_, Tryz.func227, by kernel_rfl, by kernel_rfl⟩
instance : FnOk Tryz.prog 228 := ⟨_, Tryz.func228, by kernel_rfl, by kernel_rfl⟩
instance : FnOk Tryz.prog 229 := ⟨_, Tryz.func229, by kernel_rfl, by kernel_rfl⟩
instance : FnOk Tryz.prog 230 := ⟨_, Tryz.func230, by kernel_rfl, by kernel_rfl⟩
instance : FnOk Tryz.prog 231 := ⟨_, Tryz.func231, by kernel_rfl, by kernel_rfl⟩
instance : FnOk Tryz.prog 232 := ⟨_, Tryz.func232, by kernel_rfl, by kernel_rfl⟩
instance : FnOk Tryz.prog 233 := ⟨_, Tryz.func233, by kernel_rfl, by kernel_rfl⟩
instance : FnOk Tryz.prog 234 := ⟨_, Tryz.func234, by kernel_rfl, by kernel_rfl⟩
instance : FnOk Tryz.prog 235 := ⟨_, Tryz.func235, by kernel_rfl, by kernel_rfl⟩
instance : FnOk Tryz.prog 236 := ⟨_, Tryz.func236, by kernel_rfl, by kernel_rfl⟩
instance : FnOk Tryz.prog 237 := ⟨_, Tryz.func237, by kernel_rfl, by kernel_rfl⟩
instance : FnOk Tryz.prog 238 := ⟨_, Tryz.func238, by kernel_rfl, by kernel_rfl⟩
instance : FnOk Tryz.prog 245 := ⟨_, Tryz.func245, by kernel_rfl, by kernel_rfl⟩
instance : FnOk Tryz.prog 246 := ⟨_, Tryz.func246, by kernel_rfl, by kernel_rfl⟩
instance : FnOk Tryz.prog 247 := ⟨_, Tryz.func247, by kernel_rfl, by kernel_rfl⟩
instance : FnOk Tryz.prog 248 := ⟨_, Tryz.func248, by kernel_rfl, by kernel_rfl⟩
instance : FnOk Tryz.prog 249 := ⟨_, Tryz.func249, by kernel_rfl, by kernel_rfl⟩
instance : FnOk Tryz.prog 250 := ⟨_, Tryz.func250, by kernel_rfl, by kernel_rfl⟩
instance : FnOk Tryz.prog 251 := ⟨_, Tryz.func251, by kernel_rfl, by kernel_rfl⟩
instance : FnOk Tryz.prog 252 := ⟨_, Tryz.func252, by kernel_rfl, by kernel_rfl⟩
instance : FnOk Tryz.prog 253 := ⟨_, Tryz.func253, by kernel_rfl, by kernel_rfl⟩
instance : FnOk Tryz.prog 254 := ⟨_, Tryz.func254, by kernel_rfl, by kernel_rfl⟩
instance : FnOk Tryz.prog 256 := ⟨_, Tryz.func256, by kernel_rfl, by kernel_rfl⟩
theorem mixed : Tryz.prog.follows .mixedOrders = true := by kernel_rfl
end Go.Proofs.YtjbhdfpjnjedhaaGreat
namespace Go.Fx
structure BoxP (g : Prop) : Prop where
 out : g
section
variable {P : Program} {n : Nat} {Q : Exit → Act → World → Prop} {G : Env} {X : List Nat} {w0 : World} {M : List Ent} {I : List aT} {ops l : List Oper} {m : Mode} {c : Code} {e : Exit}
structure Br (b : Bool) (p q : Prop) : Prop where
 y : b = true → p
 n : b = false → q
theorem Br.dec {p : Prop} [Decidable p] : Br (B p) p (¬ p) := ⟨fun h => Decidable.byContradiction (fun hn => by rw [dP hn] at h; cases h), fun h hp => by rw [bV hp] at h; cases h⟩
theorem Br.raw {b : Bool} : Br b (b = true) (b = false) := ⟨id, id⟩
theorem Br.lit : Br true True False := ⟨fun _ => True.intro, fun h => by cases h⟩
theorem Br.lit2 : Br false False True := ⟨fun h => (by cases h), fun _ => True.intro⟩
theorem bR {c : Operand} {x y : Code} {b : Bool} {p q : Prop} (hc : ev G c = some (.bool b)) (h1 : p → TD P n x Q G X w0 M I) (h2 : q → TD P n y Q G X w0 M I) (hb : Br b p q := by first | exact Br.dec | exact Br.raw | fail) : TD P n (.cond c x y) Q G X w0 M I :=
 nQ hc (fun e => h1 (hb.y e)) (fun e => h2 (hb.n e))
theorem bQ {op : Op} {ty : TypeId} {pos : String} {af : Array Edge} {d : Option Nat} {b : Bool} {p q : Prop} {g : Nat × Bool} {t : Nat} (hj : pJ ops g.1 = some t) (hv : lk G t = some (.bool b))
  (h1 : p → RD P n ops Q m (⟨d, op, ty, pos, af, some g⟩ :: l) ((t, .bool true) :: G) X w0 M I) (h2 : q → RD P n ops Q m (⟨d, op, ty, pos, af, some g⟩ :: l) ((t, .bool false) :: G) X w0 M I) (hb : Br b p q := by first | exact Br.dec | ((fail_if_success exact Br.lit); (fail_if_success exact Br.lit2); exact Br.raw) | fail) :
  RD P n ops Q m (⟨d, op, ty, pos, af, some g⟩ :: l) G X w0 M I := nR hj hv (fun e => h1 (hb.y e)) (fun e => h2 (hb.n e))
end
end Go.Fx
namespace Go.Fx
theorem mO {p g : Prop} (h : g) (w : BoxP g → p := by (intro hh; (first | refine aH ?_ | refine aI ?_ | refine jA ?_ | refine gV ?_ | refine fC ?_ | refine eQ ?_ | refine gT ?_ | refine gK ?_ | refine eY ?_ | refine fA ?_ | refine jF ?_ | refine jB ?_ | refine iZ ?_ | refine jC rfl ?_ | refine aN ?_ | (refine gI ?_; first | refine fM rfl rfl rfl ?_ | (refine fZ rfl rfl ?_; refine eF rfl rfl rfl pE ?_) | refine fK rfl rfl (by omega) ?_ | refine fU rfl rfl (by omega) ?_) | (refine bI ?_; refine aC rfl (fun _ => bY rfl) rfl rfl ?_) | refine aC rfl (fun _ => aY rfl) rfl rfl ?_ | (refine gB ?_; first | refine aC rfl (fun _ => bC rfl rfl w_) rfl rfl ?_ | refine aC rfl (fun _ => bE rfl rfl w_) rfl rfl ?_ | refine aC rfl (fun _ => dH rfl rfl w_) rfl rfl ?_ | refine aC rfl (fun _ => dI rfl rfl (by omega) q_) rfl rfl ?_ | refine aC rfl (fun _ => dJ rfl rfl (by omega) rfl) rfl rfl ?_ | refine aC rfl (fun _ => bW rfl rfl) rfl rfl ?_ | refine aC rfl (fun _ => dC rfl rfl) rfl rfl ?_ | refine aC rfl (fun _ => dA rfl rfl) rfl rfl ?_) | (refine bI ?_; first | refine aC rfl (fun _ => dE rfl w_) rfl rfl ?_) | (refine fV ?_; first | refine aC rfl (fun _ => bT rfl w_) rfl rfl ?_) | (refine fQ ?_; first | refine aC rfl (fun _ => bD rfl) rfl rfl ?_ | refine aC rfl (fun _ => bZ rfl rfl) rfl rfl ?_ | refine aC rfl (fun _ => bX rfl rfl) rfl rfl ?_ | refine aC rfl (fun _ => cB rfl rfl rfl) rfl rfl ?_) | (refine gF ?_; first | refine fJ rfl (by decide) rfl rfl ?_ | refine iO rfl (by decide) rfl rfl ?_) | (refine fO ?_; first | refine aC rfl (fun _ => bP rfl) rfl rfl ?_) | (refine gG ?_; first | refine iM rfl rfl iA rfl rfl ?_ | refine iP sS rfl rfl iA aP iU rfl rfl ?_ | refine iL sS rfl rfl iA aP iU rfl rfl ?_ | refine aC rfl (fun _ => bG rfl rfl iA) rfl rfl ?_) | (refine fT ?_; first | refine iR sS rfl aP oP rfl rfl ?_ | refine iK sS rfl aP oP rfl rfl ?_ | refine fH sS rfl aP oP rfl rfl ?_ | refine gH sS rfl aP oP rfl rfl ?_ | refine kW sS rfl aP iT fB rfl rfl ?_ | refine lG sS rfl aP iT fB rfl rfl ?_ | refine lI sS rfl aP iT fB rfl rfl ?_ | refine jT sS rfl aP iT fB rfl rfl ?_) | (refine fP ?_; first | refine aC rfl (fun _ => bH rfl rfl) rfl rfl ?_ | refine aC rfl (fun _ => bA rfl) rfl rfl ?_) | (refine iC ?_; first | refine jR rfl rfl rfl nJ stC rfl rfl ⟨pE, ?_⟩ | refine fD rfl rfl fB qV nJ qQ rfl rfl ⟨pE, ?_⟩) | (refine gU ?_; first | refine bM rfl ?_ | refine bB rfl ?_ | refine jE rfl (by omega) ?_ | refine lH rfl (by omega) ?_)); (repeat (first | refine aH ?_ | refine aI ?_ | refine jA ?_ | refine gV ?_ | refine fC ?_ | refine eQ ?_ | refine gT ?_ | refine gK ?_ | refine eY ?_ | refine fA ?_ | refine jF ?_ | refine jB ?_ | refine iZ ?_ | refine jC rfl ?_ | refine aN ?_ | (refine gI ?_; first | refine fM rfl rfl rfl ?_ | (refine fZ rfl rfl ?_; refine eF rfl rfl rfl pE ?_) | refine fK rfl rfl (by omega) ?_ | refine fU rfl rfl (by omega) ?_) | (refine bI ?_; refine aC rfl (fun _ => bY rfl) rfl rfl ?_) | refine aC rfl (fun _ => aY rfl) rfl rfl ?_ | (refine gB ?_; first | refine aC rfl (fun _ => bC rfl rfl w_) rfl rfl ?_ | refine aC rfl (fun _ => bE rfl rfl w_) rfl rfl ?_ | refine aC rfl (fun _ => dH rfl rfl w_) rfl rfl ?_ | refine aC rfl (fun _ => dI rfl rfl (by omega) q_) rfl rfl ?_ | refine aC rfl (fun _ => dJ rfl rfl (by omega) rfl) rfl rfl ?_ | refine aC rfl (fun _ => bW rfl rfl) rfl rfl ?_ | refine aC rfl (fun _ => dC rfl rfl) rfl rfl ?_ | refine aC rfl (fun _ => dA rfl rfl) rfl rfl ?_) | (refine bI ?_; first | refine aC rfl (fun _ => dE rfl w_) rfl rfl ?_) | (refine fV ?_; first | refine aC rfl (fun _ => bT rfl w_) rfl rfl ?_) | (refine fQ ?_; first | refine aC rfl (fun _ => bD rfl) rfl rfl ?_ | refine aC rfl (fun _ => bZ rfl rfl) rfl rfl ?_ | refine aC rfl (fun _ => bX rfl rfl) rfl rfl ?_ | refine aC rfl (fun _ => cB rfl rfl rfl) rfl rfl ?_) | (refine gF ?_; first | refine fJ rfl (by decide) rfl rfl ?_ | refine iO rfl (by decide) rfl rfl ?_) | (refine fO ?_; first | refine aC rfl (fun _ => bP rfl) rfl rfl ?_) | (refine gG ?_; first | refine iM rfl rfl iA rfl rfl ?_ | refine iP sS rfl rfl iA aP iU rfl rfl ?_ | refine iL sS rfl rfl iA aP iU rfl rfl ?_ | refine aC rfl (fun _ => bG rfl rfl iA) rfl rfl ?_) | (refine fT ?_; first | refine iR sS rfl aP oP rfl rfl ?_ | refine iK sS rfl aP oP rfl rfl ?_ | refine fH sS rfl aP oP rfl rfl ?_ | refine gH sS rfl aP oP rfl rfl ?_ | refine kW sS rfl aP iT fB rfl rfl ?_ | refine lG sS rfl aP iT fB rfl rfl ?_ | refine lI sS rfl aP iT fB rfl rfl ?_ | refine jT sS rfl aP iT fB rfl rfl ?_) | (refine fP ?_; first | refine aC rfl (fun _ => bH rfl rfl) rfl rfl ?_ | refine aC rfl (fun _ => bA rfl) rfl rfl ?_) | (refine iC ?_; first | refine jR rfl rfl rfl nJ stC rfl rfl ⟨pE, ?_⟩ | refine fD rfl rfl fB qV nJ qQ rfl rfl ⟨pE, ?_⟩) | (refine gU ?_; first | refine bM rfl ?_ | refine bB rfl ?_ | refine jE rfl (by omega) ?_ | refine lH rfl (by omega) ?_))); exact hh.out)) : p := w ⟨h⟩
end Go.Fx
namespace Go.Proofs.YtjbhdfpjnjedhaaGreat
open Go Go.Fx
abbrev eG : Int → List Value := eI .u32
theorem gtD (l : List Int) (i : Nat) : gt l (i : Int) = l.getD i 0 := aFU l i
theorem aTA {l : List Int} {i : Int} (h : (l.length : Int) ≤ i) : gt l i = 0 := by
 unfold gt
 simp [List.getD, show l.length ≤ i.toNat by omega]
theorem vP (l : List Int) (i : Nat) (x : Int) : st l (i : Int) x = l.set i x := rfl
theorem Dig.gt {l : List Int} (h : Dig l) (i : Int) : 0 ≤ gt l i ∧ gt l i < 1000000000 := h.getD i.toNat
section
variable {X : List Nat} {w0 : World} {M0 : List Ent} {I0 : List aT}
theorem aLP {q : Option Addr} {l : List Int} {n c : Nat} {i : Int} (hn : n = l.length) (hi : 0 ≤ i) (hl : aR q (recs eG l) ∈ I0) :
  CD Tryz.prog 251 [.slice q n c, .int .i64 i] X w0 M0 I0 (fun v M I => M0 = M ∧ I0 = I ∧ v = .int .u32 (gt l i)) := by
 subst hn
 refine dW Tryz.func251 rfl Tryz.ntmps251 rfl ?_
 repeat' (first | refine mO ?_ | refine bR rfl (fun h => ?_) (fun h => ?_) | refine bQ rfl rfl (fun h => ?_) (fun h => ?_) | fail)
 ·refine aM (by first | exact .inl rfl | exact .inr rfl) rfl rfl _ _ cO cK (⟨rfl, rfl, rfl⟩)
 ·refine aM (by first | exact .inl rfl | exact .inr rfl) rfl rfl _ _ cO cK (⟨rfl, rfl, by rw [aTA (by omega)]⟩)
theorem qW {q : Option Addr} {l : List Int} {n c : Nat} (hn : n = l.length) (h63 : n ≤ 1000000000000) (hc : l.length ≤ c) (hl : aR q (recs eG l) ∈ I0) :
  CD Tryz.prog 238 [.slice q n c] X w0 M0 I0 (fun v M I => M0 = M ∧ I = aR q (recs eG (iD l)) :: I0 ∧ v = .slice q (iD l).length c) := by
 subst hn
 refine dW Tryz.func238 rfl Tryz.ntmps238 rfl ?_
 refine aTE (φ := 0 < l.length → Ok q) (fun w hw h => (hw.sl hl).ok (by rw [iE]; omega)) (fun hq => ?_)
 repeat (refine mO ?_)
 refine aZ [] rfl (fun k G M I => ∃ m : Nat, m ≤ l.length ∧ k = m ∧ iD (l.take m) = iD l ∧ G = [(0, .slice q m c)] ∧ M0 = M ∧ I0 = I) (l.length) _ _ _ aL cO cK (⟨l.length, by omega, rfl, by rw [List.take_length], rfl, rfl, rfl⟩) ?_
 rintro k G M I ⟨m, hm, rfl, ht, rfl, rfl, rfl⟩
 repeat' (first | refine mO ?_ | refine bR rfl (fun h => ?_) (fun h => ?_) | refine bQ rfl rfl (fun h => ?_) (fun h => ?_) | fail)
 ·obtain ⟨b, o, rfl⟩ := (hq (by omega)).cases
  refine aC rfl (fun _ => sU (k - 1) rfl rfl (by omega) (by omega)) rfl rfl ?_
  repeat (refine mO ?_)
  have h1 := h
  refine aK (k - 1) _ _ _ (by first | omega | (simp only [List.length_append, List.length_cons, List.length_nil]; omega)) aL cO cK (⟨k - 1, by omega, rfl, ?_, rfl, rfl, rfl⟩)
  rw [← ht]
  obtain ⟨j, rfl⟩ : ∃ j, k = j + 1 := ⟨k - 1, by omega⟩
  have hj : j < l.length := by omega
  have e0 : gt l (j : Int) = 0 := by
   have e : ((j + 1 : Nat) : Int) - 1 = j := by omega
   rw [e] at h1
   exact h1
  rw [jD hj] at e0
  rw [List.take_succ_eq_append_getElem hj, e0, aBS]
  rfl
 ·have h1 := h
  have htop : Top (l.take k) := by
   obtain ⟨j, rfl⟩ : ∃ j, k = j + 1 := ⟨k - 1, by omega⟩
   have hj : j < l.length := by omega
   rw [List.take_succ_eq_append_getElem hj, Top.snoc, ← jD hj]
   have e : ((j + 1 : Nat) : Int) - 1 = j := by omega
   rw [e] at h1
   exact h1
  have e1 : iD l = l.take k := by rw [← ht, aGG htop]
  refine xP (fun w hw => hw.takeI (cs := recs eG (iD l)) (tl := recs eG (l.drop k)) (by rw [e1, ← oV, List.take_append_drop]; exact hl)) ?_
  refine aM (by first | exact .inl rfl | exact .inr rfl) rfl rfl _ _ cO cK (⟨rfl, rfl, by rw [e1]; simp; omega⟩)
 ·have h0 : k = 0 := by omega
  subst h0
  have e1 : iD l = [] := by rw [← ht]; rfl
  rw [e1]
  refine aEX q ?_
  refine aM (by first | exact .inl rfl | exact .inr rfl) rfl rfl _ _ cO cK (⟨rfl, rfl, rfl⟩)
def GrP (n : Nat) (M0 : List Ent) (I0 : List aT) (v : Value) (M : List Ent) (I : List aT) : Prop := M0 = M ∧ ∃ q c, v = .slice q (gr n).length c ∧ ((gr n).length ≤ c ∧ (Ok q ∨ ((gr n).length = 0 ∧ c = 0))) ∧ I = aR q (recs eG (gr n)) :: I0
theorem aMH {p q : Option Addr} {m n cp cq : Nat} (hm : (gr m).length ≤ 100000000000) (hn : (gr n).length ≤ 100000000000) (hp : aR p (recs eG (gr m)) ∈ I0) (hq : aR q (recs eG (gr n)) ∈ I0) :
  CD Tryz.prog 229 [.slice p (gr m).length cp, .slice q (gr n).length cq] X w0 M0 I0 (GrP (m + n) M0 I0) := by
 have da := gW m
 have db := gW n
 have va := iG m
 have vb := iG n
 generalize ha : gr m = a at *
 generalize hb : gr n = b at *
 obtain ⟨N, hN⟩ : ∃ N : Nat, N = max a.length b.length + 1 := ⟨_, rfl⟩
 refine dW Tryz.func229 rfl Tryz.ntmps229 rfl ?_
 repeat (refine mO ?_)
 (refine lL (N) rfl rfl (by omega) (by omega) (by omega) (by omega) (rO _ _) rfl rfl ?_; intro bo; refine ⟨pE, ?_⟩)
 repeat (refine mO ?_)
 refine aZ [0, 1, 5, 17] rfl (fun k G M I => ∃ (i : Nat) (o : List Int) (cr : Int), i ≤ N ∧ k = N - i ∧ o.length = N ∧ Dig (o.take i) ∧ (0 ≤ cr ∧ cr ≤ 1) ∧ val (o.take i) + 1000000000 ^ i * cr = val (a.take i) + val (b.take i) ∧ G = [(6, .int .u32 cr), (18, .int .i64 i)] ∧ M = .blk bo (recs eG o) 104 :: M0 ∧ I0 = I) (N) _ _ _ aL cO cK (⟨0, _, 0, by omega, by omega, by simp, by simp [Dig], by omega, by simp [val], rfl, rfl, rfl⟩) ?_
 rintro k G M I ⟨i, o, cr, hi, rfl, ho, hd, hcr, hv, rfl, rfl, rfl⟩
 repeat' (first | refine mO ?_ | refine bR rfl (fun h => ?_) (fun h => ?_) | refine bQ rfl rfl (fun h => ?_) (fun h => ?_) | fail)
 ·(refine aS rfl (aLP (i := i) rfl (by omega) hp) rfl rfl ?_; rintro _ _ _ ⟨rfl, rfl, rfl⟩; refine ⟨pE, ?_⟩)
  have d1 := da.gt i
  have d2 := db.gt i
  repeat (refine mO ?_)
  (refine aS rfl (aLP (i := i) rfl (by omega) hq) rfl rfl ?_; rintro _ _ _ ⟨rfl, rfl, rfl⟩; refine ⟨pE, ?_⟩)
  repeat' (first | refine mO ?_ | refine bR rfl (fun h => ?_) (fun h => ?_) | refine bQ rfl rfl (fun h => ?_) (fun h => ?_) | fail)
  ·refine aK (N - (i + 1)) _ _ _ (by first | omega | (simp only [List.length_append, List.length_cons, List.length_nil]; omega)) aL cO cK (⟨i + 1, _, 1, by omega, rfl, by rw [fF]; exact ho, ?_, by omega, ?_, rfl, rfl, rfl⟩)
   ·rw [vP, jG _ _ _ (by omega)]; exact hd.snoc (by omega)
   ·exact aGP hv (by omega) (s := gt a i + gt b i + cr) rfl (by omega)
  ·refine aK (N - (i + 1)) _ _ _ (by first | omega | (simp only [List.length_append, List.length_cons, List.length_nil]; omega)) aL cO cK (⟨i + 1, _, 0, by omega, rfl, by rw [fF]; exact ho, ?_, by omega, ?_, rfl, rfl, rfl⟩)
   ·rw [vP, jG _ _ _ (by omega)]; exact hd.snoc (by omega)
   ·exact aGP hv (by omega) (s := gt a i + gt b i + cr) rfl (by omega)
 ·have hiN : i = N := by omega
  subst hiN
  rw [List.take_of_length_le (show o.length ≤ i by omega)] at hv hd
  rw [List.take_of_length_le (show a.length ≤ i by omega), List.take_of_length_le (show b.length ≤ i by omega), va, vb] at hv
  have hcr0 : cr = 0 := by
   have h1 := nO da
   have h2 := nO db
   have h3 := nW (show a.length ≤ i - 1 by omega)
   have h4 := nW (show b.length ≤ i - 1 by omega)
   have h5 : (1000000000 : Int) ^ i = 1000000000 ^ (i - 1) * 1000000000 := by
    rw [← Int.pow_succ]; congr 1; omega
   have h6 := kS (i - 1)
   have h7 := dF hd
   by_cases c : cr = 0
   ·exact c
   ·have : cr = 1 := by omega
    subst this
    omega
  subst hcr0
  have hg : iD o = gr (m + n) := oQ hd (by omega)
  refine aO xN ?_
  (refine aS rfl (qW (l := o) (c := i) ho.symm (by omega) (by omega) aP) rfl rfl ?_; rintro _ _ _ ⟨rfl, rfl, rfl⟩; refine ⟨pE, ?_⟩)
  repeat (refine mO ?_)
  rw [hg]
  refine aM (by first | exact .inl rfl | exact .inr rfl) rfl rfl _ _ cO cK (⟨rfl, _, _, rfl, ⟨by rw [← hg]; have := uS o; obtain ⟨k, h1, h2, _⟩ := this; rw [h2]; simp; omega, .inl (Ok.mk _ _)⟩, rfl⟩)
end
end Go.Proofs.YtjbhdfpjnjedhaaGreat
