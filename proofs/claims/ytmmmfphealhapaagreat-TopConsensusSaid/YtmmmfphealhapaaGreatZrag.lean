/- The symbolic heap, continued: parts of what is read, xor. The types and functions of this seat, as instances. Written by facts.py. A premise that no search takes for another; looks alone. The walk, kept once. -/
import Derived.Test.YtmmmfphealhapaaGreatZraf
import Derived.Test.YtmmmfphealhapaaGreatProg
import Derived.Test.YtmmmfphealhapaaGreatZrac
import Derived.KernelRfl
import Derived.Test.YtmmmfphealhapaaGreatZrae
set_option linter.unusedSimpArgs false
set_option linter.unusedVariables false
set_option maxRecDepth 100000
set_option maxHeartbeats 4000000
namespace Go.Fx
section
variable {α : Type} {enc : α → List Value} {sz : Nat}
theorem aAN [h : Sized enc sz] : ∀ (ms : List α) (l : Nat), recs enc (ms.drop l) = (recs enc ms).drop (l * sz)
 | ms, 0 => by simp
 | [], l + 1 => by simp [recs]
 | m :: r, l + 1 => by
  have e : recs enc (m :: r) = enc m ++ recs enc r := rfl
  have h1 : (l + 1) * sz = (enc m).length + l * sz := by rw [h.len, Nat.add_mul]; omega
  rw [List.drop_succ_cons, aAN r l, e, h1, List.drop_append, List.drop_of_length_le (show (enc m).length ≤ (enc m).length + l * sz by omega)]
  simp
theorem zW [h : Sized enc sz] : ∀ (ms : List α) (l : Nat), recs enc (ms.take l) = (recs enc ms).take (l * sz)
 | ms, 0 => by simp [recs]
 | [], l + 1 => by simp [recs]
 | m :: r, l + 1 => by
  have e : recs enc (m :: r) = enc m ++ recs enc r := rfl
  have e2 : recs enc ((m :: r).take (l + 1)) = enc m ++ recs enc (r.take l) := rfl
  have h1 : (l + 1) * sz = (enc m).length + l * sz := by rw [h.len, Nat.add_mul]; omega
  rw [e2, zW r l, e, h1, List.take_append, List.take_of_length_le (show (enc m).length ≤ (enc m).length + l * sz by omega)]
  simp
end
section
variable {P : Program} {n : Nat} {Q Q' : Exit → Act → World → Prop} {G : Env} {X : List Nat} {w0 : World} {M M' M1 : List Ent} {I I' I1 : List bA}
theorem Mem.cutI {α : Type} {enc : α → List Value} {sz : Nat} [hz : Sized enc sz] {w : World} {a : Option Addr} {ms : List α} (c l m : Nat) (h : Mem X w0 M I w) (hm : aX a (recs enc ms) ∈ I) (hc : ms.length ≤ c) : Mem X w0 M (aX (zG a c l sz) (recs enc ((ms.take m).drop l)) :: I) w :=
 h.add (φ := aX _ _) ⟨by
  rw [aAN, zW]
  exact (h.sl hm).cut c l (m * sz) sz (by rw [iP]; exact Nat.mul_le_mul_right _ hc)⟩
theorem aNN {α : Type} {enc : α → List Value} {sz : Nat} [hz : Sized enc sz] {ops l : List Oper} {m : Mode} {a : Option Addr} {ms : List α} (c lo hi : Nat) (hm : aX a (recs enc ms) ∈ I) (hc : ms.length ≤ c) (h : RD P n ops Q m l G X w0 M (aX (zG a c lo sz) (recs enc ((ms.take hi).drop lo)) :: I)) : RD P n ops Q m l G X w0 M I := xZ (fun _ hw => hw.cutI c lo hi hm hc) h
theorem zY {C : World → Prop} {ty t e : TypeId} {sz : Nat} {x : Operand} {lo hi : Option Operand} {a : Option Addr} {len c : Nat} (l h k : Nat) [ht : SliceTy P t e sz] (hx : ev G x = some (.slice a len c))
  (hl : (lo = none ∧ l = 0) ∨ ∃ y k i, lo = some y ∧ ev G y = some (.int k i) ∧ i = (l : Int)) (hh : (hi = none ∧ h = len) ∨ ∃ y k i, hi = some y ∧ ev G y = some (.int k i) ∧ i = (h : Int)) (h1 : l ≤ h) (h2 : h ≤ c) (hk : h - l = k) :
  Const P n G (.slice t x lo hi none) ty C (.slice (zG a c l sz) k (c - l)) := by
 subst hk
 exact aCT hx (hl.imp id (fun ⟨y, k, i, h1, h2, h3⟩ => ⟨y, k, h1, by rw [← h3]; exact h2⟩)) (hh.imp id (fun ⟨y, k, i, h1, h2, h3⟩ => ⟨y, k, h1, by rw [← h3]; exact h2⟩)) h1 h2
theorem aOM {ex : Exit} (e : TypeId) (sz : Nat) (h : ND n Q ex G X w0 (.row none 0 0 [] e sz :: M) I) : ND n Q ex G X w0 M I := xS (fun _ hw => hw.row0 e sz) h
theorem qC {ops l : List Oper} {m : Mode} {b mm : Nat} {cs : List Value} {e : TypeId} (sz : Nat) (hr : Rep (.blk b cs e) (.row (some ⟨b, 0, none⟩) mm mm cs e sz) M M') (hl : cs.length = mm * sz) (hm : mm ≤ 9223372036854775807) (h : RD P n ops Q m l G X w0 M' I) : RD P n ops Q m l G X w0 M I := xZ (fun _ hw => hw.toRow sz hr hl hm) h
theorem CD.post {f : FuncId} {vs : List Value} {K K' : Value → List Ent → List bA → Prop} (h : CD P f vs X w0 M I K) (hk : ∀ v M1 I1 w, K v M1 I1 → Mem X w0 M1 I1 w → ∃ M2 I2, K' v M2 I2 ∧ Mem X w0 M2 I2 w) : CD P f vs X w0 M I K' :=
 ⟨fun w hw => (h.go w hw).mono (fun _ _ ⟨_, _, h1, h2⟩ => hk _ _ _ _ h1 h2)⟩
theorem CD.pre {f : FuncId} {vs : List Value} {K : Value → List Ent → List bA → Prop} (hM : ∀ w, Mem X w0 M I w → Mem X w0 M' I' w) (h : CD P f vs X w0 M' I' K) : CD P f vs X w0 M I K := ⟨fun w hw => h.go w (hM w hw)⟩
/- two operations that change the world, in either order -/
theorem dY {C : World → Prop} {ty t t' : TypeId} {x y : Operand} {p q : Prop} [Decidable p] [Decidable q] [ht : BoolTy P t] (hx : ev G x = some (.bool (B p))) (hy : ev G y = some (.bool (B q))) :
  Const P n G (.binOp .neq t x y t') ty C (.bool (B (¬ (p ↔ q)))) := by
 refine ⟨?_⟩
 intro s ha dst pos after guard w _
 have h : (!(B p == B q)) = B (¬ (p ↔ q)) := by
  rw [qW, qW, qW]
  by_cases hp : p <;> by_cases hq : q <;> simp [hp, hq]
 have e1 : (eqGuard .neq t x y (.bool (B p)) (.bool (B q))).run P w = .ok () w := rfl
 simp only [execOp, ha.ev hx, ha.ev hy, Sem.run_bind, e1, Result.andThen_ok, run_neq_bool _ t (B p) (B q) ht.und, Sem.run_pure, h]
theorem Mem.rowLe {w : World} {a : Option Addr} {m c : Nat} {cs : List Value} {e : TypeId} {sz : Nat} (h : Mem X w0 M I w) (hm : .row a m c cs e sz ∈ M) : m ≤ c := by
 have ho : w.ownsRow 0 e sz (.slice a m c) m cs := h.ent _ hm
 obtain ⟨a', c', hv, _, _, hle⟩ := aBR ho
 injection hv with e1 e2 e3
 subst e3
 exact hle
end
end Go.Fx
namespace Go.Proofs.YtmmmfphealhapaaGreat
open Go Go.Fx
instance : IntTy Tryz.prog 2 .i64 := ⟨Tryz.underlying2⟩
instance : ScalarTy Tryz.prog 3 := ⟨⟨_, Tryz.underlying3, (by intro _ h; cases h), (by intro _ _ h; cases h)⟩, by kernel_rfl⟩
instance : IntTy Tryz.prog 3 .i64 := ⟨Tryz.underlying3⟩
instance : ElemTy Tryz.prog 3 1 8 [.int .i64 0] := ⟨by kernel_rfl, rfl⟩
instance : ScalarTy Tryz.prog 4 := ⟨⟨_, Tryz.underlying4, (by intro _ h; cases h), (by intro _ _ h; cases h)⟩, by kernel_rfl⟩
instance : BoolTy Tryz.prog 4 := ⟨Tryz.underlying4⟩
instance : ScalarTy Tryz.prog 5 := ⟨⟨_, Tryz.underlying5, (by intro _ h; cases h), (by intro _ _ h; cases h)⟩, by kernel_rfl⟩
instance : IntTy Tryz.prog 5 .u8 := ⟨Tryz.underlying5⟩
instance : ScalarTy Tryz.prog 22 := ⟨⟨_, Tryz.underlying22, (by intro _ h; cases h), (by intro _ _ h; cases h)⟩, by kernel_rfl⟩
instance : SliceTy Tryz.prog 22 30 4 := ⟨Tryz.underlying22, by kernel_rfl⟩
instance : AggTy Tryz.prog 23 4 := ⟨.inr ⟨_, _, Tryz.underlying23⟩, by kernel_rfl⟩
instance : ArrTy Tryz.prog 23 4 5 1 := ⟨Tryz.underlying23, by kernel_rfl⟩
instance : AggTy Tryz.prog 28 2 := ⟨.inl ⟨_, Tryz.underlying28⟩, by kernel_rfl⟩
instance : StructTy Tryz.prog 28 [(0, 1), (1, 1)] [.int .i64 0, .int .i64 0] := ⟨⟨_, Tryz.underlying28, by kernel_rfl⟩, by kernel_rfl⟩
instance : FieldAt Tryz.prog 28 0 0 3 1 := ⟨⟨_, _, Tryz.underlying28, rfl, rfl, rfl⟩, by kernel_rfl⟩
instance : FieldAt Tryz.prog 28 1 1 3 1 := ⟨⟨_, _, Tryz.underlying28, rfl, rfl, rfl⟩, by kernel_rfl⟩
instance : AggTy Tryz.prog 30 4 := ⟨.inl ⟨_, Tryz.underlying30⟩, by kernel_rfl⟩
instance : StructTy Tryz.prog 30 [(0, 2), (2, 2)] [.int .i64 0, .int .i64 0, .int .i64 0, .int .i64 0] := ⟨⟨_, Tryz.underlying30, by kernel_rfl⟩, by kernel_rfl⟩
instance : FieldAt Tryz.prog 30 0 0 28 2 := ⟨⟨_, _, Tryz.underlying30, rfl, rfl, rfl⟩, by kernel_rfl⟩
instance : FieldAt Tryz.prog 30 1 2 28 2 := ⟨⟨_, _, Tryz.underlying30, rfl, rfl, rfl⟩, by kernel_rfl⟩
instance : ElemTy Tryz.prog 30 4 32 [.int .i64 0, .int .i64 0, .int .i64 0, .int .i64 0] := ⟨by kernel_rfl, rfl⟩
instance : ScalarTy Tryz.prog 31 := ⟨⟨_, Tryz.underlying31, (by intro _ h; cases h), (by intro _ _ h; cases h)⟩, by kernel_rfl⟩
instance : SliceTy Tryz.prog 31 3 1 := ⟨Tryz.underlying31, by kernel_rfl⟩
instance : ElemTy Tryz.prog 31 1 24 [.slice none 0 0] := ⟨by kernel_rfl, rfl⟩
instance : ScalarTy Tryz.prog 32 := ⟨⟨_, Tryz.underlying32, (by intro _ h; cases h), (by intro _ _ h; cases h)⟩, by kernel_rfl⟩
instance : ScalarTy Tryz.prog 34 := ⟨⟨_, Tryz.underlying34, (by intro _ h; cases h), (by intro _ _ h; cases h)⟩, by kernel_rfl⟩
instance : SliceTy Tryz.prog 34 70 1 := ⟨Tryz.underlying34, by kernel_rfl⟩
instance : AggTy Tryz.prog 36 4 := ⟨.inl ⟨_, Tryz.underlying36⟩, by kernel_rfl⟩
instance : StructTy Tryz.prog 36 [(0, 1), (1, 1), (2, 1), (3, 1)] [.int .i64 0, .slice none 0 0, .slice none 0 0, .slice none 0 0] := ⟨⟨_, Tryz.underlying36, by kernel_rfl⟩, by kernel_rfl⟩
instance : FieldAt Tryz.prog 36 1 1 31 1 := ⟨⟨_, _, Tryz.underlying36, rfl, rfl, rfl⟩, by kernel_rfl⟩
instance : FieldAt Tryz.prog 36 2 2 31 1 := ⟨⟨_, _, Tryz.underlying36, rfl, rfl, rfl⟩, by kernel_rfl⟩
instance : FieldAt Tryz.prog 36 3 3 34 1 := ⟨⟨_, _, Tryz.underlying36, rfl, rfl, rfl⟩, by kernel_rfl⟩
instance : ElemTy Tryz.prog 36 4 80 [.int .i64 0, .slice none 0 0, .slice none 0 0, .slice none 0 0] := ⟨by kernel_rfl, rfl⟩
instance : AggTy Tryz.prog 39 16 := ⟨.inr ⟨_, _, Tryz.underlying39⟩, by kernel_rfl⟩
instance : ArrTy Tryz.prog 39 4 30 4 := ⟨Tryz.underlying39, by kernel_rfl⟩
instance : ElemTy Tryz.prog 39 16 128 [.int .i64 0, .int .i64 0, .int .i64 0, .int .i64 0, .int .i64 0, .int .i64 0, .int .i64 0, .int .i64 0, .int .i64 0, .int .i64 0, .int .i64 0, .int .i64 0, .int .i64 0, .int .i64 0, .int .i64 0, .int .i64 0] := ⟨by kernel_rfl, rfl⟩
instance : ScalarTy Tryz.prog 40 := ⟨⟨_, Tryz.underlying40, (by intro _ h; cases h), (by intro _ _ h; cases h)⟩, by kernel_rfl⟩
instance : SliceTy Tryz.prog 40 121 1 := ⟨Tryz.underlying40, by kernel_rfl⟩
instance : AggTy Tryz.prog 42 2 := ⟨.inl ⟨_, Tryz.underlying42⟩, by kernel_rfl⟩
instance : StructTy Tryz.prog 42 [(0, 1), (1, 1)] [.bool false, .slice none 0 0] := ⟨⟨_, Tryz.underlying42, by kernel_rfl⟩, by kernel_rfl⟩
instance : FieldAt Tryz.prog 42 0 0 4 1 := ⟨⟨_, _, Tryz.underlying42, rfl, rfl, rfl⟩, by kernel_rfl⟩
instance : FieldAt Tryz.prog 42 1 1 40 1 := ⟨⟨_, _, Tryz.underlying42, rfl, rfl, rfl⟩, by kernel_rfl⟩
instance : ElemTy Tryz.prog 42 2 32 [.bool false, .slice none 0 0] := ⟨by kernel_rfl, rfl⟩
instance : AggTy Tryz.prog 44 18 := ⟨.inr ⟨_, _, Tryz.underlying44⟩, by kernel_rfl⟩
instance : ArrTy Tryz.prog 44 9 42 2 := ⟨Tryz.underlying44, by kernel_rfl⟩
instance : ElemTy Tryz.prog 44 18 288 [.bool false, .slice none 0 0, .bool false, .slice none 0 0, .bool false, .slice none 0 0, .bool false, .slice none 0 0, .bool false, .slice none 0 0, .bool false, .slice none 0 0, .bool false, .slice none 0 0, .bool false, .slice none 0 0, .bool false, .slice none 0 0] := ⟨by kernel_rfl, rfl⟩
instance : ScalarTy Tryz.prog 70 := ⟨⟨_, Tryz.underlying70, (by intro _ h; cases h), (by intro _ _ h; cases h)⟩, by kernel_rfl⟩
instance : SliceTy Tryz.prog 70 77 4 := ⟨Tryz.underlying70, by kernel_rfl⟩
instance : ElemTy Tryz.prog 70 1 24 [.slice none 0 0] := ⟨by kernel_rfl, rfl⟩
instance : AggTy Tryz.prog 77 4 := ⟨.inl ⟨_, Tryz.underlying77⟩, by kernel_rfl⟩
instance : StructTy Tryz.prog 77 [(0, 2), (2, 2)] [.bool false, .slice none 0 0, .bool false, .slice none 0 0] := ⟨⟨_, Tryz.underlying77, by kernel_rfl⟩, by kernel_rfl⟩
instance : FieldAt Tryz.prog 77 0 0 42 2 := ⟨⟨_, _, Tryz.underlying77, rfl, rfl, rfl⟩, by kernel_rfl⟩
instance : FieldAt Tryz.prog 77 1 2 42 2 := ⟨⟨_, _, Tryz.underlying77, rfl, rfl, rfl⟩, by kernel_rfl⟩
instance : ElemTy Tryz.prog 77 4 64 [.bool false, .slice none 0 0, .bool false, .slice none 0 0] := ⟨by kernel_rfl, rfl⟩
instance : ScalarTy Tryz.prog 98 := ⟨⟨_, Tryz.underlying98, (by intro _ h; cases h), (by intro _ _ h; cases h)⟩, by kernel_rfl⟩
instance : AggTy Tryz.prog 100 6 := ⟨.inr ⟨_, _, Tryz.underlying100⟩, by kernel_rfl⟩
instance : ArrTy Tryz.prog 100 3 42 2 := ⟨Tryz.underlying100, by kernel_rfl⟩
instance : ElemTy Tryz.prog 100 6 96 [.bool false, .slice none 0 0, .bool false, .slice none 0 0, .bool false, .slice none 0 0] := ⟨by kernel_rfl, rfl⟩
instance : AggTy Tryz.prog 101 24 := ⟨.inr ⟨_, _, Tryz.underlying101⟩, by kernel_rfl⟩
instance : ArrTy Tryz.prog 101 4 100 6 := ⟨Tryz.underlying101, by kernel_rfl⟩
instance : ElemTy Tryz.prog 101 24 384 [.bool false, .slice none 0 0, .bool false, .slice none 0 0, .bool false, .slice none 0 0, .bool false, .slice none 0 0, .bool false, .slice none 0 0, .bool false, .slice none 0 0, .bool false, .slice none 0 0, .bool false, .slice none 0 0, .bool false, .slice none 0 0, .bool false, .slice none 0 0, .bool false, .slice none 0 0, .bool false, .slice none 0 0] := ⟨by kernel_rfl, rfl⟩
instance : ScalarTy Tryz.prog 121 := ⟨⟨_, Tryz.underlying121, (by intro _ h; cases h), (by intro _ _ h; cases h)⟩, by kernel_rfl⟩
instance : IntTy Tryz.prog 121 .u32 := ⟨Tryz.underlying121⟩
instance : ElemTy Tryz.prog 121 1 4 [.int .u32 0] := ⟨by kernel_rfl, rfl⟩
instance : ScalarTy Tryz.prog 156 := ⟨⟨_, Tryz.underlying156, (by intro _ h; cases h), (by intro _ _ h; cases h)⟩, by kernel_rfl⟩
instance : ElemTy Tryz.prog 156 1 8 [.nilFunc] := ⟨by kernel_rfl, rfl⟩
instance : SliceTy Tryz.prog 159 42 2 := ⟨Tryz.underlying159, by kernel_rfl⟩
instance : AggTy Tryz.prog 163 8 := ⟨.inr ⟨_, _, Tryz.underlying163⟩, by kernel_rfl⟩
instance : ArrTy Tryz.prog 163 4 42 2 := ⟨Tryz.underlying163, by kernel_rfl⟩
instance : ElemTy Tryz.prog 163 8 128 [.bool false, .slice none 0 0, .bool false, .slice none 0 0, .bool false, .slice none 0 0, .bool false, .slice none 0 0] := ⟨by kernel_rfl, rfl⟩
instance : ArrTy Tryz.prog 164 3 100 6 := ⟨Tryz.underlying164, by kernel_rfl⟩
instance : ElemTy Tryz.prog 164 18 288 [.bool false, .slice none 0 0, .bool false, .slice none 0 0, .bool false, .slice none 0 0, .bool false, .slice none 0 0, .bool false, .slice none 0 0, .bool false, .slice none 0 0, .bool false, .slice none 0 0, .bool false, .slice none 0 0, .bool false, .slice none 0 0] := ⟨by kernel_rfl, rfl⟩
instance : AggTy Tryz.prog 172 8 := ⟨.inl ⟨_, Tryz.underlying172⟩, by kernel_rfl⟩
instance : StructTy Tryz.prog 172 [(0, 4), (4, 4)] [.bool false, .slice none 0 0, .bool false, .slice none 0 0, .bool false, .slice none 0 0, .bool false, .slice none 0 0] := ⟨⟨_, Tryz.underlying172, by kernel_rfl⟩, by kernel_rfl⟩
instance : FieldAt Tryz.prog 172 0 0 77 4 := ⟨⟨_, _, Tryz.underlying172, rfl, rfl, rfl⟩, by kernel_rfl⟩
instance : FieldAt Tryz.prog 172 1 4 77 4 := ⟨⟨_, _, Tryz.underlying172, rfl, rfl, rfl⟩, by kernel_rfl⟩
instance : ElemTy Tryz.prog 172 8 128 [.bool false, .slice none 0 0, .bool false, .slice none 0 0, .bool false, .slice none 0 0, .bool false, .slice none 0 0] := ⟨by kernel_rfl, rfl⟩
instance : ScalarTy Tryz.prog 176 := ⟨⟨_, Tryz.underlying176, (by intro _ h; cases h), (by intro _ _ h; cases h)⟩, by kernel_rfl⟩
instance : IntTy Tryz.prog 176 .u64 := ⟨Tryz.underlying176⟩
instance : FnOk Tryz.prog 3 := ⟨_, Tryz.func3, by kernel_rfl, by kernel_rfl⟩
instance : FnOk Tryz.prog 7 := ⟨_, Tryz.func7, by kernel_rfl, by kernel_rfl⟩
instance : FnOk Tryz.prog 8 := ⟨_, Tryz.func8, by kernel_rfl, by kernel_rfl⟩
instance : FnOk Tryz.prog 9 := ⟨_, Tryz.func9, by kernel_rfl, by kernel_rfl⟩
instance : FnOk Tryz.prog 10 := ⟨_, Tryz.func10, by kernel_rfl, by kernel_rfl⟩
instance : FnOk Tryz.prog 11 := ⟨_, Tryz.func11, by kernel_rfl, by kernel_rfl⟩
instance : FnOk Tryz.prog 12 := ⟨_, Tryz.func12, by kernel_rfl, by kernel_rfl⟩
instance : FnOk Tryz.prog 13 := ⟨_, Tryz.func13, by kernel_rfl, by kernel_rfl⟩
instance : FnOk Tryz.prog 14 := ⟨_, Tryz.func14, by kernel_rfl, by kernel_rfl⟩
instance : FnOk Tryz.prog 17 := ⟨_, Tryz.func17, by kernel_rfl, by kernel_rfl⟩
instance : FnOk Tryz.prog 29 := ⟨_, Tryz.func29, by kernel_rfl, by kernel_rfl⟩
instance : FnOk Tryz.prog 35 := ⟨_, Tryz.func35, by kernel_rfl, by kernel_rfl⟩
instance : FnOk Tryz.prog 36 := ⟨_, Tryz.func36, by kernel_rfl, by kernel_rfl⟩
instance : FnOk Tryz.prog 37 := ⟨_, Tryz.func37, by kernel_rfl, by kernel_rfl⟩
instance : FnOk Tryz.prog 38 := ⟨_, Tryz.func38, by kernel_rfl, by kernel_rfl⟩
instance : FnOk Tryz.prog 39 := ⟨_, Tryz.func39, by kernel_rfl, by kernel_rfl⟩
instance : FnOk Tryz.prog 40 := ⟨_, Tryz.func40, by kernel_rfl, by kernel_rfl⟩
instance : FnOk Tryz.prog 41 := ⟨_, Tryz.func41, by kernel_rfl, by kernel_rfl⟩
instance : FnOk Tryz.prog 42 := ⟨_, Tryz.func42, by kernel_rfl, by kernel_rfl⟩
instance : FnOk Tryz.prog 43 := ⟨_, Tryz.func43, by kernel_rfl, by kernel_rfl⟩
instance : FnOk Tryz.prog 44 := ⟨_, Tryz.func44, by kernel_rfl, by kernel_rfl⟩
instance : FnOk Tryz.prog 45 := ⟨_, Tryz.func45, by kernel_rfl, by kernel_rfl⟩
instance : FnOk Tryz.prog 46 := ⟨_, Tryz.func46, by kernel_rfl, by kernel_rfl⟩
instance : FnOk Tryz.prog 47 := ⟨_, Tryz.func47, by kernel_rfl, by kernel_rfl⟩
instance : FnOk Tryz.prog 48 := ⟨_, Tryz.func48, by kernel_rfl, by kernel_rfl⟩
instance : FnOk Tryz.prog 49 := ⟨_, Tryz.func49, by kernel_rfl, by kernel_rfl⟩
instance : FnOk Tryz.prog 50 := ⟨_, Tryz.func50, by kernel_rfl, by kernel_rfl⟩
instance : FnOk Tryz.prog 51 := ⟨_, Tryz.func51, by kernel_rfl, by kernel_rfl⟩
instance : FnOk Tryz.prog 52 := ⟨_, Tryz.func52, by kernel_rfl, by kernel_rfl⟩
instance : FnOk Tryz.prog 53 := ⟨_, Tryz.func53, by kernel_rfl, by kernel_rfl⟩
instance : FnOk Tryz.prog 54 := ⟨_, Tryz.func54, by kernel_rfl, by kernel_rfl⟩
instance : FnOk Tryz.prog 55 := ⟨_, Tryz.func55, by kernel_rfl, by kernel_rfl⟩
instance : FnOk Tryz.prog 56 := ⟨_, Tryz.func56, by kernel_rfl, by kernel_rfl⟩
instance : FnOk Tryz.prog 57 := ⟨_, Tryz.func57, by kernel_rfl, by kernel_rfl⟩
instance : FnOk Tryz.prog 58 := ⟨_, Tryz.func58, by kernel_rfl, by kernel_rfl⟩
instance : FnOk Tryz.prog 59 := ⟨_, Tryz.func59, by kernel_rfl, by kernel_rfl⟩
instance : FnOk Tryz.prog 60 := ⟨_, Tryz.func60, by kernel_rfl, by kernel_rfl⟩
instance : FnOk Tryz.prog 61 := ⟨_, Tryz.func61, by kernel_rfl, by kernel_rfl⟩
instance : FnOk Tryz.prog 62 := ⟨_, Tryz.func62, by kernel_rfl, by kernel_rfl⟩
instance : FnOk Tryz.prog 63 := ⟨_, Tryz.func63, by kernel_rfl, by kernel_rfl⟩
instance : FnOk Tryz.prog 64 := ⟨_, Tryz.func64, by kernel_rfl, by kernel_rfl⟩
instance : FnOk Tryz.prog 74 := ⟨_, Tryz.func74, by kernel_rfl, by kernel_rfl⟩
instance : FnOk Tryz.prog 86 := ⟨_, Tryz.func86, by kernel_rfl, by kernel_rfl⟩
instance : FnOk Tryz.prog 89 := ⟨_, Tryz.func89, by kernel_rfl, by kernel_rfl⟩
instance : FnOk Tryz.prog 92 := ⟨_, Tryz.func92, by kernel_rfl, by kernel_rfl⟩
instance : FnOk Tryz.prog 93 := ⟨_, Tryz.func93, by kernel_rfl, by kernel_rfl⟩
instance : FnOk Tryz.prog 94 := ⟨_, Tryz.func94, by kernel_rfl, by kernel_rfl⟩
instance : FnOk Tryz.prog 96 := ⟨_, Tryz.func96, by kernel_rfl, by kernel_rfl⟩
instance : FnOk Tryz.prog 101 := ⟨_, Tryz.func101, by kernel_rfl, by kernel_rfl⟩
instance : FnOk Tryz.prog 102 := ⟨_, Tryz.func102, by kernel_rfl, by kernel_rfl⟩
instance : FnOk Tryz.prog 103 := ⟨_, Tryz.func103, by kernel_rfl, by kernel_rfl⟩
instance : FnOk Tryz.prog 104 := ⟨_, Tryz.func104, by kernel_rfl, by kernel_rfl⟩
instance : FnOk Tryz.prog 105 := ⟨_, Tryz.func105, by kernel_rfl, by kernel_rfl⟩
instance : FnOk Tryz.prog 107 := ⟨_, Tryz.func107, by kernel_rfl, by kernel_rfl⟩
instance : FnOk Tryz.prog 108 := ⟨_, Tryz.func108, by kernel_rfl, by kernel_rfl⟩
instance : FnOk Tryz.prog 109 := ⟨_, Tryz.func109, by kernel_rfl, by kernel_rfl⟩
instance : FnOk Tryz.prog 110 := ⟨_, Tryz.func110, by kernel_rfl, by kernel_rfl⟩
instance : FnOk Tryz.prog 111 := ⟨_, Tryz.func111, by kernel_rfl, by kernel_rfl⟩
instance : FnOk Tryz.prog 112 := ⟨_, Tryz.func112, by kernel_rfl, by kernel_rfl⟩
instance : FnOk Tryz.prog 113 := ⟨_, Tryz.func113, by kernel_rfl, by kernel_rfl⟩
instance : FnOk Tryz.prog 114 := ⟨_, Tryz.func114, by kernel_rfl, by kernel_rfl⟩
instance : FnOk Tryz.prog 115 := ⟨_, Tryz.func115, by kernel_rfl, by kernel_rfl⟩
instance : FnOk Tryz.prog 116 := ⟨_, Tryz.func116, by kernel_rfl, by kernel_rfl⟩
instance : FnOk Tryz.prog 117 := ⟨_, Tryz.func117, by kernel_rfl, by kernel_rfl⟩
instance : FnOk Tryz.prog 118 := ⟨_, Tryz.func118, by kernel_rfl, by kernel_rfl⟩
instance : FnOk Tryz.prog 119 := ⟨_, Tryz.func119, by kernel_rfl, by kernel_rfl⟩
instance : FnOk Tryz.prog 120 := ⟨_, Tryz.func120, by kernel_rfl, by kernel_rfl⟩
instance : FnOk Tryz.prog 121 := ⟨_, Tryz.func121, by kernel_rfl, by kernel_rfl⟩
instance : FnOk Tryz.prog 122 := ⟨_, Tryz.func122, by kernel_rfl, by kernel_rfl⟩
instance : FnOk Tryz.prog 123 := ⟨_, Tryz.func123, by kernel_rfl, by kernel_rfl⟩
instance : FnOk Tryz.prog 124 := ⟨_, Tryz.func124, by kernel_rfl, by kernel_rfl⟩
instance : FnOk Tryz.prog 125 := ⟨_, Tryz.func125, by kernel_rfl, by kernel_rfl⟩
instance : FnOk Tryz.prog 126 := ⟨_, Tryz.func126, by kernel_rfl, by kernel_rfl⟩
instance : FnOk Tryz.prog 127 := ⟨_, Tryz.func127, by kernel_rfl, by kernel_rfl⟩
instance : FnOk Tryz.prog 128 := ⟨_, Tryz.func128, by kernel_rfl, by kernel_rfl⟩
instance : FnOk Tryz.prog 129 := ⟨_, Tryz.func129, by kernel_rfl, by kernel_rfl⟩
instance : FnOk Tryz.prog 130 := ⟨_, Tryz.func130, by kernel_rfl, by kernel_rfl⟩
instance : FnOk Tryz.prog 131 := ⟨_, Tryz.func131, by kernel_rfl, by kernel_rfl⟩
instance : FnOk Tryz.prog 147 := ⟨_, Tryz.func147, by kernel_rfl, by kernel_rfl⟩
instance : FnOk Tryz.prog 148 := ⟨_, Tryz.func148, by kernel_rfl, by kernel_rfl⟩
instance : FnOk Tryz.prog 149 := ⟨_, Tryz.func149, by kernel_rfl, by kernel_rfl⟩
instance : FnOk Tryz.prog 153 := ⟨_, Tryz.func153, by kernel_rfl, by kernel_rfl⟩
instance : FnOk Tryz.prog 165 := ⟨_, Tryz.func165, by kernel_rfl, by kernel_rfl⟩
instance : FnOk Tryz.prog 166 := ⟨_, Tryz.func166, by kernel_rfl, by kernel_rfl⟩
instance : FnOk Tryz.prog 167 := ⟨_, Tryz.func167, by kernel_rfl, by kernel_rfl⟩
instance : FnOk Tryz.prog 168 := ⟨_, Tryz.func168, by kernel_rfl, by kernel_rfl⟩
instance : FnOk Tryz.prog 182 := ⟨_, Tryz.func182, by kernel_rfl, by kernel_rfl⟩
instance : FnOk Tryz.prog 183 := ⟨_, Tryz.func183, by kernel_rfl, by kernel_rfl⟩
instance : FnOk Tryz.prog 184 := ⟨_, Tryz.func184, by kernel_rfl, by kernel_rfl⟩
instance : FnOk Tryz.prog 185 := ⟨_, Tryz.func185, by kernel_rfl, by kernel_rfl⟩
instance : FnOk Tryz.prog 189 := ⟨_, Tryz.func189, by kernel_rfl, by kernel_rfl⟩
instance : FnOk Tryz.prog 190 := ⟨_, Tryz.func190, by kernel_rfl, by kernel_rfl⟩
instance : FnOk Tryz.prog 191 := ⟨_, Tryz.func191, by kernel_rfl, by kernel_rfl⟩
instance : FnOk Tryz.prog 192 := ⟨_, Tryz.func192, by kernel_rfl, by kernel_rfl⟩
instance : FnOk Tryz.prog 193 := ⟨_, Tryz.func193, by kernel_rfl, by kernel_rfl⟩
instance : FnOk Tryz.prog 194 := ⟨_, Tryz.func194, by kernel_rfl, by kernel_rfl⟩
instance : FnOk Tryz.prog 195 := ⟨_, Tryz.func195, by kernel_rfl, by kernel_rfl⟩
instance : FnOk Tryz.prog 196 := ⟨_, Tryz.func196, by kernel_rfl, by kernel_rfl⟩
instance : FnOk Tryz.prog 197 := ⟨_, Tryz.func197, by kernel_rfl, by kernel_rfl⟩
instance : FnOk Tryz.prog 198 := ⟨_, Tryz.func198, by kernel_rfl, by kernel_rfl⟩
instance : FnOk Tryz.prog 199 := ⟨_, Tryz.func199, by kernel_rfl, by kernel_rfl⟩
instance : FnOk Tryz.prog 200 := ⟨_, Tryz.func200, by kernel_rfl, by kernel_rfl⟩
instance : FnOk Tryz.prog 201 := ⟨_, Tryz.func201, by kernel_rfl, by kernel_rfl⟩
instance : FnOk Tryz.prog 202 := ⟨_, Tryz.func202, by kernel_rfl, by kernel_rfl⟩
instance : FnOk Tryz.prog 203 := ⟨_, Tryz.func203, by kernel_rfl, by kernel_rfl⟩
instance : FnOk Tryz.prog 204 := ⟨_, Tryz.func204, by kernel_rfl, by kernel_rfl⟩
instance : FnOk Tryz.prog 211 := ⟨_, Tryz.func211, by kernel_rfl, by kernel_rfl⟩
instance : FnOk Tryz.prog 213 := ⟨_, Tryz.func213, by kernel_rfl, by kernel_rfl⟩
instance : FnOk Tryz.prog 214 := ⟨_, Tryz.func214, by kernel_rfl, by kernel_rfl⟩
instance : FnOk Tryz.prog 215 := ⟨_, Tryz.func215, by kernel_rfl, by kernel_rfl⟩
instance : FnOk Tryz.prog 216 := ⟨_, Tryz.func216, by kernel_rfl, by kernel_rfl⟩
instance : FnOk Tryz.prog 227 := ⟨_, Tryz.func227, by kernel_rfl, by kernel_rfl⟩
instance : FnOk Tryz.prog 228 := ⟨_, Tryz.func228, by kernel_rfl, by kernel_rfl⟩
instance : FnOk Tryz.prog 229 := ⟨_, Tryz.func229, by kernel_rfl, by kernel_rfl⟩
instance : FnOk Tryz.prog 244 := ⟨_, Tryz.func244, by kernel_rfl, by kernel_rfl⟩
instance : FnOk Tryz.prog 245 := ⟨_, Tryz.func245, by kernel_rfl, by kernel_rfl⟩
instance : FnOk Tryz.prog 246 := ⟨_, Tryz.func246, by kernel_rfl, by kernel_rfl⟩
instance : FnOk Tryz.prog 250 := ⟨_, Tryz.func250, by kernel_rfl, by kernel_rfl⟩
instance : FnOk Tryz.prog 251 := ⟨_, Tryz.func251, by kernel_rfl, by kernel_rfl⟩
instance : FnOk Tryz.prog 252 := ⟨_, Tryz.func252, by kernel_rfl, by kernel_rfl⟩
instance : FnOk Tryz.prog 253 := ⟨_, Tryz.func253, by kernel_rfl, by kernel_rfl⟩
instance : FnOk Tryz.prog 259 := ⟨_, Tryz.func259, by kernel_rfl, by kernel_rfl⟩
instance : FnOk Tryz.prog 260 := ⟨_, Tryz.func260, by kernel_rfl, by kernel_rfl⟩
instance : FnOk Tryz.prog 261 := ⟨_, Tryz.func261, by kernel_rfl, by kernel_rfl⟩
instance : FnOk Tryz.prog 262 := ⟨_, Tryz.func262, by kernel_rfl, by kernel_rfl⟩
instance : FnOk Tryz.prog 275 := ⟨_, Tryz.func275, by kernel_rfl, by kernel_rfl⟩
instance : FnOk Tryz.prog 276 := ⟨_, Tryz.func276, by kernel_rfl, by kernel_rfl⟩
instance : FnOk Tryz.prog 277 := ⟨_, Tryz.func277, by kernel_rfl, by kernel_rfl⟩
instance : FnOk Tryz.prog 278 := ⟨_, Tryz.func278, by kernel_rfl, by kernel_rfl⟩
instance : FnOk Tryz.prog 279 := ⟨_, Tryz.func279, by kernel_rfl, by kernel_rfl⟩
instance : FnOk Tryz.prog 280 := ⟨_, Tryz.func280, by kernel_rfl, by kernel_rfl⟩
theorem mixed : Tryz.prog.follows .mixedOrders = true := by kernel_rfl
end Go.Proofs.YtmmmfphealhapaaGreat
namespace Go.Fx
structure BoxP (g : Prop) : Prop where
 out : g
section
variable {P : Program} {n : Nat} {Q : Exit → Act → World → Prop} {G : Env} {X : List Nat} {w0 : World} {M : List Ent} {I : List bA} {ops l : List Oper} {m : Mode} {c : Code} {e : Exit}
structure Br (b : Bool) (p q : Prop) : Prop where
 y : b = true → p
 n : b = false → q
theorem Br.dec {p : Prop} [Decidable p] : Br (B p) p (¬ p) := ⟨fun h => Decidable.byContradiction (fun hn => by rw [dF hn] at h; cases h), fun h hp => by rw [fA hp] at h; cases h⟩
theorem Br.raw {b : Bool} : Br b (b = true) (b = false) := ⟨id, id⟩
theorem Br.lit : Br true True False := ⟨fun _ => True.intro, fun h => by cases h⟩
theorem Br.lit2 : Br false False True := ⟨fun h => (by cases h), fun _ => True.intro⟩
theorem aV {c : Operand} {x y : Code} {b : Bool} {p q : Prop} (hc : ev G c = some (.bool b)) (h1 : p → TD P n x Q G X w0 M I) (h2 : q → TD P n y Q G X w0 M I) (hb : Br b p q := by first | exact Br.dec | exact Br.raw | fail) : TD P n (.cond c x y) Q G X w0 M I :=
 nU hc (fun e => h1 (hb.y e)) (fun e => h2 (hb.n e))
theorem aW {op : Op} {ty : TypeId} {pos : String} {af : Array Edge} {d : Option Nat} {b : Bool} {p q : Prop} {g : Nat × Bool} {t : Nat} (hj : nK ops g.1 = some t) (hv : lk G t = some (.bool b))
  (h1 : p → RD P n ops Q m (⟨d, op, ty, pos, af, some g⟩ :: l) ((t, .bool true) :: G) X w0 M I) (h2 : q → RD P n ops Q m (⟨d, op, ty, pos, af, some g⟩ :: l) ((t, .bool false) :: G) X w0 M I) (hb : Br b p q := by first | exact Br.dec | ((fail_if_success exact Br.lit); (fail_if_success exact Br.lit2); exact Br.raw) | fail) :
  RD P n ops Q m (⟨d, op, ty, pos, af, some g⟩ :: l) G X w0 M I := nN hj hv (fun e => h1 (hb.y e)) (fun e => h2 (hb.n e))
end
end Go.Fx
namespace Go.Fx
theorem kS {p g : Prop} (h : g) (w : BoxP g → p := by (intro hh; (first | refine aH ?_ | refine aI ?_ | refine jU ?_ | refine iN ?_ | refine fU ?_ | refine fJ ?_ | refine iI ?_ | refine iB ?_ | refine fT ?_ | refine fP ?_ | refine jY ?_ | refine jR ?_ | refine jS ?_ | refine jX rfl ?_ | refine aL ?_ | (refine gX ?_; first | refine gQ rfl rfl rfl ?_ | (refine gJ rfl rfl ?_; refine fF rfl rfl rfl mQ ?_) | refine gT rfl rfl (by omega) ?_ | refine gI rfl rfl (by omega) ?_) | (refine bT ?_; refine aD rfl (fun _ => dL rfl) rfl rfl ?_) | refine aD rfl (fun _ => bH rfl) rfl rfl ?_ | (refine gK ?_; first | refine aD rfl (fun _ => bK rfl rfl w_) rfl rfl ?_ | refine aD rfl (fun _ => bM rfl rfl w_) rfl rfl ?_ | refine aD rfl (fun _ => eQ rfl rfl w_) rfl rfl ?_ | refine aD rfl (fun _ => eO rfl rfl (by omega) q_) rfl rfl ?_ | refine aD rfl (fun _ => eP rfl rfl (by omega) rfl) rfl rfl ?_ | refine aD rfl (fun _ => dK rfl rfl) rfl rfl ?_ | refine aD rfl (fun _ => dX rfl rfl) rfl rfl ?_ | refine aD rfl (fun _ => dY rfl rfl) rfl rfl ?_) | (refine bT ?_; first | refine aD rfl (fun _ => dZ rfl w_) rfl rfl ?_) | (refine gM ?_; first | refine aD rfl (fun _ => dD rfl w_) rfl rfl ?_) | (refine gH ?_; first | refine aD rfl (fun _ => bL rfl) rfl rfl ?_ | refine aD rfl (fun _ => dH rfl rfl) rfl rfl ?_ | refine aD rfl (fun _ => dJ rfl rfl) rfl rfl ?_ | refine aD rfl (fun _ => dI rfl rfl rfl) rfl rfl ?_) | (refine gL ?_; first | refine gP rfl (by decide) rfl rfl ?_ | refine jH rfl (by decide) rfl rfl ?_) | (refine gN ?_; first | refine aD rfl (fun _ => cO rfl) rfl rfl ?_) | (refine gW ?_; first | refine jB rfl rfl iQ rfl rfl ?_ | refine jE qV rfl rfl iQ aP jL rfl rfl ?_ | refine jF qV rfl rfl iQ aP jL rfl rfl ?_ | refine aD rfl (fun _ => bS rfl rfl iQ) rfl rfl ?_) | (refine gV ?_; first | refine jI qV rfl aP nJ rfl rfl ?_ | refine jG qV rfl aP nJ rfl rfl ?_ | refine jC qV rfl aP nJ rfl rfl ?_ | refine fI qV rfl aP nJ rfl rfl ?_ | refine kQ qV rfl aP iG fC rfl rfl ?_ | refine kR qV rfl aP iG fC rfl rfl ?_ | refine kP qV rfl aP iG fC rfl rfl ?_ | refine jM qV rfl aP iG fC rfl rfl ?_) | (refine gU ?_; first | refine aD rfl (fun _ => bR rfl rfl) rfl rfl ?_ | refine aD rfl (fun _ => bJ rfl) rfl rfl ?_) | (refine iH ?_; first | refine lT rfl rfl rfl lW stC rfl rfl ⟨mQ, ?_⟩ | refine gF rfl rfl fC qE lW qO rfl rfl ⟨mQ, ?_⟩) | (refine iM ?_; first | refine bZ rfl ?_ | refine bQ rfl ?_ | refine jQ rfl (by omega) ?_ | refine lZ rfl (by omega) ?_)); (repeat (first | refine aH ?_ | refine aI ?_ | refine jU ?_ | refine iN ?_ | refine fU ?_ | refine fJ ?_ | refine iI ?_ | refine iB ?_ | refine fT ?_ | refine fP ?_ | refine jY ?_ | refine jR ?_ | refine jS ?_ | refine jX rfl ?_ | refine aL ?_ | (refine gX ?_; first | refine gQ rfl rfl rfl ?_ | (refine gJ rfl rfl ?_; refine fF rfl rfl rfl mQ ?_) | refine gT rfl rfl (by omega) ?_ | refine gI rfl rfl (by omega) ?_) | (refine bT ?_; refine aD rfl (fun _ => dL rfl) rfl rfl ?_) | refine aD rfl (fun _ => bH rfl) rfl rfl ?_ | (refine gK ?_; first | refine aD rfl (fun _ => bK rfl rfl w_) rfl rfl ?_ | refine aD rfl (fun _ => bM rfl rfl w_) rfl rfl ?_ | refine aD rfl (fun _ => eQ rfl rfl w_) rfl rfl ?_ | refine aD rfl (fun _ => eO rfl rfl (by omega) q_) rfl rfl ?_ | refine aD rfl (fun _ => eP rfl rfl (by omega) rfl) rfl rfl ?_ | refine aD rfl (fun _ => dK rfl rfl) rfl rfl ?_ | refine aD rfl (fun _ => dX rfl rfl) rfl rfl ?_ | refine aD rfl (fun _ => dY rfl rfl) rfl rfl ?_) | (refine bT ?_; first | refine aD rfl (fun _ => dZ rfl w_) rfl rfl ?_) | (refine gM ?_; first | refine aD rfl (fun _ => dD rfl w_) rfl rfl ?_) | (refine gH ?_; first | refine aD rfl (fun _ => bL rfl) rfl rfl ?_ | refine aD rfl (fun _ => dH rfl rfl) rfl rfl ?_ | refine aD rfl (fun _ => dJ rfl rfl) rfl rfl ?_ | refine aD rfl (fun _ => dI rfl rfl rfl) rfl rfl ?_) | (refine gL ?_; first | refine gP rfl (by decide) rfl rfl ?_ | refine jH rfl (by decide) rfl rfl ?_) | (refine gN ?_; first | refine aD rfl (fun _ => cO rfl) rfl rfl ?_) | (refine gW ?_; first | refine jB rfl rfl iQ rfl rfl ?_ | refine jE qV rfl rfl iQ aP jL rfl rfl ?_ | refine jF qV rfl rfl iQ aP jL rfl rfl ?_ | refine aD rfl (fun _ => bS rfl rfl iQ) rfl rfl ?_) | (refine gV ?_; first | refine jI qV rfl aP nJ rfl rfl ?_ | refine jG qV rfl aP nJ rfl rfl ?_ | refine jC qV rfl aP nJ rfl rfl ?_ | refine fI qV rfl aP nJ rfl rfl ?_ | refine kQ qV rfl aP iG fC rfl rfl ?_ | refine kR qV rfl aP iG fC rfl rfl ?_ | refine kP qV rfl aP iG fC rfl rfl ?_ | refine jM qV rfl aP iG fC rfl rfl ?_) | (refine gU ?_; first | refine aD rfl (fun _ => bR rfl rfl) rfl rfl ?_ | refine aD rfl (fun _ => bJ rfl) rfl rfl ?_) | (refine iH ?_; first | refine lT rfl rfl rfl lW stC rfl rfl ⟨mQ, ?_⟩ | refine gF rfl rfl fC qE lW qO rfl rfl ⟨mQ, ?_⟩) | (refine iM ?_; first | refine bZ rfl ?_ | refine bQ rfl ?_ | refine jQ rfl (by omega) ?_ | refine lZ rfl (by omega) ?_))); exact hh.out)) : p := w ⟨h⟩
end Go.Fx
