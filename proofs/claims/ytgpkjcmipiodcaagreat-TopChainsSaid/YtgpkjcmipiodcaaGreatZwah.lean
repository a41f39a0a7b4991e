/- The types and functions of this seat, as instances. -/
import Derived.Test.YtgpkjcmipiodcaaGreatProg
import Derived.Test.YtgpkjcmipiodcaaGreatZwac
import Derived.KernelRfl
import Derived.Test.YtgpkjcmipiodcaaGreatZwae
import Derived.Test.YtgpkjcmipiodcaaGreatZwaf
set_option linter.unusedSimpArgs false
set_option linter.unusedVariables false
set_option maxRecDepth 100000
set_option maxHeartbeats 4000000
namespace Go.Proofs.YtgpkjcmipiodcaaGreat
open Go Go.Fx
instance:IntTy Tryz.prog 2 .i64:=⟨Tryz.underlying2⟩
instance:ScalarTy Tryz.prog 3:=⟨⟨_,Tryz.underlying3,(by intro _ h;cases h),(by intro _ _ h;cases h)⟩,by kernel_rfl⟩
instance:IntTy Tryz.prog 3 .i64:=⟨Tryz.underlying3⟩
instance:ElemTy Tryz.prog 3 1 8 [.int .i64 0]:=⟨by kernel_rfl,rfl⟩
instance:ScalarTy Tryz.prog 4:=⟨⟨_,Tryz.underlying4,(by intro _ h;cases h),(by intro _ _ h;cases h)⟩,by kernel_rfl⟩
instance:BoolTy Tryz.prog 4:=⟨Tryz.underlying4⟩
instance:ScalarTy Tryz.prog 22:=⟨⟨_,Tryz.underlying22,(by intro _ h;cases h),(by intro _ _ h;cases h)⟩,by kernel_rfl⟩
instance:SliceTy Tryz.prog 22 68 10:=⟨Tryz.underlying22,by kernel_rfl⟩
instance:ScalarTy Tryz.prog 23:=⟨⟨_,Tryz.underlying23,(by intro _ h;cases h),(by intro _ _ h;cases h)⟩,by kernel_rfl⟩
instance:SliceTy Tryz.prog 23 31 3:=⟨Tryz.underlying23,by kernel_rfl⟩
instance:ScalarTy Tryz.prog 24:=⟨⟨_,Tryz.underlying24,(by intro _ h;cases h),(by intro _ _ h;cases h)⟩,by kernel_rfl⟩
instance:SliceTy Tryz.prog 24 73 7:=⟨Tryz.underlying24,by kernel_rfl⟩
instance:AggTy Tryz.prog 26 4:=⟨.inl ⟨_,Tryz.underlying26⟩,by kernel_rfl⟩
instance:StructTy Tryz.prog 26 [(0,1),(1,1),(2,1),(3,1)] [.int .i64 0, .slice none 0 0, .slice none 0 0, .slice none 0 0]:=⟨⟨_,Tryz.underlying26,by kernel_rfl⟩,by kernel_rfl⟩
instance:FieldAt Tryz.prog 26 0 0 3 1:=⟨⟨_,_,Tryz.underlying26,rfl,rfl,rfl⟩,by kernel_rfl⟩
instance:FieldAt Tryz.prog 26 1 1 22 1:=⟨⟨_,_,Tryz.underlying26,rfl,rfl,rfl⟩,by kernel_rfl⟩
instance:FieldAt Tryz.prog 26 2 2 23 1:=⟨⟨_,_,Tryz.underlying26,rfl,rfl,rfl⟩,by kernel_rfl⟩
instance:FieldAt Tryz.prog 26 3 3 24 1:=⟨⟨_,_,Tryz.underlying26,rfl,rfl,rfl⟩,by kernel_rfl⟩
instance:ElemTy Tryz.prog 26 4 80 [.int .i64 0, .slice none 0 0, .slice none 0 0, .slice none 0 0]:=⟨by kernel_rfl,rfl⟩
instance:AggTy Tryz.prog 28 4:=⟨.inl ⟨_,Tryz.underlying28⟩,by kernel_rfl⟩
instance:StructTy Tryz.prog 28 [(0,1),(1,1),(2,1),(3,1)] [.int .i64 0, .int .i64 0, .int .i64 0, .int .i64 0]:=⟨⟨_,Tryz.underlying28,by kernel_rfl⟩,by kernel_rfl⟩
instance:FieldAt Tryz.prog 28 0 0 3 1:=⟨⟨_,_,Tryz.underlying28,rfl,rfl,rfl⟩,by kernel_rfl⟩
instance:FieldAt Tryz.prog 28 1 1 3 1:=⟨⟨_,_,Tryz.underlying28,rfl,rfl,rfl⟩,by kernel_rfl⟩
instance:FieldAt Tryz.prog 28 2 2 3 1:=⟨⟨_,_,Tryz.underlying28,rfl,rfl,rfl⟩,by kernel_rfl⟩
instance:FieldAt Tryz.prog 28 3 3 3 1:=⟨⟨_,_,Tryz.underlying28,rfl,rfl,rfl⟩,by kernel_rfl⟩
instance:IntStruct Tryz.prog 28 4:=⟨by kernel_rfl,by kernel_rfl,by kernel_rfl,by kernel_rfl⟩
instance:ElemTy Tryz.prog 28 4 32 [.int .i64 0, .int .i64 0, .int .i64 0, .int .i64 0]:=⟨by kernel_rfl,rfl⟩
instance:ArrTy Tryz.prog 29 2 28 4:=⟨Tryz.underlying29,by kernel_rfl⟩
instance:AggTy Tryz.prog 31 3:=⟨.inl ⟨_,Tryz.underlying31⟩,by kernel_rfl⟩
instance:StructTy Tryz.prog 31 [(0,1),(1,1),(2,1)] [.int .i64 0, .int .i64 0, .int .i64 0]:=⟨⟨_,Tryz.underlying31,by kernel_rfl⟩,by kernel_rfl⟩
instance:FieldAt Tryz.prog 31 0 0 3 1:=⟨⟨_,_,Tryz.underlying31,rfl,rfl,rfl⟩,by kernel_rfl⟩
instance:FieldAt Tryz.prog 31 1 1 3 1:=⟨⟨_,_,Tryz.underlying31,rfl,rfl,rfl⟩,by kernel_rfl⟩
instance:FieldAt Tryz.prog 31 2 2 3 1:=⟨⟨_,_,Tryz.underlying31,rfl,rfl,rfl⟩,by kernel_rfl⟩
instance:ElemTy Tryz.prog 31 3 24 [.int .i64 0, .int .i64 0, .int .i64 0]:=⟨by kernel_rfl,rfl⟩
instance:ArrTy Tryz.prog 32 2 31 3:=⟨Tryz.underlying32,by kernel_rfl⟩
instance:ScalarTy Tryz.prog 36:=⟨⟨_,Tryz.underlying36,(by intro _ h;cases h),(by intro _ _ h;cases h)⟩,by kernel_rfl⟩
instance:SliceTy Tryz.prog 36 181 1:=⟨Tryz.underlying36,by kernel_rfl⟩
instance:AggTy Tryz.prog 38 2:=⟨.inl ⟨_,Tryz.underlying38⟩,by kernel_rfl⟩
instance:StructTy Tryz.prog 38 [(0,1),(1,1)] [.bool false, .slice none 0 0]:=⟨⟨_,Tryz.underlying38,by kernel_rfl⟩,by kernel_rfl⟩
instance:FieldAt Tryz.prog 38 0 0 4 1:=⟨⟨_,_,Tryz.underlying38,rfl,rfl,rfl⟩,by kernel_rfl⟩
instance:FieldAt Tryz.prog 38 1 1 36 1:=⟨⟨_,_,Tryz.underlying38,rfl,rfl,rfl⟩,by kernel_rfl⟩
instance:ElemTy Tryz.prog 38 2 32 [.bool false, .slice none 0 0]:=⟨by kernel_rfl,rfl⟩
instance:AggTy Tryz.prog 40 4:=⟨.inl ⟨_,Tryz.underlying40⟩,by kernel_rfl⟩
instance:StructTy Tryz.prog 40 [(0,2),(2,2)] [.bool false, .slice none 0 0, .bool false, .slice none 0 0]:=⟨⟨_,Tryz.underlying40,by kernel_rfl⟩,by kernel_rfl⟩
instance:FieldAt Tryz.prog 40 0 0 38 2:=⟨⟨_,_,Tryz.underlying40,rfl,rfl,rfl⟩,by kernel_rfl⟩
instance:FieldAt Tryz.prog 40 1 2 38 2:=⟨⟨_,_,Tryz.underlying40,rfl,rfl,rfl⟩,by kernel_rfl⟩
instance:ElemTy Tryz.prog 40 4 64 [.bool false, .slice none 0 0, .bool false, .slice none 0 0]:=⟨by kernel_rfl,rfl⟩
instance:AggTy Tryz.prog 45 12:=⟨.inr ⟨_,_,Tryz.underlying45⟩,by kernel_rfl⟩
instance:ArrTy Tryz.prog 45 3 40 4:=⟨Tryz.underlying45,by kernel_rfl⟩
instance:ElemTy Tryz.prog 45 12 192 [.bool false, .slice none 0 0, .bool false, .slice none 0 0, .bool false, .slice none 0 0, .bool false, .slice none 0 0, .bool false, .slice none 0 0, .bool false, .slice none 0 0]:=⟨by kernel_rfl,rfl⟩
instance:AggTy Tryz.prog 48 20:=⟨.inl ⟨_,Tryz.underlying48⟩,by kernel_rfl⟩
instance:StructTy Tryz.prog 48 [(0,4),(4,4),(8,12)] [.bool false, .slice none 0 0, .bool false, .slice none 0 0, .int .i64 0, .int .i64 0, .int .i64 0, .int .i64 0, .bool false, .slice none 0 0, .bool false, .slice none 0 0, .bool false, .slice none 0 0, .bool false, .slice none 0 0, .bool false, .slice none 0 0, .bool false, .slice none 0 0]:=⟨⟨_,Tryz.underlying48,by kernel_rfl⟩,by kernel_rfl⟩
instance:FieldAt Tryz.prog 48 0 0 40 4:=⟨⟨_,_,Tryz.underlying48,rfl,rfl,rfl⟩,by kernel_rfl⟩
instance:FieldAt Tryz.prog 48 1 4 28 4:=⟨⟨_,_,Tryz.underlying48,rfl,rfl,rfl⟩,by kernel_rfl⟩
instance:FieldAt Tryz.prog 48 2 8 45 12:=⟨⟨_,_,Tryz.underlying48,rfl,rfl,rfl⟩,by kernel_rfl⟩
instance:ElemTy Tryz.prog 48 20 288 [.bool false, .slice none 0 0, .bool false, .slice none 0 0, .int .i64 0, .int .i64 0, .int .i64 0, .int .i64 0, .bool false, .slice none 0 0, .bool false, .slice none 0 0, .bool false, .slice none 0 0, .bool false, .slice none 0 0, .bool false, .slice none 0 0, .bool false, .slice none 0 0]:=⟨by kernel_rfl,rfl⟩
instance:ScalarTy Tryz.prog 52:=⟨⟨_,Tryz.underlying52,(by intro _ h;cases h),(by intro _ _ h;cases h)⟩,by kernel_rfl⟩
instance:SliceTy Tryz.prog 52 40 4:=⟨Tryz.underlying52,by kernel_rfl⟩
instance:ElemTy Tryz.prog 52 1 24 [.slice none 0 0]:=⟨by kernel_rfl,rfl⟩
instance:SliceTy Tryz.prog 54 91 3:=⟨Tryz.underlying54,by kernel_rfl⟩
instance:AggTy Tryz.prog 58 36:=⟨.inr ⟨_,_,Tryz.underlying58⟩,by kernel_rfl⟩
instance:ArrTy Tryz.prog 58 3 45 12:=⟨Tryz.underlying58,by kernel_rfl⟩
instance:ElemTy Tryz.prog 58 36 576 [.bool false, .slice none 0 0, .bool false, .slice none 0 0, .bool false, .slice none 0 0, .bool false, .slice none 0 0, .bool false, .slice none 0 0, .bool false, .slice none 0 0, .bool false, .slice none 0 0, .bool false, .slice none 0 0, .bool false, .slice none 0 0, .bool false, .slice none 0 0, .bool false, .slice none 0 0, .bool false, .slice none 0 0, .bool false, .slice none 0 0, .bool false, .slice none 0 0, .bool false, .slice none 0 0, .bool false, .slice none 0 0, .bool false, .slice none 0 0, .bool false, .slice none 0 0]:=⟨by kernel_rfl,rfl⟩
instance:FieldAt Tryz.prog 66 0 0 3 1:=⟨⟨_,_,Tryz.underlying66,rfl,rfl,rfl⟩,by kernel_rfl⟩
instance:FieldAt Tryz.prog 66 1 1 3 1:=⟨⟨_,_,Tryz.underlying66,rfl,rfl,rfl⟩,by kernel_rfl⟩
instance:AggTy Tryz.prog 68 10:=⟨.inl ⟨_,Tryz.underlying68⟩,by kernel_rfl⟩
instance:FieldAt Tryz.prog 68 0 0 31 3:=⟨⟨_,_,Tryz.underlying68,rfl,rfl,rfl⟩,by kernel_rfl⟩
instance:FieldAt Tryz.prog 68 1 3 28 4:=⟨⟨_,_,Tryz.underlying68,rfl,rfl,rfl⟩,by kernel_rfl⟩
instance:FieldAt Tryz.prog 68 2 7 3 1:=⟨⟨_,_,Tryz.underlying68,rfl,rfl,rfl⟩,by kernel_rfl⟩
instance:FieldAt Tryz.prog 68 3 8 66 2:=⟨⟨_,_,Tryz.underlying68,rfl,rfl,rfl⟩,by kernel_rfl⟩
instance:ElemTy Tryz.prog 68 10 80 [.int .i64 0, .int .i64 0, .int .i64 0, .int .i64 0, .int .i64 0, .int .i64 0, .int .i64 0, .int .i64 0, .int .i64 0, .int .i64 0]:=⟨by kernel_rfl,rfl⟩
instance:ScalarTy Tryz.prog 70:=⟨⟨_,Tryz.underlying70,(by intro _ h;cases h),(by intro _ _ h;cases h)⟩,by kernel_rfl⟩
instance:AggTy Tryz.prog 71 2:=⟨.inr ⟨_,_,Tryz.underlying71⟩,by kernel_rfl⟩
instance:ArrTy Tryz.prog 71 2 3 1:=⟨Tryz.underlying71,by kernel_rfl⟩
instance:AggTy Tryz.prog 73 7:=⟨.inl ⟨_,Tryz.underlying73⟩,by kernel_rfl⟩
instance:FieldAt Tryz.prog 73 0 0 70 1:=⟨⟨_,_,Tryz.underlying73,rfl,rfl,rfl⟩,by kernel_rfl⟩
instance:FieldAt Tryz.prog 73 1 1 3 1:=⟨⟨_,_,Tryz.underlying73,rfl,rfl,rfl⟩,by kernel_rfl⟩
instance:FieldAt Tryz.prog 73 2 2 3 1:=⟨⟨_,_,Tryz.underlying73,rfl,rfl,rfl⟩,by kernel_rfl⟩
instance:FieldAt Tryz.prog 73 3 3 3 1:=⟨⟨_,_,Tryz.underlying73,rfl,rfl,rfl⟩,by kernel_rfl⟩
instance:FieldAt Tryz.prog 73 4 4 71 2:=⟨⟨_,_,Tryz.underlying73,rfl,rfl,rfl⟩,by kernel_rfl⟩
instance:FieldAt Tryz.prog 73 5 6 3 1:=⟨⟨_,_,Tryz.underlying73,rfl,rfl,rfl⟩,by kernel_rfl⟩
instance:ElemTy Tryz.prog 73 7 56 [.int .i64 0, .int .i64 0, .int .i64 0, .int .i64 0, .int .i64 0, .int .i64 0, .int .i64 0]:=⟨by kernel_rfl,rfl⟩
instance:SliceTy Tryz.prog 77 3 1:=⟨Tryz.underlying77,by kernel_rfl⟩
instance:AggTy Tryz.prog 91 3:=⟨.inr ⟨_,_,Tryz.underlying91⟩,by kernel_rfl⟩
instance:ArrTy Tryz.prog 91 3 3 1:=⟨Tryz.underlying91,by kernel_rfl⟩
instance:ElemTy Tryz.prog 91 3 24 [.int .i64 0, .int .i64 0, .int .i64 0]:=⟨by kernel_rfl,rfl⟩
instance:SliceTy Tryz.prog 104 52 1:=⟨Tryz.underlying104,by kernel_rfl⟩
instance:ScalarTy Tryz.prog 105:=⟨⟨_,Tryz.underlying105,(by intro _ h;cases h),(by intro _ _ h;cases h)⟩,by kernel_rfl⟩
instance:SliceTy Tryz.prog 105 52 1:=⟨Tryz.underlying105,by kernel_rfl⟩
instance:ElemTy Tryz.prog 105 1 24 [.slice none 0 0]:=⟨by kernel_rfl,rfl⟩
instance:SliceTy Tryz.prog 113 48 20:=⟨Tryz.underlying113,by kernel_rfl⟩
instance:AggTy Tryz.prog 122 3:=⟨.inl ⟨_,Tryz.underlying122⟩,by kernel_rfl⟩
instance:StructTy Tryz.prog 122 [(0,1),(1,1),(2,1)] [.int .i64 0, .int .i64 0, .int .i64 0]:=⟨⟨_,Tryz.underlying122,by kernel_rfl⟩,by kernel_rfl⟩
instance:IntStruct Tryz.prog 122 3:=⟨by kernel_rfl,by kernel_rfl,by kernel_rfl,by kernel_rfl⟩
instance:ElemTy Tryz.prog 122 3 24 [.int .i64 0, .int .i64 0, .int .i64 0]:=⟨by kernel_rfl,rfl⟩
instance:AggTy Tryz.prog 123 4:=⟨.inr ⟨_,_,Tryz.underlying123⟩,by kernel_rfl⟩
instance:ArrTy Tryz.prog 123 4 3 1:=⟨Tryz.underlying123,by kernel_rfl⟩
instance:ElemTy Tryz.prog 123 4 32 [.int .i64 0, .int .i64 0, .int .i64 0, .int .i64 0]:=⟨by kernel_rfl,rfl⟩
instance:AggTy Tryz.prog 128 9:=⟨.inr ⟨_,_,Tryz.underlying128⟩,by kernel_rfl⟩
instance:ArrTy Tryz.prog 128 3 91 3:=⟨Tryz.underlying128,by kernel_rfl⟩
instance:ElemTy Tryz.prog 128 9 72 [.int .i64 0, .int .i64 0, .int .i64 0, .int .i64 0, .int .i64 0, .int .i64 0, .int .i64 0, .int .i64 0, .int .i64 0]:=⟨by kernel_rfl,rfl⟩
instance:ScalarTy Tryz.prog 136:=⟨⟨_,Tryz.underlying136,(by intro _ h;cases h),(by intro _ _ h;cases h)⟩,by kernel_rfl⟩
instance:ElemTy Tryz.prog 136 1 8 [.pointer none]:=⟨by kernel_rfl,rfl⟩
instance:ScalarTy Tryz.prog 140:=⟨⟨_,Tryz.underlying140,(by intro _ h;cases h),(by intro _ _ h;cases h)⟩,by kernel_rfl⟩
instance:SliceTy Tryz.prog 140 192 7:=⟨Tryz.underlying140,by kernel_rfl⟩
instance:ElemTy Tryz.prog 140 1 24 [.slice none 0 0]:=⟨by kernel_rfl,rfl⟩
instance:SliceTy Tryz.prog 142 140 1:=⟨Tryz.underlying142,by kernel_rfl⟩
instance:AggTy Tryz.prog 162 16:=⟨.inr ⟨_,_,Tryz.underlying162⟩,by kernel_rfl⟩
instance:ArrTy Tryz.prog 162 4 40 4:=⟨Tryz.underlying162,by kernel_rfl⟩
instance:ElemTy Tryz.prog 162 16 256 [.bool false, .slice none 0 0, .bool false, .slice none 0 0, .bool false, .slice none 0 0, .bool false, .slice none 0 0, .bool false, .slice none 0 0, .bool false, .slice none 0 0, .bool false, .slice none 0 0, .bool false, .slice none 0 0]:=⟨by kernel_rfl,rfl⟩
instance:SliceTy Tryz.prog 163 162 16:=⟨Tryz.underlying163,by kernel_rfl⟩
instance:SliceTy Tryz.prog 169 28 4:=⟨Tryz.underlying169,by kernel_rfl⟩
instance:AggTy Tryz.prog 171 8:=⟨.inr ⟨_,_,Tryz.underlying171⟩,by kernel_rfl⟩
instance:ArrTy Tryz.prog 171 4 38 2:=⟨Tryz.underlying171,by kernel_rfl⟩
instance:ElemTy Tryz.prog 171 8 128 [.bool false, .slice none 0 0, .bool false, .slice none 0 0, .bool false, .slice none 0 0, .bool false, .slice none 0 0]:=⟨by kernel_rfl,rfl⟩
instance:ScalarTy Tryz.prog 172:=⟨⟨_,Tryz.underlying172,(by intro _ h;cases h),(by intro _ _ h;cases h)⟩,by kernel_rfl⟩
instance:IntTy Tryz.prog 172 .u64:=⟨Tryz.underlying172⟩
instance:ScalarTy Tryz.prog 181:=⟨⟨_,Tryz.underlying181,(by intro _ h;cases h),(by intro _ _ h;cases h)⟩,by kernel_rfl⟩
instance:IntTy Tryz.prog 181 .u32:=⟨Tryz.underlying181⟩
instance:ElemTy Tryz.prog 181 1 4 [.int .u32 0]:=⟨by kernel_rfl,rfl⟩
instance:ScalarTy Tryz.prog 186:=⟨⟨_,Tryz.underlying186,(by intro _ h;cases h),(by intro _ _ h;cases h)⟩,by kernel_rfl⟩
instance:ScalarTy Tryz.prog 187:=⟨⟨_,Tryz.underlying187,(by intro _ h;cases h),(by intro _ _ h;cases h)⟩,by kernel_rfl⟩
instance:StructTy Tryz.prog 189 [(0,4),(4,1),(5,1),(6,1)] [.int .i64 0, .slice none 0 0, .slice none 0 0, .slice none 0 0, .map none, .slice none 0 0, .map none]:=⟨⟨_,Tryz.underlying189,by kernel_rfl⟩,by kernel_rfl⟩
instance:FieldAt Tryz.prog 189 0 0 26 4:=⟨⟨_,_,Tryz.underlying189,rfl,rfl,rfl⟩,by kernel_rfl⟩
instance:FieldAt Tryz.prog 189 1 4 186 1:=⟨⟨_,_,Tryz.underlying189,rfl,rfl,rfl⟩,by kernel_rfl⟩
instance:FieldAt Tryz.prog 189 2 5 140 1:=⟨⟨_,_,Tryz.underlying189,rfl,rfl,rfl⟩,by kernel_rfl⟩
instance:FieldAt Tryz.prog 189 3 6 187 1:=⟨⟨_,_,Tryz.underlying189,rfl,rfl,rfl⟩,by kernel_rfl⟩
instance:ScalarTy Tryz.prog 190:=⟨⟨_,Tryz.underlying190,(by intro _ h;cases h),(by intro _ _ h;cases h)⟩,by kernel_rfl⟩
instance:AggTy Tryz.prog 192 7:=⟨.inl ⟨_,Tryz.underlying192⟩,by kernel_rfl⟩
instance:StructTy Tryz.prog 192 [(0,1),(1,1),(2,1),(3,4)] [.int .i64 0, .int .i64 0, .int .i64 0, .bool false, .slice none 0 0, .bool false, .slice none 0 0]:=⟨⟨_,Tryz.underlying192,by kernel_rfl⟩,by kernel_rfl⟩
instance:FieldAt Tryz.prog 192 0 0 190 1:=⟨⟨_,_,Tryz.underlying192,rfl,rfl,rfl⟩,by kernel_rfl⟩
instance:FieldAt Tryz.prog 192 1 1 3 1:=⟨⟨_,_,Tryz.underlying192,rfl,rfl,rfl⟩,by kernel_rfl⟩
instance:FieldAt Tryz.prog 192 2 2 3 1:=⟨⟨_,_,Tryz.underlying192,rfl,rfl,rfl⟩,by kernel_rfl⟩
instance:FieldAt Tryz.prog 192 3 3 40 4:=⟨⟨_,_,Tryz.underlying192,rfl,rfl,rfl⟩,by kernel_rfl⟩
instance:ElemTy Tryz.prog 192 7 88 [.int .i64 0, .int .i64 0, .int .i64 0, .bool false, .slice none 0 0, .bool false, .slice none 0 0]:=⟨by kernel_rfl,rfl⟩
instance:SliceTy Tryz.prog 208 105 1:=⟨Tryz.underlying208,by kernel_rfl⟩
instance:AggTy Tryz.prog 225 3:=⟨.inl ⟨_,Tryz.underlying225⟩,by kernel_rfl⟩
instance:StructTy Tryz.prog 225 [(0,1),(1,1),(2,1)] [.bool false, .int .i64 0, .int .i64 0]:=⟨⟨_,Tryz.underlying225,by kernel_rfl⟩,by kernel_rfl⟩
instance:FieldAt Tryz.prog 225 0 0 4 1:=⟨⟨_,_,Tryz.underlying225,rfl,rfl,rfl⟩,by kernel_rfl⟩
instance:FieldAt Tryz.prog 225 1 1 3 1:=⟨⟨_,_,Tryz.underlying225,rfl,rfl,rfl⟩,by kernel_rfl⟩
instance:FieldAt Tryz.prog 225 2 2 3 1:=⟨⟨_,_,Tryz.underlying225,rfl,rfl,rfl⟩,by kernel_rfl⟩
instance:ElemTy Tryz.prog 225 3 24 [.bool false, .int .i64 0, .int .i64 0]:=⟨by kernel_rfl,rfl⟩
instance:AggTy Tryz.prog 240 4:=⟨.inl ⟨_,Tryz.underlying240⟩,by kernel_rfl⟩
instance:StructTy Tryz.prog 240 [(0,1),(1,1),(2,1),(3,1)] [.int .i64 0, .int .i64 0, .int .i64 0, .int .i64 0]:=⟨⟨_,Tryz.underlying240,by kernel_rfl⟩,by kernel_rfl⟩
instance:FieldAt Tryz.prog 240 0 0 190 1:=⟨⟨_,_,Tryz.underlying240,rfl,rfl,rfl⟩,by kernel_rfl⟩
instance:FieldAt Tryz.prog 240 1 1 3 1:=⟨⟨_,_,Tryz.underlying240,rfl,rfl,rfl⟩,by kernel_rfl⟩
instance:FieldAt Tryz.prog 240 2 2 3 1:=⟨⟨_,_,Tryz.underlying240,rfl,rfl,rfl⟩,by kernel_rfl⟩
instance:FieldAt Tryz.prog 240 3 3 3 1:=⟨⟨_,_,Tryz.underlying240,rfl,rfl,rfl⟩,by kernel_rfl⟩
instance:IntStruct Tryz.prog 240 4:=⟨by kernel_rfl,by kernel_rfl,by kernel_rfl,by kernel_rfl⟩
instance:SliceTy Tryz.prog 241 225 3:=⟨Tryz.underlying241,by kernel_rfl⟩
instance:FnOk Tryz.prog 3:=⟨_,Tryz.func3,by kernel_rfl,by kernel_rfl⟩
instance:FnOk Tryz.prog 4:=⟨_,Tryz.func4,by kernel_rfl,by kernel_rfl⟩
instance:FnOk Tryz.prog 5:=⟨_,Tryz.func5,by kernel_rfl,by kernel_rfl⟩
instance:FnOk Tryz.prog 6:=⟨_,Tryz.func6,by kernel_rfl,by kernel_rfl⟩
instance:FnOk Tryz.prog 7:=⟨_,Tryz.func7,by kernel_rfl,by kernel_rfl⟩
instance:FnOk Tryz.prog 8:=⟨_,Tryz.func8,by kernel_rfl,by kernel_rfl⟩
instance:FnOk Tryz.prog 9:=⟨_,Tryz.func9,by kernel_rfl,by kernel_rfl⟩
instance:FnOk Tryz.prog 10:=⟨_,Tryz.func10,by kernel_rfl,by kernel_rfl⟩
instance:FnOk Tryz.prog 11:=⟨_,Tryz.func11,by kernel_rfl,by kernel_rfl⟩
instance:FnOk Tryz.prog 12:=⟨_,Tryz.func12,by kernel_rfl,by kernel_rfl⟩
instance:FnOk Tryz.prog 13:=⟨_,Tryz.func13,by kernel_rfl,by kernel_rfl⟩
instance:FnOk Tryz.prog 14:=⟨_,Tryz.func14,by kernel_rfl,by kernel_rfl⟩
instance:FnOk Tryz.prog 15:=⟨_,Tryz.func15,by kernel_rfl,by kernel_rfl⟩
instance:FnOk Tryz.prog 16:=⟨_,Tryz.func16,by kernel_rfl,by kernel_rfl⟩
instance:FnOk Tryz.prog 17:=⟨_,Tryz.func17,by kernel_rfl,by kernel_rfl⟩
instance:FnOk Tryz.prog 18:=⟨_,Tryz.func18,by kernel_rfl,by kernel_rfl⟩
instance:FnOk Tryz.prog 19:=⟨_,Tryz.func19,by kernel_rfl,by kernel_rfl⟩
instance:FnOk Tryz.prog 20:=⟨_,Tryz.func20,by kernel_rfl,by kernel_rfl⟩
instance:FnOk Tryz.prog 21:=⟨_,Tryz.func21,by kernel_rfl,by kernel_rfl⟩
instance:FnOk Tryz.prog 22:=⟨_,Tryz.func22,by kernel_rfl,by kernel_rfl⟩
instance:FnOk Tryz.prog 23:=⟨_,Tryz.func23,by kernel_rfl,by kernel_rfl⟩
instance:FnOk Tryz.prog 24:=⟨_,Tryz.func24,by kernel_rfl,by kernel_rfl⟩
instance:FnOk Tryz.prog 25:=⟨_,Tryz.func25,by kernel_rfl,by kernel_rfl⟩
instance:FnOk Tryz.prog 26:=⟨_,Tryz.func26,by kernel_rfl,by kernel_rfl⟩
instance:FnOk Tryz.prog 27:=⟨_,Tryz.func27,by kernel_rfl,by kernel_rfl⟩
instance:FnOk Tryz.prog 28:=⟨_,Tryz.func28,by kernel_rfl,by kernel_rfl⟩
instance:FnOk Tryz.prog 29:=⟨_,Tryz.func29,by kernel_rfl,by kernel_rfl⟩
instance:FnOk Tryz.prog 30:=⟨_,Tryz.func30,by kernel_rfl,by kernel_rfl⟩
instance:FnOk Tryz.prog 31:=⟨_,Tryz.func31,by kernel_rfl,by kernel_rfl⟩
instance:FnOk Tryz.prog 32:=⟨_,Tryz.func32,by kernel_rfl,by kernel_rfl⟩
instance:FnOk Tryz.prog 33:=⟨_,Tryz.func33,by kernel_rfl,by kernel_rfl⟩
instance:FnOk Tryz.prog 34:=⟨_,Tryz.func34,by kernel_rfl,by kernel_rfl⟩
instance:FnOk Tryz.prog 35:=⟨_,Tryz.func35,by kernel_rfl,by kernel_rfl⟩
instance:FnOk Tryz.prog 36:=⟨_,Tryz.func36,by kernel_rfl,by kernel_rfl⟩
instance:FnOk Tryz.prog 37:=⟨_,Tryz.func37,by kernel_rfl,by kernel_rfl⟩
instance:FnOk Tryz.prog 38:=⟨_,Tryz.func38,by kernel_rfl,by kernel_rfl⟩
instance:FnOk Tryz.prog 39:=⟨_,Tryz.func39,by kernel_rfl,by kernel_rfl⟩
instance:FnOk Tryz.prog 40:=⟨_,Tryz.func40,by kernel_rfl,by kernel_rfl⟩
instance:FnOk Tryz.prog 41:=⟨_,Tryz.func41,by kernel_rfl,by kernel_rfl⟩
instance:FnOk Tryz.prog 42:=⟨_,Tryz.func42,by kernel_rfl,by kernel_rfl⟩
instance:FnOk Tryz.prog 43:=⟨_,Tryz.func43,by kernel_rfl,by kernel_rfl⟩
instance:FnOk Tryz.prog 44:=⟨_,Tryz.func44,by kernel_rfl,by kernel_rfl⟩
instance:FnOk Tryz.prog 45:=⟨_,Tryz.func45,by kernel_rfl,by kernel_rfl⟩
instance:FnOk Tryz.prog 46:=⟨_,Tryz.func46,by kernel_rfl,by kernel_rfl⟩
instance:FnOk Tryz.prog 47:=⟨_,Tryz.func47,by kernel_rfl,by kernel_rfl⟩
instance:FnOk Tryz.prog 48:=⟨_,Tryz.func48,by kernel_rfl,by kernel_rfl⟩
instance:FnOk Tryz.prog 49:=⟨_,Tryz.func49,by kernel_rfl,by kernel_rfl⟩
instance:FnOk Tryz.prog 50:=⟨_,Tryz.func50,by kernel_rfl,by kernel_rfl⟩
instance:FnOk Tryz.prog 51:=⟨_,Tryz.func51,by kernel_rfl,by kernel_rfl⟩
instance:FnOk Tryz.prog 52:=⟨_,Tryz.func52,by kernel_rfl,by kernel_rfl⟩
instance:FnOk Tryz.prog 53:=⟨_,Tryz.func53,by kernel_rfl,by kernel_rfl⟩
instance:FnOk Tryz.prog 54:=⟨_,Tryz.func54,by kernel_rfl,by kernel_rfl⟩
instance:FnOk Tryz.prog 55:=⟨_,Tryz.func55,by kernel_rfl,by kernel_rfl⟩
instance:FnOk Tryz.prog 56:=⟨_,Tryz.func56,by kernel_rfl,by kernel_rfl⟩
instance:FnOk Tryz.prog 57:=⟨_,Tryz.func57,by kernel_rfl,by kernel_rfl⟩
instance:FnOk Tryz.prog 58:=⟨_,Tryz.func58,by kernel_rfl,by kernel_rfl⟩
instance:FnOk Tryz.prog 59:=⟨_,Tryz.func59,by kernel_rfl,by kernel_rfl⟩
instance:FnOk Tryz.prog 60:=⟨_,Tryz.func60,by kernel_rfl,by kernel_rfl⟩
instance:FnOk Tryz.prog 61:=⟨_,Tryz.func61,by kernel_rfl,by kernel_rfl⟩
instance:FnOk Tryz.prog 62:=⟨_,Tryz.func62,by kernel_rfl,by kernel_rfl⟩
instance:FnOk Tryz.prog 63:=⟨_,Tryz.func63,by kernel_rfl,by kernel_rfl⟩
instance:FnOk Tryz.prog 64:=⟨_,Tryz.func64,by kernel_rfl,by kernel_rfl⟩
instance:FnOk Tryz.prog 65:=⟨_,Tryz.func65,by kernel_rfl,by kernel_rfl⟩
instance:FnOk Tryz.prog 66:=⟨_,Tryz.func66,by kernel_rfl,by kernel_rfl⟩
instance:FnOk Tryz.prog 67:=⟨_,Tryz.func67,by kernel_rfl,by kernel_rfl⟩
instance:FnOk Tryz.prog 68:=⟨_,Tryz.func68,by kernel_rfl,by kernel_rfl⟩
instance:FnOk Tryz.prog 69:=⟨_,Tryz.func69,by kernel_rfl,by kernel_rfl⟩
instance:FnOk Tryz.prog 70:=⟨_,Tryz.func70,by kernel_rfl,by kernel_rfl⟩
instance:FnOk Tryz.prog 71:=⟨_,Tryz.func71,by kernel_rfl,by kernel_rfl⟩
instance:FnOk Tryz.prog 72:=⟨_,Tryz.func72,by kernel_rfl,by kernel_rfl⟩
instance:FnOk Tryz.prog 73:=⟨_,Tryz.func73,by kernel_rfl,by kernel_rfl⟩
instance:FnOk Tryz.prog 74:=⟨_,Tryz.func74,by kernel_rfl,by kernel_rfl⟩
instance:FnOk Tryz.prog 75:=⟨_,Tryz.func75,by kernel_rfl,by kernel_rfl⟩
instance:FnOk Tryz.prog 76:=⟨_,Tryz.func76,by kernel_rfl,by kernel_rfl⟩
instance:FnOk Tryz.prog 77:=⟨_,Tryz.func77,by kernel_rfl,by kernel_rfl⟩
instance:FnOk Tryz.prog 78:=⟨_,Tryz.func78,by kernel_rfl,by kernel_rfl⟩
instance:FnOk Tryz.prog 79:=⟨_,Tryz.func79,by kernel_rfl,by kernel_rfl⟩
instance:FnOk Tryz.prog 80:=⟨_,Tryz.func80,by kernel_rfl,by kernel_rfl⟩
instance:FnOk Tryz.prog 81:=⟨_,Tryz.func81,by kernel_rfl,by kernel_rfl⟩
instance:FnOk Tryz.prog 82:=⟨_,Tryz.func82,by kernel_rfl,by kernel_rfl⟩
instance:FnOk Tryz.prog 83:=⟨_,Tryz.func83,by kernel_rfl,by kernel_rfl⟩
instance:FnOk Tryz.prog 84:=⟨_,Tryz.func84,by kernel_rfl,by kernel_rfl⟩
instance:FnOk Tryz.prog 85:=⟨_,Tryz.func85,by kernel_rfl,by kernel_rfl⟩
instance:FnOk Tryz.prog 86:=⟨_,Tryz.func86,by kernel_rfl,by kernel_rfl⟩
instance:FnOk Tryz.prog 87:=⟨_,Tryz.func87,by kernel_rfl,by kernel_rfl⟩
instance:FnOk Tryz.prog 88:=⟨_,Tryz.func88,by kernel_rfl,by kernel_rfl⟩
instance:FnOk Tryz.prog 89:=⟨_,Tryz.func89,by kernel_rfl,by kernel_rfl⟩
instance:FnOk Tryz.prog 90:=⟨_,Tryz.func90,by kernel_rfl,by kernel_rfl⟩
instance:FnOk Tryz.prog 91:=⟨_,Tryz.func91,by kernel_rfl,by kernel_rfl⟩
instance:FnOk Tryz.prog 92:=⟨_,Tryz.func92,by kernel_rfl,by kernel_rfl⟩
instance:FnOk Tryz.prog 93:=⟨_,Tryz.func93,by kernel_rfl,by kernel_rfl⟩
instance:FnOk Tryz.prog 94:=⟨_,Tryz.func94,by kernel_rfl,by kernel_rfl⟩
instance:FnOk Tryz.prog 95:=⟨_,Tryz.func95,by kernel_rfl,by kernel_rfl⟩
instance:FnOk Tryz.prog 96:=⟨_,Tryz.func96,by kernel_rfl,by kernel_rfl⟩
instance:FnOk Tryz.prog 97:=⟨_,Tryz.func97,by kernel_rfl,by kernel_rfl⟩
instance:FnOk Tryz.prog 98:=⟨_,Tryz.func98,by kernel_rfl,by kernel_rfl⟩
instance:FnOk Tryz.prog 99:=⟨_,Tryz.func99,by kernel_rfl,by kernel_rfl⟩
instance:FnOk Tryz.prog 100:=⟨_,Tryz.func100,by kernel_rfl,by kernel_rfl⟩
instance:FnOk Tryz.prog 101:=⟨_,Tryz.func101,by kernel_rfl,by kernel_rfl⟩
instance:FnOk Tryz.prog 102:=⟨_,Tryz.func102,by kernel_rfl,by kernel_rfl⟩
instance:FnOk Tryz.prog 103:=⟨_,Tryz.func103,by kernel_rfl,by kernel_rfl⟩
instance:FnOk Tryz.prog 104:=⟨_,Tryz.func104,by kernel_rfl,by kernel_rfl⟩
instance:FnOk Tryz.prog 105:=⟨_,Tryz.func105,by kernel_rfl,by kernel_rfl⟩
instance:FnOk Tryz.prog 106:=⟨_,Tryz.func106,by kernel_rfl,by kernel_rfl⟩
instance:FnOk Tryz.prog 107:=⟨_,Tryz.func107,by kernel_rfl,by kernel_rfl⟩
instance:FnOk Tryz.prog 108:=⟨_,Tryz.func108,by kernel_rfl,by kernel_rfl⟩
instance:FnOk Tryz.prog 109:=⟨_,Tryz.func109,by kernel_rfl,by kernel_rfl⟩
instance:FnOk Tryz.prog 110:=⟨_,Tryz.func110,by kernel_rfl,by kernel_rfl⟩
instance:FnOk Tryz.prog 111:=⟨_,Tryz.func111,by kernel_rfl,by kernel_rfl⟩
instance:FnOk Tryz.prog 112:=⟨_,Tryz.func112,by kernel_rfl,by kernel_rfl⟩
instance:FnOk Tryz.prog 113:=⟨_,Tryz.func113,by kernel_rfl,by kernel_rfl⟩
instance:FnOk Tryz.prog 114:=⟨_,Tryz.func114,by kernel_rfl,by kernel_rfl⟩
instance:FnOk Tryz.prog 115:=⟨_,Tryz.func115,by kernel_rfl,by kernel_rfl⟩
instance:FnOk Tryz.prog 116:=⟨_,Tryz.func116,by kernel_rfl,by kernel_rfl⟩
instance:FnOk Tryz.prog 117:=⟨_,Tryz.func117,by kernel_rfl,by kernel_rfl⟩
instance:FnOk Tryz.prog 118:=⟨_,Tryz.func118,by kernel_rfl,by kernel_rfl⟩
instance:FnOk Tryz.prog 119:=⟨_,Tryz.func119,by kernel_rfl,by kernel_rfl⟩
instance:FnOk Tryz.prog 120:=⟨_,Tryz.func120,by kernel_rfl,by kernel_rfl⟩
instance:FnOk Tryz.prog 121:=⟨_,Tryz.func121,by kernel_rfl,by kernel_rfl⟩
instance:FnOk Tryz.prog 122:=⟨_,Tryz.func122,by kernel_rfl,by kernel_rfl⟩
instance:FnOk Tryz.prog 123:=⟨_,Tryz.func123,by kernel_rfl,by kernel_rfl⟩
instance:FnOk Tryz.prog 124:=⟨_,Tryz.func124,by kernel_rfl,by kernel_rfl⟩
instance:FnOk Tryz.prog 125:=⟨_,Tryz.func125,by kernel_rfl,by kernel_rfl⟩
instance:FnOk Tryz.prog 126:=⟨_,Tryz.func126,by kernel_rfl,by kernel_rfl⟩
instance:FnOk Tryz.prog 127:=⟨_,Tryz.func127,by kernel_rfl,by kernel_rfl⟩
instance:FnOk Tryz.prog 128:=⟨_,Tryz.func128,by kernel_rfl,by kernel_rfl⟩
instance:FnOk Tryz.prog 129:=⟨_,Tryz.func129,by kernel_rfl,by kernel_rfl⟩
instance:FnOk Tryz.prog 130:=⟨_,Tryz.func130,by kernel_rfl,by kernel_rfl⟩
instance:FnOk Tryz.prog 131:=⟨_,Tryz.func131,by kernel_rfl,by kernel_rfl⟩
instance:FnOk Tryz.prog 132:=⟨_,Tryz.func132,by kernel_rfl,by kernel_rfl⟩
instance:FnOk Tryz.prog 133:=⟨_,Tryz.func133,by kernel_rfl,by kernel_rfl⟩
instance:FnOk Tryz.prog 134:=⟨_,Tryz.func134,by kernel_rfl,by kernel_rfl⟩
instance:FnOk Tryz.prog 135:=⟨_,Tryz.func135,by kernel_rfl,by kernel_rfl⟩
instance:FnOk Tryz.prog 136:=⟨_,Tryz.func136,by kernel_rfl,by kernel_rfl⟩
instance:FnOk Tryz.prog 137:=⟨_,Tryz.func137,by kernel_rfl,by kernel_rfl⟩
instance:FnOk Tryz.prog 138:=⟨_,Tryz.func138,by kernel_rfl,by kernel_rfl⟩
instance:FnOk Tryz.prog 139:=⟨_,Tryz.func139,by kernel_rfl,by kernel_rfl⟩
instance:FnOk Tryz.prog 140:=⟨_,Tryz.func140,by kernel_rfl,by kernel_rfl⟩
instance:FnOk Tryz.prog 141:=⟨_,Tryz.func141,by kernel_rfl,by kernel_rfl⟩
instance:FnOk Tryz.prog 142:=⟨_,Tryz.func142,by kernel_rfl,by kernel_rfl⟩
instance:FnOk Tryz.prog 143:=⟨_,Tryz.func143,by kernel_rfl,by kernel_rfl⟩
instance:FnOk Tryz.prog 144:=⟨_,Tryz.func144,by kernel_rfl,by kernel_rfl⟩
instance:FnOk Tryz.prog 145:=⟨_,Tryz.func145,by kernel_rfl,by kernel_rfl⟩
instance:FnOk Tryz.prog 146:=⟨_,Tryz.func146,by kernel_rfl,by kernel_rfl⟩
instance:FnOk Tryz.prog 147:=⟨_,Tryz.func147,by kernel_rfl,by kernel_rfl⟩
instance:FnOk Tryz.prog 148:=⟨_,Tryz.func148,by kernel_rfl,by kernel_rfl⟩
instance:FnOk Tryz.prog 149:=⟨_,Tryz.func149,by kernel_rfl,by kernel_rfl⟩
instance:FnOk Tryz.prog 150:=⟨_,Tryz.func150,by kernel_rfl,by kernel_rfl⟩
instance:FnOk Tryz.prog 151:=⟨_,Tryz.func151,by kernel_rfl,by kernel_rfl⟩
instance:FnOk Tryz.prog 152:=⟨_,Tryz.func152,by kernel_rfl,by kernel_rfl⟩
instance:FnOk Tryz.prog 153:=⟨_,Tryz.func153,by kernel_rfl,by kernel_rfl⟩
instance:FnOk Tryz.prog 154:=⟨_,Tryz.func154,by kernel_rfl,by kernel_rfl⟩
instance:FnOk Tryz.prog 155:=⟨_,Tryz.func155,by kernel_rfl,by kernel_rfl⟩
instance:FnOk Tryz.prog 156:=⟨_,Tryz.func156,by kernel_rfl,by kernel_rfl⟩
instance:FnOk Tryz.prog 157:=⟨_,Tryz.func157,by kernel_rfl,by kernel_rfl⟩
instance:FnOk Tryz.prog 158:=⟨_,Tryz.func158,by kernel_rfl,by kernel_rfl⟩
instance:FnOk Tryz.prog 159:=⟨_,Tryz.func159,by kernel_rfl,by kernel_rfl⟩
instance:FnOk Tryz.prog 160:=⟨_,Tryz.func160,by kernel_rfl,by kernel_rfl⟩
instance:FnOk Tryz.prog 161:=⟨_,Tryz.func161,by kernel_rfl,by kernel_rfl⟩
instance:FnOk Tryz.prog 162:=⟨_,Tryz.func162,by kernel_rfl,by kernel_rfl⟩
instance:FnOk Tryz.prog 163:=⟨_,Tryz.func163,by kernel_rfl,by kernel_rfl⟩
instance:FnOk Tryz.prog 164:=⟨_,Tryz.func164,by kernel_rfl,by kernel_rfl⟩
instance:FnOk Tryz.prog 165:=⟨_,Tryz.func165,by kernel_rfl,by kernel_rfl⟩
instance:FnOk Tryz.prog 166:=⟨_,Tryz.func166,by kernel_rfl,by kernel_rfl⟩
instance:FnOk Tryz.prog 167:=⟨_,Tryz.func167,by kernel_rfl,by kernel_rfl⟩
instance:FnOk Tryz.prog 168:=⟨_,Tryz.func168,by kernel_rfl,by kernel_rfl⟩
instance:FnOk Tryz.prog 169:=⟨_,Tryz.func169,by kernel_rfl,by kernel_rfl⟩
instance:FnOk Tryz.prog 170:=⟨_,Tryz.func170,by kernel_rfl,by kernel_rfl⟩
instance:FnOk Tryz.prog 171:=⟨_,Tryz.func171,by kernel_rfl,by kernel_rfl⟩
instance:FnOk Tryz.prog 172:=⟨_,Tryz.func172,by kernel_rfl,by kernel_rfl⟩
instance:FnOk Tryz.prog 173:=⟨_,Tryz.func173,by kernel_rfl,by kernel_rfl⟩
instance:FnOk Tryz.prog 174:=⟨_,Tryz.func174,by kernel_rfl,by kernel_rfl⟩
instance:FnOk Tryz.prog 175:=⟨_,Tryz.func175,by kernel_rfl,by kernel_rfl⟩
instance:FnOk Tryz.prog 176:=⟨_,Tryz.func176,by kernel_rfl,by kernel_rfl⟩
instance:FnOk Tryz.prog 177:=⟨_,Tryz.func177,by kernel_rfl,by kernel_rfl⟩
instance:FnOk Tryz.prog 178:=⟨_,Tryz.func178,by kernel_rfl,by kernel_rfl⟩
instance:FnOk Tryz.prog 179:=⟨_,Tryz.func179,by kernel_rfl,by kernel_rfl⟩
instance:FnOk Tryz.prog 180:=⟨_,Tryz.func180,by kernel_rfl,by kernel_rfl⟩
instance:FnOk Tryz.prog 181:=⟨_,Tryz.func181,by kernel_rfl,by kernel_rfl⟩
instance:FnOk Tryz.prog 182:=⟨_,Tryz.func182,by kernel_rfl,by kernel_rfl⟩
instance:FnOk Tryz.prog 183:=⟨_,Tryz.func183,by kernel_rfl,by kernel_rfl⟩
instance:FnOk Tryz.prog 184:=⟨_,Tryz.func184,by kernel_rfl,by kernel_rfl⟩
instance:FnOk Tryz.prog 185:=⟨_,Tryz.func185,by kernel_rfl,by kernel_rfl⟩
instance:FnOk Tryz.prog 186:=⟨_,Tryz.func186,by kernel_rfl,by kernel_rfl⟩
instance:FnOk Tryz.prog 187:=⟨_,Tryz.func187,by kernel_rfl,by kernel_rfl⟩
instance:FnOk Tryz.prog 188:=⟨_,Tryz.func188,by kernel_rfl,by kernel_rfl⟩
instance:FnOk Tryz.prog 189:=⟨_,Tryz.func189,by kernel_rfl,by kernel_rfl⟩
instance:FnOk Tryz.prog 190:=⟨_,Tryz.func190,by kernel_rfl,by kernel_rfl⟩
instance:FnOk Tryz.prog 191:=⟨_,Tryz.func191,by kernel_rfl,by kernel_rfl⟩
instance:FnOk Tryz.prog 192:=⟨_,Tryz.func192,by kernel_rfl,by kernel_rfl⟩
instance:FnOk Tryz.prog 193:=⟨_,Tryz.func193,by kernel_rfl,by kernel_rfl⟩
instance:FnOk Tryz.prog 194:=⟨_,Tryz.func194,by kernel_rfl,by kernel_rfl⟩
instance:FnOk Tryz.prog 195:=⟨_,Tryz.func195,by kernel_rfl,by kernel_rfl⟩
instance:FnOk Tryz.prog 196:=⟨_,Tryz.func196,by kernel_rfl,by kernel_rfl⟩
instance:FnOk Tryz.prog 197:=⟨_,Tryz.func197,by kernel_rfl,by kernel_rfl⟩
instance:FnOk Tryz.prog 198:=⟨_,Tryz.func198,by kernel_rfl,by kernel_rfl⟩
instance:FnOk Tryz.prog 199:=⟨_,Tryz.func199,by kernel_rfl,by kernel_rfl⟩
instance:FnOk Tryz.prog 200:=⟨_,Tryz.func200,by kernel_rfl,by kernel_rfl⟩
instance:FnOk Tryz.prog 201:=⟨_,Tryz.func201,by kernel_rfl,by kernel_rfl⟩
instance:FnOk Tryz.prog 202:=⟨_,Tryz.func202,by kernel_rfl,by kernel_rfl⟩
instance:FnOk Tryz.prog 203:=⟨_,Tryz.func203,by kernel_rfl,by kernel_rfl⟩
instance:FnOk Tryz.prog 204:=⟨_,Tryz.func204,by kernel_rfl,by kernel_rfl⟩
instance:FnOk Tryz.prog 205:=⟨_,Tryz.func205,by kernel_rfl,by kernel_rfl⟩
instance:FnOk Tryz.prog 206:=⟨_,Tryz.func206,by kernel_rfl,by kernel_rfl⟩
instance:FnOk Tryz.prog 207:=⟨_,Tryz.func207,by kernel_rfl,by kernel_rfl⟩
instance:FnOk Tryz.prog 208:=⟨_,Tryz.func208,by kernel_rfl,by kernel_rfl⟩
instance:FnOk Tryz.prog 209:=⟨_,Tryz.func209,by kernel_rfl,by kernel_rfl⟩
instance:FnOk Tryz.prog 210:=⟨_,Tryz.func210,by kernel_rfl,by kernel_rfl⟩
instance:FnOk Tryz.prog 211:=⟨_,Tryz.func211,by kernel_rfl,by kernel_rfl⟩
instance:FnOk Tryz.prog 212:=⟨_,Tryz.func212,by kernel_rfl,by kernel_rfl⟩
instance:FnOk Tryz.prog 213:=⟨_,Tryz.func213,by kernel_rfl,by kernel_rfl⟩
instance:FnOk Tryz.prog 214:=⟨_,Tryz.func214,by kernel_rfl,by kernel_rfl⟩
instance:FnOk Tryz.prog 215:=⟨_,Tryz.func215,by kernel_rfl,by kernel_rfl⟩
theorem mixed:Tryz.prog.follows .mixedOrders=true:=by kernel_rfl
end Go.Proofs.YtgpkjcmipiodcaaGreat
namespace Go.Fx
structure BoxP (g:Prop):Prop where
 out:g
section
variable {P:Program} {n:Nat} {Q:Exit→Act→World→Prop} {G:Env} {X:List Nat} {w0:World} {M:List Ent} {I:List aV} {ops l:List Oper} {m:Mode} {c:Code} {e:Exit}
structure Br (b:Bool) (p q:Prop):Prop where
 y:b=true→p
 n:b=false→q
theorem Br.dec {p:Prop} [Decidable p]:Br (B p) p (¬p):=⟨fun h=>Decidable.byContradiction (fun hn=>by rw [bF hn] at h;cases h),fun h hp=>by rw [cB hp] at h;cases h⟩
theorem Br.raw {b:Bool}:Br b (b=true) (b=false):=⟨id,id⟩
theorem Br.lit:Br true True False:=⟨fun _=>True.intro,fun h=>by cases h⟩
theorem Br.lit2:Br false False True:=⟨fun h=>(by cases h),fun _=>True.intro⟩
theorem aQ {c:Operand} {x y:Code} {b:Bool} {p q:Prop} (hc:ev G c=some (.bool b)) (h1:p→TD P n x Q G X w0 M I) (h2:q→TD P n y Q G X w0 M I) (hb:Br b p q:=by first|exact Br.dec|exact Br.raw|fail):TD P n (.cond c x y) Q G X w0 M I:=
 aWG hc (fun e=>h1 (hb.y e)) (fun e=>h2 (hb.n e))
theorem aR {op:Op} {ty:TypeId} {pos:String} {af:Array Edge} {d:Option Nat} {b:Bool} {p q:Prop} {g:Nat × Bool} {t:Nat} (hj:qY ops g.1=some t) (hv:lk G t=some (.bool b))
  (h1:p→RD P n ops Q m (⟨d,op,ty,pos,af,some g⟩::l) ((t, .bool true)::G) X w0 M I) (h2:q→RD P n ops Q m (⟨d,op,ty,pos,af,some g⟩::l) ((t, .bool false)::G) X w0 M I) (hb:Br b p q:=by first|exact Br.dec|((fail_if_success exact Br.lit);(fail_if_success exact Br.lit2);exact Br.raw)|fail):
  RD P n ops Q m (⟨d,op,ty,pos,af,some g⟩::l) G X w0 M I:=aXV hj hv (fun e=>h1 (hb.y e)) (fun e=>h2 (hb.n e))
end
end Go.Fx
namespace Go.Fx
theorem lY {p g:Prop} (h:g) (w:BoxP g→p:=by (intro hh;(first|refine aJ ?_|refine iD ?_|refine pK ?_|refine mF ?_|refine jM ?_|refine jE ?_|refine lV ?_|refine lJ ?_|refine jP ?_|refine jL ?_|refine oZ ?_|refine oU ?_|refine pU ?_|refine oP rfl ?_|refine aT ?_|(refine jZ ?_;first|refine kE rfl rfl rfl ?_|(refine kR rfl rfl ?_;refine iU rfl rfl rfl okJ ?_)|refine kQ rfl rfl (by omega) ?_|refine kG rfl rfl (by omega) ?_)|(refine dY ?_;refine aD rfl (fun _=>fU rfl) rfl rfl ?_)|refine aD rfl (fun _=>bP rfl) rfl rfl ?_|(refine kL ?_;first|refine aD rfl (fun _=>dF rfl rfl w_) rfl rfl ?_|refine aD rfl (fun _=>dG rfl rfl w_) rfl rfl ?_|refine aD rfl (fun _=>gZ rfl rfl w_) rfl rfl ?_|refine aD rfl (fun _=>gX rfl rfl (by omega) q_) rfl rfl ?_|refine aD rfl (fun _=>gY rfl rfl (by omega) rfl) rfl rfl ?_|refine aD rfl (fun _=>fZ rfl rfl) rfl rfl ?_|refine aD rfl (fun _=>gV rfl rfl) rfl rfl ?_|refine aD rfl (fun _=>gT rfl rfl) rfl rfl ?_)|(refine dY ?_;first|refine aD rfl (fun _=>gJ rfl w_) rfl rfl ?_)|(refine jW ?_;first|refine aD rfl (fun _=>fB rfl w_) rfl rfl ?_)|(refine jV ?_;first|refine aD rfl (fun _=>dE rfl) rfl rfl ?_|refine aD rfl (fun _=>fQ rfl rfl) rfl rfl ?_|refine aD rfl (fun _=>fT rfl rfl) rfl rfl ?_|refine aD rfl (fun _=>fV rfl rfl rfl) rfl rfl ?_)|(refine kK ?_;first|refine jY rfl (by decide) rfl rfl ?_|refine nJ rfl (by decide) rfl rfl ?_)|(refine kD ?_;first|refine aD rfl (fun _=>fA rfl) rfl rfl ?_)|(refine kF ?_;first|refine nE rfl rfl jH rfl rfl ?_|refine nK vwJ rfl rfl jH aY nQ rfl rfl ?_|refine nI vwJ rfl rfl jH aY nQ rfl rfl ?_|refine aD rfl (fun _=>dV rfl rfl jH) rfl rfl ?_)|(refine kI ?_;first|refine nH vwJ rfl aY xQ rfl rfl ?_|refine nG vwJ rfl aY xQ rfl rfl ?_|refine kX vwJ rfl aY xQ rfl rfl ?_|refine jF vwJ rfl aY xQ rfl rfl ?_|refine rE vwJ rfl aY nL jR rfl rfl ?_|refine rC vwJ rfl aY nL jR rfl rfl ?_|refine rD vwJ rfl aY nL jR rfl rfl ?_|refine pQ vwJ rfl aY nL jR rfl rfl ?_)|(refine jX ?_;first|refine aD rfl (fun _=>dW rfl rfl) rfl rfl ?_|refine aD rfl (fun _=>dJ rfl) rfl rfl ?_)|(refine oF ?_;first|refine oH rfl rfl rfl sQ stC rfl rfl ⟨okJ,?_⟩|refine fM rfl rfl jR nU sQ aBS rfl rfl ⟨okJ,?_⟩)|(refine mD ?_;first|refine fD rfl ?_|refine dZ rfl ?_|refine oQ rfl (by omega) ?_|refine sJ rfl (by omega) ?_));(repeat (first|refine aJ ?_|refine iD ?_|refine pK ?_|refine mF ?_|refine jM ?_|refine jE ?_|refine lV ?_|refine lJ ?_|refine jP ?_|refine jL ?_|refine oZ ?_|refine oU ?_|refine pU ?_|refine oP rfl ?_|refine aT ?_|(refine jZ ?_;first|refine kE rfl rfl rfl ?_|(refine kR rfl rfl ?_;refine iU rfl rfl rfl okJ ?_)|refine kQ rfl rfl (by omega) ?_|refine kG rfl rfl (by omega) ?_)|(refine dY ?_;refine aD rfl (fun _=>fU rfl) rfl rfl ?_)|refine aD rfl (fun _=>bP rfl) rfl rfl ?_|(refine kL ?_;first|refine aD rfl (fun _=>dF rfl rfl w_) rfl rfl ?_|refine aD rfl (fun _=>dG rfl rfl w_) rfl rfl ?_|refine aD rfl (fun _=>gZ rfl rfl w_) rfl rfl ?_|refine aD rfl (fun _=>gX rfl rfl (by omega) q_) rfl rfl ?_|refine aD rfl (fun _=>gY rfl rfl (by omega) rfl) rfl rfl ?_|refine aD rfl (fun _=>fZ rfl rfl) rfl rfl ?_|refine aD rfl (fun _=>gV rfl rfl) rfl rfl ?_|refine aD rfl (fun _=>gT rfl rfl) rfl rfl ?_)|(refine dY ?_;first|refine aD rfl (fun _=>gJ rfl w_) rfl rfl ?_)|(refine jW ?_;first|refine aD rfl (fun _=>fB rfl w_) rfl rfl ?_)|(refine jV ?_;first|refine aD rfl (fun _=>dE rfl) rfl rfl ?_|refine aD rfl (fun _=>fQ rfl rfl) rfl rfl ?_|refine aD rfl (fun _=>fT rfl rfl) rfl rfl ?_|refine aD rfl (fun _=>fV rfl rfl rfl) rfl rfl ?_)|(refine kK ?_;first|refine jY rfl (by decide) rfl rfl ?_|refine nJ rfl (by decide) rfl rfl ?_)|(refine kD ?_;first|refine aD rfl (fun _=>fA rfl) rfl rfl ?_)|(refine kF ?_;first|refine nE rfl rfl jH rfl rfl ?_|refine nK vwJ rfl rfl jH aY nQ rfl rfl ?_|refine nI vwJ rfl rfl jH aY nQ rfl rfl ?_|refine aD rfl (fun _=>dV rfl rfl jH) rfl rfl ?_)|(refine kI ?_;first|refine nH vwJ rfl aY xQ rfl rfl ?_|refine nG vwJ rfl aY xQ rfl rfl ?_|refine kX vwJ rfl aY xQ rfl rfl ?_|refine jF vwJ rfl aY xQ rfl rfl ?_|refine rE vwJ rfl aY nL jR rfl rfl ?_|refine rC vwJ rfl aY nL jR rfl rfl ?_|refine rD vwJ rfl aY nL jR rfl rfl ?_|refine pQ vwJ rfl aY nL jR rfl rfl ?_)|(refine jX ?_;first|refine aD rfl (fun _=>dW rfl rfl) rfl rfl ?_|refine aD rfl (fun _=>dJ rfl) rfl rfl ?_)|(refine oF ?_;first|refine oH rfl rfl rfl sQ stC rfl rfl ⟨okJ,?_⟩|refine fM rfl rfl jR nU sQ aBS rfl rfl ⟨okJ,?_⟩)|(refine mD ?_;first|refine fD rfl ?_|refine dZ rfl ?_|refine oQ rfl (by omega) ?_|refine sJ rfl (by omega) ?_)));exact hh.out)):p:=w ⟨h⟩
end Go.Fx
namespace Go.Proofs.YtgpkjcmipiodcaaGreat
open Go Go.Fx
abbrev eG:Int→List Value:=eI .u32
theorem xR (l:List Int) (i:Nat):gt l (i:Int)=l.getD i 0:=bBB l i
theorem aNT {l:List Int} {i:Int} (h:(l.length:Int)≤i):gt l i=0:=by
 unfold gt
 simp [List.getD,show l.length≤i.toNat by omega]
theorem rY (l:List Int) (i:Nat) (x:Int):st l (i:Int) x=l.set i x:=rfl
theorem Dig.gt {l:List Int} (h:Dig l) (i:Int):0≤gt l i∧gt l i < 1000000000:=h.getD i.toNat
section
variable {X:List Nat} {w0:World} {M0:List Ent} {I0:List aV}
theorem aNZ {q:Option Addr} {l:List Int} {n c:Nat} {i:Int} (hn:n=l.length) (hi:0≤i) (hl:aI q (recs eG l)∈I0):
  CD Tryz.prog 194 [.slice q n c, .int .i64 i] X w0 M0 I0 (fun v M I=>M0=M∧I0=I∧v= .int .u32 (gt l i)):=by
 subst hn
 refine eD Tryz.func194 rfl Tryz.ntmps194 rfl ?_
 repeat' (first|refine lY ?_|refine aQ rfl (fun h=>?_) (fun h=>?_)|refine aR rfl rfl (fun h=>?_) (fun h=>?_)|fail)
 ·refine aH (by first|exact .inl rfl|exact .inr rfl) rfl rfl _ _ bX bV (⟨rfl,rfl,rfl⟩)
 ·refine aH (by first|exact .inl rfl|exact .inr rfl) rfl rfl _ _ bX bV (⟨rfl,rfl,by rw [aNT (by omega)]⟩)
theorem sN {q:Option Addr} {l:List Int} {n c:Nat} (hn:n=l.length) (h63:n≤1000000000000) (hc:l.length≤c) (hl:aI q (recs eG l)∈I0):
  CD Tryz.prog 170 [.slice q n c] X w0 M0 I0 (fun v M I=>M0=M∧I=aI q (recs eG (gH l))::I0∧v= .slice q (gH l).length c):=by
 subst hn
 refine eD Tryz.func170 rfl Tryz.ntmps170 rfl ?_
 refine xH (φ:=0 < l.length→Ok q) (fun w hw h=>(hw.sl hl).ok (by rw [fJ];omega)) (fun hq=>?_)
 repeat refine lY ?_
 refine eO [] rfl (fun k G M I=>∃m:Nat,m≤l.length∧k=m∧gH (l.take m)=gH l∧G=[(0, .slice q m c)]∧M0=M∧I0=I) (l.length) _ _ _ dS bX bV (⟨l.length,by omega,rfl,by rw [List.take_length],rfl,rfl,rfl⟩) ?_
 rintro k G M I ⟨m,hm,rfl,ht,rfl,rfl,rfl⟩
 repeat' (first|refine lY ?_|refine aQ rfl (fun h=>?_) (fun h=>?_)|refine aR rfl rfl (fun h=>?_) (fun h=>?_)|fail)
 ·obtain ⟨b,o,rfl⟩:=(hq (by omega)).cases
  refine aD rfl (fun _=>uP (k - 1) rfl rfl (by omega) (by omega)) rfl rfl ?_
  repeat refine lY ?_
  have h1:=h
  refine bY (k - 1) _ _ _ (by first|omega|(simp only [List.length_append,List.length_cons,List.length_nil];omega)) dS bX bV (⟨k - 1,by omega,rfl,?_,rfl,rfl,rfl⟩)
  rw [←ht]
  obtain ⟨j,rfl⟩:∃j,k=j+1:=⟨k - 1,by omega⟩
  have hj:j < l.length:=by omega
  have e0:gt l (j:Int)=0:=by
   have e:((j+1:Nat):Int) - 1=j:=by omega
   rw [e] at h1
   exact h1
  rw [eU hj] at e0
  rw [List.take_succ_eq_append_getElem hj,e0,yB]
  rfl
 ·have h1:=h
  have htop:Top (l.take k):=by
   obtain ⟨j,rfl⟩:∃j,k=j+1:=⟨k - 1,by omega⟩
   have hj:j < l.length:=by omega
   rw [List.take_succ_eq_append_getElem hj,Top.snoc,←eU hj]
   have e:((j+1:Nat):Int) - 1=j:=by omega
   rw [e] at h1
   exact h1
  have e1:gH l=l.take k:=by rw [←ht,aCR htop]
  refine aBR (fun w hw=>hw.takeI (cs:=recs eG (gH l)) (tl:=recs eG (l.drop k)) (by rw [e1,←jO,List.take_append_drop];exact hl)) ?_
  refine aH (by first|exact .inl rfl|exact .inr rfl) rfl rfl _ _ bX bV (⟨rfl,rfl,by rw [e1];simp;omega⟩)
 ·have h0:k=0:=by omega
  subst h0
  have e1:gH l=[]:=by rw [←ht];rfl
  rw [e1]
  refine uY q ?_
  refine aH (by first|exact .inl rfl|exact .inr rfl) rfl rfl _ _ bX bV (⟨rfl,rfl,rfl⟩)
def GrP (n:Nat) (M0:List Ent) (I0:List aV) (v:Value) (M:List Ent) (I:List aV):Prop:=M0=M∧∃q c,v= .slice q (gr n).length c∧((gr n).length≤c∧(Ok q∨((gr n).length=0∧c=0)))∧I=aI q (recs eG (gr n))::I0
theorem aHO {p q:Option Addr} {m n cp cq:Nat} (hm:(gr m).length≤100000000000) (hn:(gr n).length≤100000000000) (hp:aI p (recs eG (gr m))∈I0) (hq:aI q (recs eG (gr n))∈I0):
  CD Tryz.prog 148 [.slice p (gr m).length cp, .slice q (gr n).length cq] X w0 M0 I0 (GrP (m+n) M0 I0):=by
 have da:=bK m
 have db:=bK n
 have va:=bT m
 have vb:=bT n
 generalize ha:gr m=a at*
 generalize hb:gr n=b at*
 obtain ⟨N,hN⟩:∃N:Nat,N=max a.length b.length+1:=⟨_,rfl⟩
 refine eD Tryz.func148 rfl Tryz.ntmps148 rfl ?_
 repeat refine lY ?_
 (refine lM (N) rfl rfl (by omega) (by omega) (by omega) (by omega) (nT _ _) rfl rfl ?_;intro bo;refine ⟨okJ,?_⟩)
 repeat refine lY ?_
 refine eO [0,1,5,17] rfl (fun k G M I=>∃(i:Nat) (o:List Int) (cr:Int),i≤N∧k=N - i∧o.length=N∧Dig (o.take i)∧(0≤cr∧cr≤1)∧val (o.take i)+1000000000 ^ i*cr=val (a.take i)+val (b.take i)∧G=[(6, .int .u32 cr),(18, .int .i64 i)]∧M= .blk bo (recs eG o) 181::M0∧I0=I) (N) _ _ _ dS bX bV (⟨0,_,0,by omega,by omega,by simp,by simp [Dig],by omega,by simp [val],rfl,rfl,rfl⟩) ?_
 rintro k G M I ⟨i,o,cr,hi,rfl,ho,hd,hcr,hv,rfl,rfl,rfl⟩
 repeat' (first|refine lY ?_|refine aQ rfl (fun h=>?_) (fun h=>?_)|refine aR rfl rfl (fun h=>?_) (fun h=>?_)|fail)
 ·refine dP rfl (aNZ (i:=i) rfl (by omega) hp) ?_
  have d1:=da.gt i
  have d2:=db.gt i
  repeat refine lY ?_
  refine dP rfl (aNZ (i:=i) rfl (by omega) hq) ?_
  repeat' (first|refine lY ?_|refine aQ rfl (fun h=>?_) (fun h=>?_)|refine aR rfl rfl (fun h=>?_) (fun h=>?_)|fail)
  ·refine bY (N - (i+1)) _ _ _ (by first|omega|(simp only [List.length_append,List.length_cons,List.length_nil];omega)) dS bX bV (⟨i+1,_,1,by omega,rfl,by rw [dB];exact ho,?_,by omega,?_,rfl,rfl,rfl⟩)
   ·rw [rY,iW _ _ _ (by omega)];exact hd.snoc (by omega)
   ·exact aJK hv (by omega) (s:=gt a i+gt b i+cr) rfl (by omega)
  ·refine bY (N - (i+1)) _ _ _ (by first|omega|(simp only [List.length_append,List.length_cons,List.length_nil];omega)) dS bX bV (⟨i+1,_,0,by omega,rfl,by rw [dB];exact ho,?_,by omega,?_,rfl,rfl,rfl⟩)
   ·rw [rY,iW _ _ _ (by omega)];exact hd.snoc (by omega)
   ·exact aJK hv (by omega) (s:=gt a i+gt b i+cr) rfl (by omega)
 ·have hiN:i=N:=by omega
  subst hiN
  rw [List.take_of_length_le (show o.length≤i by omega)] at hv hd
  rw [List.take_of_length_le (show a.length≤i by omega),List.take_of_length_le (show b.length≤i by omega),va,vb] at hv
  have hcr0:cr=0:=by
   have h1:=jG da
   have h2:=jG db
   have h3:=oG (show a.length≤i - 1 by omega)
   have h4:=oG (show b.length≤i - 1 by omega)
   have h5:(1000000000:Int) ^ i=1000000000 ^ (i - 1)*1000000000:=by
    rw [←Int.pow_succ];congr 1;omega
   have h6:=jD (i - 1)
   have h7:=bQ hd
   by_cases c:cr=0
   ·exact c
   ·have:cr=1:=by omega
    subst this
    omega
  subst hcr0
  have hg:gH o=gr (m+n):=pE hd (by omega)
  refine aC yI ?_
  (refine aU rfl (sN (l:=o) (c:=i) ho.symm (by omega) (by omega) aY) ?_;rintro _ _ _ ⟨rfl,rfl,rfl⟩;refine aL ?_)
  repeat refine lY ?_
  rw [hg]
  refine aH (by first|exact .inl rfl|exact .inr rfl) rfl rfl _ _ bX bV (⟨rfl,_,_,rfl,⟨by rw [←hg];have:=xB o;obtain ⟨k,h1,h2,_⟩:=this;rw [h2];simp;omega, .inl (Ok.mk _ _)⟩,rfl⟩)
end
section
variable {X:List Nat} {w0:World} {M0:List Ent} {I0:List aV}
theorem yR {o:List Int}:(gH o).length≤o.length:=by
 obtain ⟨k,h1,h2,_⟩:=xB o
 rw [h2];simp;omega
theorem aEG {p q:Option Addr} {m n cp cq:Nat} (hm:(gr m).length≤100000000000) (hle:n≤m) (hp:aI p (recs eG (gr m))∈I0) (hq:aI q (recs eG (gr n))∈I0):
  CD Tryz.prog 171 [.slice p (gr m).length cp, .slice q (gr n).length cq] X w0 M0 I0 (GrP (m - n) M0 I0):=by
 have da:=bK m
 have db:=bK n
 have va:=bT m
 have vb:=bT n
 have hln:=fK hle
 generalize ha:gr m=a at*
 generalize hb:gr n=b at*
 refine eD Tryz.func171 rfl Tryz.ntmps171 rfl ?_
 repeat refine lY ?_
 (refine lM (a.length) rfl rfl (by omega) (by omega) (by omega) (by omega) (nT _ _) rfl rfl ?_;intro bo;refine ⟨okJ,?_⟩)
 repeat refine lY ?_
 refine eO [0,1,5,13] rfl (fun k G M I=>∃(i:Nat) (o:List Int) (cr:Int),i≤a.length∧k=a.length - i∧o.length=a.length∧Dig (o.take i)∧(0≤cr∧cr≤1)∧val (o.take i) - 1000000000 ^ i*cr=val (a.take i) - val (b.take i)∧G=[(6, .int .u32 cr),(14, .int .i64 i)]∧M= .blk bo (recs eG o) 181::M0∧I0=I) (a.length) _ _ _ dS bX bV (⟨0,_,0,by omega,by omega,by simp,by simp [Dig],by omega,by simp [val],rfl,rfl,rfl⟩) ?_
 rintro k G M I ⟨i,o,cr,hi,rfl,ho,hd,hcr,hv,rfl,rfl,rfl⟩
 repeat' (first|refine lY ?_|refine aQ rfl (fun h=>?_) (fun h=>?_)|refine aR rfl rfl (fun h=>?_) (fun h=>?_)|fail)
 ·refine dP rfl (aNZ (i:=i) rfl (by omega) hq) ?_
  have d1:=da.gt i
  have d2:=db.gt i
  repeat' (first|refine lY ?_|refine aQ rfl (fun h=>?_) (fun h=>?_)|refine aR rfl rfl (fun h=>?_) (fun h=>?_)|fail)
  ·refine bY (a.length - (i+1)) _ _ _ (by first|omega|(simp only [List.length_append,List.length_cons,List.length_nil];omega)) dS bX bV (⟨i+1,_,1,by omega,rfl,by rw [dB];exact ho,?_,by omega,?_,rfl,rfl,rfl⟩)
   ·rw [rY,iW _ _ _ (by omega)];exact hd.snoc (by omega)
   ·exact aIL hv (by omega) (show gt a i+1000000000 - (gt b i+cr) - 1000000000*1=gt a i - gt b i - cr by omega)
  ·refine bY (a.length - (i+1)) _ _ _ (by first|omega|(simp only [List.length_append,List.length_cons,List.length_nil];omega)) dS bX bV (⟨i+1,_,0,by omega,rfl,by rw [dB];exact ho,?_,by omega,?_,rfl,rfl,rfl⟩)
   ·rw [rY,iW _ _ _ (by omega)];exact hd.snoc (by omega)
   ·exact aIL hv (by omega) (show gt a i - (gt b i+cr) - 1000000000*0=gt a i - gt b i - cr by omega)
 ·have hiN:i=a.length:=by omega
  subst hiN
  rw [List.take_of_length_le (show o.length≤a.length by omega)] at hv hd
  rw [List.take_length,List.take_of_length_le hln,va,vb] at hv
  have hcr0:cr=0:=by
   have h1:=jG hd
   have h7:=bQ hd
   rw [ho] at h1
   by_cases c:cr=0
   ·exact c
   ·have:cr=1:=by omega
    subst this
    omega
  subst hcr0
  have hg:gH o=gr (m - n):=pE hd (by omega)
  refine aC yI ?_
  (refine aU rfl (sN (l:=o) (c:=a.length) ho.symm (by omega) (by omega) aY) ?_;rintro _ _ _ ⟨rfl,rfl,rfl⟩;refine aL ?_)
  repeat refine lY ?_
  have hle2:=yR (o:=o)
  rw [hg] at hle2 ⊢
  refine aH (by first|exact .inl rfl|exact .inr rfl) rfl rfl _ _ bX bV (⟨rfl,_,_,rfl,⟨by omega, .inl (Ok.mk _ _)⟩,rfl⟩)
theorem tY {n:Nat} (hn:n≤18446744073709551615):CD Tryz.prog 127 [.int .u64 n] X w0 M0 I0 (GrP n M0 I0):=by
 refine eD Tryz.func127 rfl Tryz.ntmps127 rfl ?_
 repeat refine lY ?_
 refine pR 181 1 ?_
 refine eO [] rfl (fun k G M I=>∃(m:Nat) (a:Option Addr) (c':Nat) (xs:List Int),m≤n∧k=m∧(0 < m→xs.length≤2 - (gr m).length+1)∧xs++gr m=gr n∧xs.length≤3∧G=[(0, .int .u64 m),(3, .slice a xs.length c')]∧M= .row a xs.length c' (recs eG xs) 181 1::M0∧I0=I) (n) _ _ _ dS bX bV (⟨n,none,0,[],by omega,rfl,by simp,by simp,by simp,rfl,rfl,rfl⟩) ?_
 rintro k G M I ⟨m,a,c',xs,hm,rfl,_,hxs,hx3,rfl,rfl,rfl⟩
 have h3:(gr n).length≤3:=lQ (by omega)
 have h4:xs.length+(gr k).length≤3:=by rw [←hxs] at h3;simpa using h3
 repeat' (first|refine lY ?_|refine aQ rfl (fun h=>?_) (fun h=>?_)|refine aR rfl rfl (fun h=>?_) (fun h=>?_)|fail)
 ·have hk:k≠0:=by omega
  have e1:((k:Int)).tmod 1000000000=((k % 1000000000:Nat):Int):=by rw [Int.tmod_eq_emod_of_nonneg (by omega)];omega
  have e2:((k:Int)).tdiv 1000000000=((k / 1000000000:Nat):Int):=by rw [Int.tdiv_eq_ediv_of_nonneg (by omega)];omega
  rw [e1]
  have hgk:=wQ hk
  have h5:(gr k).length=(gr (k / 1000000000)).length+1:=by rw [hgk];simp
  repeat refine lY ?_
  refine lL (cs:=recs eG [((k % 1000000000:Nat):Int)]) ([.int .u32 ((k % 1000000000:Nat):Int)]) rfl (fun b2=>?_)
  (refine oO (ys:=[((k % 1000000000:Nat):Int)]) 1 rfl rfl rfl ?_ (by decide) rfl (by omega) (by omega) rfl rfl ?_;(· first|exact Src.blk aY|exact Src.row aY|exact Src.imm aY (by first|assumption|exact .inl (Ok.mk _ _)));intro a2 c2;refine aL ?_)
  repeat refine lY ?_
  rw [e2]
  refine bY (k / 1000000000) _ _ _ (by first|omega|(simp only [List.length_append,List.length_cons,List.length_nil];omega)) dS bX bV (⟨k / 1000000000,a2,c2,_,by omega,rfl,by intro _;simp;omega,by rw [List.append_assoc];rw [hgk] at hxs;exact hxs,by simp;omega,rfl,rfl,rfl⟩)
 ·have h0:k=0:=by omega
  subst h0
  rw [fO,List.append_nil] at hxs
  subst hxs
  refine aOE (fun w hw=>And.intro (hw.rowLe (List.Mem.head _)) ((hw.rowS (List.Mem.head _)).2.imp id And.right)) (fun hc=>?_)
  refine uR yI ?_
  refine aH (by first|exact .inl rfl|exact .inr rfl) rfl rfl _ _ bX bV (⟨rfl,_,_,rfl,hc,rfl⟩)
end
end Go.Proofs.YtgpkjcmipiodcaaGreat
