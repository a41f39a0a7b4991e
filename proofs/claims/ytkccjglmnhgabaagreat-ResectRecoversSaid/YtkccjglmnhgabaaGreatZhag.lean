/- The types and functions of this seat, as instances. Written by facts.py. A premise that no search takes for another; looks alone. The walk, kept once. integer: magnitudes: at, trim, plus, minus, compare, times, short -/
import Derived.Test.YtkccjglmnhgabaaGreatProg
import Derived.Test.YtkccjglmnhgabaaGreatZhac
import Derived.KernelRfl
import Derived.Test.YtkccjglmnhgabaaGreatZhae
import Derived.Test.YtkccjglmnhgabaaGreatZhaf
set_option linter.unusedSimpArgs false
set_option linter.unusedVariables false
set_option maxRecDepth 100000
set_option maxHeartbeats 4000000
namespace Go.Proofs.YtkccjglmnhgabaaGreat
open Go Go.Fx
instance : IntTy Tryz.prog 2 .i64 := ⟨Tryz.underlying2⟩
instance : ScalarTy Tryz.prog 3 := ⟨⟨_, Tryz.underlying3, (by intro _ h; cases h), (by intro _ _ h; cases h)⟩, by kernel_rfl⟩
instance : IntTy Tryz.prog 3 .i64 := ⟨Tryz.underlying3⟩
instance : ElemTy Tryz.prog 3 1 8 [.int .i64 0] := ⟨by kernel_rfl, rfl⟩
instance : ScalarTy Tryz.prog 4 := ⟨⟨_, Tryz.underlying4, (by intro _ h; cases h), (by intro _ _ h; cases h)⟩, by kernel_rfl⟩
instance : BoolTy Tryz.prog 4 := ⟨Tryz.underlying4⟩
instance : ScalarTy Tryz.prog 22 := ⟨⟨_, Tryz.underlying22, (by intro _ h; cases h), (by intro _ _ h; cases h)⟩, by kernel_rfl⟩
instance : IntTy Tryz.prog 22 .i8 := ⟨Tryz.underlying22⟩
instance : AggTy Tryz.prog 23 4 := ⟨.inr ⟨_, _, Tryz.underlying23⟩, by kernel_rfl⟩
instance : ArrTy Tryz.prog 23 4 22 1 := ⟨Tryz.underlying23, by kernel_rfl⟩
instance : ElemTy Tryz.prog 23 4 4 [.int .i8 0, .int .i8 0, .int .i8 0, .int .i8 0] := ⟨by kernel_rfl, rfl⟩
instance : AggTy Tryz.prog 24 12 := ⟨.inr ⟨_, _, Tryz.underlying24⟩, by kernel_rfl⟩
instance : ArrTy Tryz.prog 24 3 23 4 := ⟨Tryz.underlying24, by kernel_rfl⟩
instance : SliceTy Tryz.prog 25 40 3 := ⟨Tryz.underlying25, by kernel_rfl⟩
instance : SliceTy Tryz.prog 27 39 1 := ⟨Tryz.underlying27, by kernel_rfl⟩
instance : ScalarTy Tryz.prog 28 := ⟨⟨_, Tryz.underlying28, (by intro _ h; cases h), (by intro _ _ h; cases h)⟩, by kernel_rfl⟩
instance : SliceTy Tryz.prog 28 39 1 := ⟨Tryz.underlying28, by kernel_rfl⟩
instance : ScalarTy Tryz.prog 29 := ⟨⟨_, Tryz.underlying29, (by intro _ h; cases h), (by intro _ _ h; cases h)⟩, by kernel_rfl⟩
instance : SliceTy Tryz.prog 29 41 12 := ⟨Tryz.underlying29, by kernel_rfl⟩
instance : ScalarTy Tryz.prog 30 := ⟨⟨_, Tryz.underlying30, (by intro _ h; cases h), (by intro _ _ h; cases h)⟩, by kernel_rfl⟩
instance : SliceTy Tryz.prog 30 43 8 := ⟨Tryz.underlying30, by kernel_rfl⟩
instance : FieldAt Tryz.prog 32 0 0 29 1 := ⟨⟨_, _, Tryz.underlying32, rfl, rfl, rfl⟩, by kernel_rfl⟩
instance : FieldAt Tryz.prog 32 1 1 30 1 := ⟨⟨_, _, Tryz.underlying32, rfl, rfl, rfl⟩, by kernel_rfl⟩
instance : ElemTy Tryz.prog 32 2 48 [.slice none 0 0, .slice none 0 0] := ⟨by kernel_rfl, rfl⟩
instance : ScalarTy Tryz.prog 33 := ⟨⟨_, Tryz.underlying33, (by intro _ h; cases h), (by intro _ _ h; cases h)⟩, by kernel_rfl⟩
instance : SliceTy Tryz.prog 33 179 1 := ⟨Tryz.underlying33, by kernel_rfl⟩
instance : AggTy Tryz.prog 35 2 := ⟨.inl ⟨_, Tryz.underlying35⟩, by kernel_rfl⟩
instance : StructTy Tryz.prog 35 [(0, 1), (1, 1)] [.bool false, .slice none 0 0] := ⟨⟨_, Tryz.underlying35, by kernel_rfl⟩, by kernel_rfl⟩
instance : FieldAt Tryz.prog 35 0 0 4 1 := ⟨⟨_, _, Tryz.underlying35, rfl, rfl, rfl⟩, by kernel_rfl⟩
instance : FieldAt Tryz.prog 35 1 1 33 1 := ⟨⟨_, _, Tryz.underlying35, rfl, rfl, rfl⟩, by kernel_rfl⟩
instance : ElemTy Tryz.prog 35 2 32 [.bool false, .slice none 0 0] := ⟨by kernel_rfl, rfl⟩
instance : AggTy Tryz.prog 37 4 := ⟨.inl ⟨_, Tryz.underlying37⟩, by kernel_rfl⟩
instance : StructTy Tryz.prog 37 [(0, 2), (2, 2)] [.bool false, .slice none 0 0, .bool false, .slice none 0 0] := ⟨⟨_, Tryz.underlying37, by kernel_rfl⟩, by kernel_rfl⟩
instance : FieldAt Tryz.prog 37 0 0 35 2 := ⟨⟨_, _, Tryz.underlying37, rfl, rfl, rfl⟩, by kernel_rfl⟩
instance : FieldAt Tryz.prog 37 1 2 35 2 := ⟨⟨_, _, Tryz.underlying37, rfl, rfl, rfl⟩, by kernel_rfl⟩
instance : ElemTy Tryz.prog 37 4 64 [.bool false, .slice none 0 0, .bool false, .slice none 0 0] := ⟨by kernel_rfl, rfl⟩
instance : ScalarTy Tryz.prog 39 := ⟨⟨_, Tryz.underlying39, (by intro _ h; cases h), (by intro _ _ h; cases h)⟩, by kernel_rfl⟩
instance : SliceTy Tryz.prog 39 37 4 := ⟨Tryz.underlying39, by kernel_rfl⟩
instance : ElemTy Tryz.prog 39 1 24 [.slice none 0 0] := ⟨by kernel_rfl, rfl⟩
instance : AggTy Tryz.prog 40 3 := ⟨.inr ⟨_, _, Tryz.underlying40⟩, by kernel_rfl⟩
instance : ArrTy Tryz.prog 40 3 22 1 := ⟨Tryz.underlying40, by kernel_rfl⟩
instance : ElemTy Tryz.prog 40 3 3 [.int .i8 0, .int .i8 0, .int .i8 0] := ⟨by kernel_rfl, rfl⟩
instance : AggTy Tryz.prog 41 12 := ⟨.inr ⟨_, _, Tryz.underlying41⟩, by kernel_rfl⟩
instance : ArrTy Tryz.prog 41 3 37 4 := ⟨Tryz.underlying41, by kernel_rfl⟩
instance : ElemTy Tryz.prog 41 12 192 [.bool false, .slice none 0 0, .bool false, .slice none 0 0, .bool false, .slice none 0 0, .bool false, .slice none 0 0, .bool false, .slice none 0 0, .bool false, .slice none 0 0] := ⟨by kernel_rfl, rfl⟩
instance : AggTy Tryz.prog 43 8 := ⟨.inl ⟨_, Tryz.underlying43⟩, by kernel_rfl⟩
instance : StructTy Tryz.prog 43 [(0, 4), (4, 4)] [.bool false, .slice none 0 0, .bool false, .slice none 0 0, .bool false, .slice none 0 0, .bool false, .slice none 0 0] := ⟨⟨_, Tryz.underlying43, by kernel_rfl⟩, by kernel_rfl⟩
instance : FieldAt Tryz.prog 43 0 0 37 4 := ⟨⟨_, _, Tryz.underlying43, rfl, rfl, rfl⟩, by kernel_rfl⟩
instance : FieldAt Tryz.prog 43 1 4 37 4 := ⟨⟨_, _, Tryz.underlying43, rfl, rfl, rfl⟩, by kernel_rfl⟩
instance : ElemTy Tryz.prog 43 8 128 [.bool false, .slice none 0 0, .bool false, .slice none 0 0, .bool false, .slice none 0 0, .bool false, .slice none 0 0] := ⟨by kernel_rfl, rfl⟩
instance : SliceTy Tryz.prog 53 3 1 := ⟨Tryz.underlying53, by kernel_rfl⟩
instance : AggTy Tryz.prog 89 24 := ⟨.inr ⟨_, _, Tryz.underlying89⟩, by kernel_rfl⟩
instance : ArrTy Tryz.prog 89 3 43 8 := ⟨Tryz.underlying89, by kernel_rfl⟩
instance : ElemTy Tryz.prog 89 24 384 [.bool false, .slice none 0 0, .bool false, .slice none 0 0, .bool false, .slice none 0 0, .bool false, .slice none 0 0, .bool false, .slice none 0 0, .bool false, .slice none 0 0, .bool false, .slice none 0 0, .bool false, .slice none 0 0, .bool false, .slice none 0 0, .bool false, .slice none 0 0, .bool false, .slice none 0 0, .bool false, .slice none 0 0] := ⟨by kernel_rfl, rfl⟩
instance : AggTy Tryz.prog 139 12 := ⟨.inl ⟨_, Tryz.underlying139⟩, by kernel_rfl⟩
instance : StructTy Tryz.prog 139 [(0, 4), (4, 8)] [.bool false, .slice none 0 0, .bool false, .slice none 0 0, .bool false, .slice none 0 0, .bool false, .slice none 0 0, .bool false, .slice none 0 0, .bool false, .slice none 0 0] := ⟨⟨_, Tryz.underlying139, by kernel_rfl⟩, by kernel_rfl⟩
instance : FieldAt Tryz.prog 139 0 0 37 4 := ⟨⟨_, _, Tryz.underlying139, rfl, rfl, rfl⟩, by kernel_rfl⟩
instance : FieldAt Tryz.prog 139 1 4 43 8 := ⟨⟨_, _, Tryz.underlying139, rfl, rfl, rfl⟩, by kernel_rfl⟩
instance : ElemTy Tryz.prog 139 12 192 [.bool false, .slice none 0 0, .bool false, .slice none 0 0, .bool false, .slice none 0 0, .bool false, .slice none 0 0, .bool false, .slice none 0 0, .bool false, .slice none 0 0] := ⟨by kernel_rfl, rfl⟩
instance : ArrTy Tryz.prog 141 2 139 12 := ⟨Tryz.underlying141, by kernel_rfl⟩
instance : ElemTy Tryz.prog 141 24 384 [.bool false, .slice none 0 0, .bool false, .slice none 0 0, .bool false, .slice none 0 0, .bool false, .slice none 0 0, .bool false, .slice none 0 0, .bool false, .slice none 0 0, .bool false, .slice none 0 0, .bool false, .slice none 0 0, .bool false, .slice none 0 0, .bool false, .slice none 0 0, .bool false, .slice none 0 0, .bool false, .slice none 0 0] := ⟨by kernel_rfl, rfl⟩
instance : ScalarTy Tryz.prog 171 := ⟨⟨_, Tryz.underlying171, (by intro _ h; cases h), (by intro _ _ h; cases h)⟩, by kernel_rfl⟩
instance : IntTy Tryz.prog 171 .u64 := ⟨Tryz.underlying171⟩
instance : ScalarTy Tryz.prog 179 := ⟨⟨_, Tryz.underlying179, (by intro _ h; cases h), (by intro _ _ h; cases h)⟩, by kernel_rfl⟩
instance : IntTy Tryz.prog 179 .u32 := ⟨Tryz.underlying179⟩
instance : ElemTy Tryz.prog 179 1 4 [.int .u32 0] := ⟨by kernel_rfl, rfl⟩
instance : FnOk Tryz.prog 3 := ⟨_, Tryz.func3, by kernel_rfl, by kernel_rfl⟩
instance : FnOk Tryz.prog 11 := ⟨_, Tryz.func11, by kernel_rfl, by kernel_rfl⟩
instance : FnOk Tryz.prog 12 := ⟨_, Tryz.func12, by kernel_rfl, by kernel_rfl⟩
instance : FnOk Tryz.prog 13 := ⟨_, Tryz.func13, by kernel_rfl, by kernel_rfl⟩
instance : FnOk Tryz.prog 14 := ⟨_, Tryz.func14, by kernel_rfl, by kernel_rfl⟩
instance : FnOk Tryz.prog 15 := ⟨_, Tryz.func15, by kernel_rfl, by kernel_rfl⟩
instance : FnOk Tryz.prog 16 := ⟨_, Tryz.func16, by kernel_rfl, by kernel_rfl⟩
instance : FnOk Tryz.prog 33 := ⟨_, Tryz.func33, by kernel_rfl, by kernel_rfl⟩
instance : FnOk Tryz.prog 36 := ⟨_, Tryz.func36, by kernel_rfl, by kernel_rfl⟩
instance : FnOk Tryz.prog 37 := ⟨_, Tryz.func37, by kernel_rfl, by kernel_rfl⟩
instance : FnOk Tryz.prog 38 := ⟨_, Tryz.func38, by kernel_rfl, by kernel_rfl⟩
instance : FnOk Tryz.prog 39 := ⟨_, Tryz.func39, by kernel_rfl, by kernel_rfl⟩
instance : FnOk Tryz.prog 40 := ⟨_, Tryz.func40, by kernel_rfl, by kernel_rfl⟩
instance : FnOk Tryz.prog 41 := ⟨_, Tryz.func41, by kernel_rfl, by kernel_rfl⟩
instance : FnOk Tryz.prog 42 := ⟨_, Tryz.func42, by kernel_rfl, by kernel_rfl⟩
instance : FnOk Tryz.prog 43 := ⟨_, Tryz.func43, by kernel_rfl, by kernel_rfl⟩
instance : FnOk Tryz.prog 44 := ⟨_, Tryz.func44, by kernel_rfl, by kernel_rfl⟩
instance : FnOk Tryz.prog 45 := ⟨_, Tryz.func45, by kernel_rfl, by kernel_rfl⟩
instance : FnOk Tryz.prog 46 := ⟨_, Tryz.func46, by kernel_rfl, by kernel_rfl⟩
instance : FnOk Tryz.prog 47 := ⟨_, Tryz.func47, by kernel_rfl, by kernel_rfl⟩
instance : FnOk Tryz.prog 48 := ⟨_, Tryz.func48, by kernel_rfl, by kernel_rfl⟩
instance : FnOk Tryz.prog 49 := ⟨_, Tryz.func49, by kernel_rfl, by kernel_rfl⟩
instance : FnOk Tryz.prog 50 := ⟨_, Tryz.func50, by kernel_rfl, by kernel_rfl⟩
instance : FnOk Tryz.prog 51 := ⟨_, Tryz.func51, by kernel_rfl, by kernel_rfl⟩
instance : FnOk Tryz.prog 52 := ⟨_, Tryz.func52, by kernel_rfl, by kernel_rfl⟩
instance : FnOk Tryz.prog 53 := ⟨_, Tryz.func53, by kernel_rfl, by kernel_rfl⟩
instance : FnOk Tryz.prog 54 := ⟨_, Tryz.func54, by kernel_rfl, by kernel_rfl⟩
instance : FnOk Tryz.prog 55 := ⟨_, Tryz.func55, by kernel_rfl, by kernel_rfl⟩
instance : FnOk Tryz.prog 56 := ⟨_, Tryz.func56, by kernel_rfl, by kernel_rfl⟩
instance : FnOk Tryz.prog 59 := ⟨_, Tryz.func59, by kernel_rfl, by kernel_rfl⟩
instance : FnOk Tryz.prog 67 := ⟨_, Tryz.func67, by kernel_rfl, by kernel_rfl⟩
instance : FnOk Tryz.prog 72 := ⟨_, Tryz.func72, by kernel_rfl, by kernel_rfl⟩
instance : FnOk Tryz.prog 74 := ⟨_, Tryz.func74, by kernel_rfl, by kernel_rfl⟩
instance : FnOk Tryz.prog 76 := ⟨_, Tryz.func76, by kernel_rfl, by kernel_rfl⟩
instance : FnOk Tryz.prog 86 := ⟨_, Tryz.func86, by kernel_rfl, by kernel_rfl⟩
instance : FnOk Tryz.prog 87 := ⟨_, Tryz.func87, by kernel_rfl, by kernel_rfl⟩
instance : FnOk Tryz.prog 88 := ⟨_, Tryz.func88, by kernel_rfl, by kernel_rfl⟩
instance : FnOk Tryz.prog 89 := ⟨_, Tryz.func89, by kernel_rfl, by kernel_rfl⟩
instance : FnOk Tryz.prog 90 := ⟨_, Tryz.func90, by kernel_rfl, by kernel_rfl⟩
instance : FnOk Tryz.prog 91 := ⟨_, Tryz.func91, by kernel_rfl, by kernel_rfl⟩
instance : FnOk Tryz.prog 92 := ⟨_, Tryz.func92, by kernel_rfl, by kernel_rfl⟩
instance : FnOk Tryz.prog 93 := ⟨_, Tryz.func93, by kernel_rfl, by kernel_rfl⟩
instance : FnOk Tryz.prog 94 := ⟨_, Tryz.func94, by kernel_rfl, by kernel_rfl⟩
instance : FnOk Tryz.prog 95 := ⟨_, Tryz.func95, by kernel_rfl, by kernel_rfl⟩
instance : FnOk Tryz.prog 96 := ⟨_, Tryz.func96, by kernel_rfl, by kernel_rfl⟩
instance : FnOk Tryz.prog 97 := ⟨_, Tryz.func97, by kernel_rfl, by kernel_rfl⟩
instance : FnOk Tryz.prog 98 := ⟨_, Tryz.func98, by kernel_rfl, by kernel_rfl⟩
instance : FnOk Tryz.prog 99 := ⟨_, Tryz.func99, by kernel_rfl, by kernel_rfl⟩
instance : FnOk Tryz.prog 100 := ⟨_, Tryz.func100, by kernel_rfl, by kernel_rfl⟩
instance : FnOk Tryz.prog 101 := ⟨_, Tryz.func101, by kernel_rfl, by kernel_rfl⟩
instance : FnOk Tryz.prog 102 := ⟨_, Tryz.func102, by kernel_rfl, by kernel_rfl⟩
instance : FnOk Tryz.prog 103 := ⟨_, Tryz.func103, by kernel_rfl, by kernel_rfl⟩
instance : FnOk Tryz.prog 104 := ⟨_, Tryz.func104, by kernel_rfl, by kernel_rfl⟩
instance : FnOk Tryz.prog 105 := ⟨_, Tryz.func105, by kernel_rfl, by kernel_rfl⟩
instance : FnOk Tryz.prog 106 := ⟨_, Tryz.func106, by kernel_rfl, by kernel_rfl⟩
instance : FnOk Tryz.prog 107 := ⟨_, Tryz.func107, by kernel_rfl, by kernel_rfl⟩
instance : FnOk Tryz.prog 108 := ⟨_, Tryz.func108, by kernel_rfl, by kernel_rfl⟩
instance : FnOk Tryz.prog 109 := ⟨_, Tryz.func109, by kernel_rfl, by kernel_rfl⟩
instance : FnOk Tryz.prog 110 := ⟨_, Tryz.func110, by kernel_rfl, by kernel_rfl⟩
instance : FnOk Tryz.prog 111 := ⟨_, Tryz.func111, by kernel_rfl, by kernel_rfl⟩
instance : FnOk Tryz.prog 113 := ⟨_, Tryz.func113, by kernel_rfl, by kernel_rfl⟩
instance : FnOk Tryz.prog 114 := ⟨_, Tryz.func114, by kernel_rfl, by kernel_rfl⟩
instance : FnOk Tryz.prog 116 := ⟨_, Tryz.func116, by kernel_rfl, by kernel_rfl⟩
instance : FnOk Tryz.prog 117 := ⟨_, Tryz.func117, by kernel_rfl, by kernel_rfl⟩
instance : FnOk Tryz.prog 124 := ⟨_, Tryz.func124, by kernel_rfl, by kernel_rfl⟩
instance : FnOk Tryz.prog 126 := ⟨_, Tryz.func126, by kernel_rfl, by kernel_rfl⟩
instance : FnOk Tryz.prog 127 := ⟨_, Tryz.func127, by kernel_rfl, by kernel_rfl⟩
instance : FnOk Tryz.prog 128 := ⟨_, Tryz.func128, by kernel_rfl, by kernel_rfl⟩
instance : FnOk Tryz.prog 131 := ⟨_, Tryz.func131, by kernel_rfl, by kernel_rfl⟩
instance : FnOk Tryz.prog 132 := ⟨_, Tryz.func132, by kernel_rfl, by kernel_rfl⟩
instance : FnOk Tryz.prog 136 := ⟨_, Tryz.func136, by kernel_rfl, by kernel_rfl⟩
instance : FnOk Tryz.prog 137 := ⟨_, Tryz.func137, by kernel_rfl, by kernel_rfl⟩
instance : FnOk Tryz.prog 138 := ⟨_, Tryz.func138, by kernel_rfl, by kernel_rfl⟩
instance : FnOk Tryz.prog 139 := ⟨_, Tryz.func139, by kernel_rfl, by kernel_rfl⟩
instance : FnOk Tryz.prog 140 := ⟨_, Tryz.func140, by kernel_rfl, by kernel_rfl⟩
instance : FnOk Tryz.prog 143 := ⟨_, Tryz.func143, by kernel_rfl, by kernel_rfl⟩
instance : FnOk Tryz.prog 144 := ⟨_, Tryz.func144, by kernel_rfl, by kernel_rfl⟩
instance : FnOk Tryz.prog 145 := ⟨_, Tryz.func145, by kernel_rfl, by kernel_rfl⟩
instance : FnOk Tryz.prog 146 := ⟨_, Tryz.func146, by kernel_rfl, by kernel_rfl⟩
instance : FnOk Tryz.prog 147 := ⟨_, Tryz.func147, by kernel_rfl, by kernel_rfl⟩
instance : FnOk Tryz.prog 148 := ⟨_, Tryz.func148, by kernel_rfl, by kernel_rfl⟩
instance : FnOk Tryz.prog 149 := ⟨_, Tryz.func149, by kernel_rfl, by kernel_rfl⟩
instance : FnOk Tryz.prog 150 := ⟨_, Tryz.func150, by kernel_rfl, by kernel_rfl⟩
instance : FnOk Tryz.prog 151 := ⟨_, Tryz.func151, by kernel_rfl, by kernel_rfl⟩
instance : FnOk Tryz.prog 152 := ⟨_, Tryz.func152, by kernel_rfl, by kernel_rfl⟩
instance : FnOk Tryz.prog 153 := ⟨_, Tryz.func153, by kernel_rfl, by kernel_rfl⟩
instance : FnOk Tryz.prog 154 := ⟨_, Tryz.func154, by kernel_rfl, by kernel_rfl⟩
instance : FnOk Tryz.prog 155 := ⟨_, Tryz.func155, by kernel_rfl, by kernel_rfl⟩
instance : FnOk Tryz.prog 156 := ⟨_, Tryz.func156, by kernel_rfl, by kernel_rfl⟩
instance : FnOk Tryz.prog 157 := ⟨_, Tryz.func157, by kernel_rfl, by kernel_rfl⟩
instance : FnOk Tryz.prog 158 := ⟨_, Tryz.func158, by kernel_rfl, by kernel_rfl⟩
instance : FnOk Tryz.prog 159 := ⟨_, Tryz.func159, by kernel_rfl, by kernel_rfl⟩
instance : FnOk Tryz.prog 164 := ⟨_, Tryz.func164, by kernel_rfl, by kernel_rfl⟩
instance : FnOk Tryz.prog 165 := ⟨_, Tryz.func165, by kernel_rfl, by kernel_rfl⟩
instance : FnOk Tryz.prog 166 := ⟨_, Tryz.func166, by kernel_rfl, by kernel_rfl⟩
instance : FnOk Tryz.prog 167 := ⟨_, Tryz.func167, by kernel_rfl, by kernel_rfl⟩
instance : FnOk Tryz.prog 168 := ⟨_, Tryz.func168, by kernel_rfl, by kernel_rfl⟩
instance : FnOk Tryz.prog 169 := ⟨_, Tryz.func169, by kernel_rfl, by kernel_rfl⟩
instance : FnOk Tryz.prog 170 := ⟨_, Tryz.func170, by kernel_rfl, by kernel_rfl⟩
instance : FnOk Tryz.prog 171 := ⟨_, Tryz.func171, by kernel_rfl, by kernel_rfl⟩
instance : FnOk Tryz.prog 172 := ⟨_, Tryz.func172, by kernel_rfl, by kernel_rfl⟩
instance : FnOk Tryz.prog 174 := ⟨_, Tryz.func174, by kernel_rfl, by kernel_rfl⟩
instance : FnOk Tryz.prog 175 := ⟨_, Tryz.func175, by kernel_rfl, by kernel_rfl⟩
instance : FnOk Tryz.prog 176 := ⟨_, Tryz.func176, by kernel_rfl, by kernel_rfl⟩
instance : FnOk Tryz.prog 177 := ⟨_, Tryz.func177, by kernel_rfl, by kernel_rfl⟩
instance : FnOk Tryz.prog 178 := ⟨_, Tryz.func178, by kernel_rfl, by kernel_rfl⟩
instance : FnOk Tryz.prog 179 := ⟨_, Tryz.func179, by kernel_rfl, by kernel_rfl⟩
instance : FnOk Tryz.prog 180 := ⟨_, Tryz.func180, by kernel_rfl, by kernel_rfl⟩
instance : FnOk Tryz.prog 182 := ⟨_, Tryz.func182, by kernel_rfl, by kernel_rfl⟩
instance : FnOk Tryz.prog 183 := ⟨_, Tryz.func183, by kernel_rfl, by kernel_rfl⟩
instance : FnOk Tryz.prog 184 := ⟨_, Tryz.func184, by kernel_rfl, by kernel_rfl⟩
instance : FnOk Tryz.prog 185 := ⟨_, Tryz.func185, by kernel_rfl, by kernel_rfl⟩
instance : FnOk Tryz.prog 186 := ⟨_, Tryz.func186, by kernel_rfl, by kernel_rfl⟩
instance : FnOk Tryz.prog 198 := ⟨_, Tryz.func198, by kernel_rfl, by kernel_rfl⟩
instance : FnOk Tryz.prog 199 := ⟨_, Tryz.func199, by kernel_rfl, by kernel_rfl⟩
instance : FnOk Tryz.prog 200 := ⟨_, Tryz.func200, by kernel_rfl, by kernel_rfl⟩
instance : FnOk Tryz.prog 201 := ⟨_, Tryz.func201, by kernel_rfl, by kernel_rfl⟩
instance : FnOk Tryz.prog 202 := ⟨_, Tryz.func202, by kernel_rfl, by kernel_rfl⟩
instance : FnOk Tryz.prog 203 := ⟨_, Tryz.func203, by kernel_rfl, by kernel_rfl⟩
instance : FnOk Tryz.prog 204 := ⟨_, Tryz.func204, by kernel_rfl, by kernel_rfl⟩
instance : FnOk Tryz.prog 205 := ⟨_, Tryz.func205, by kernel_rfl, by kernel_rfl⟩
instance : FnOk Tryz.prog 206 := ⟨_, Tryz.func206, by kernel_rfl, by kernel_rfl⟩
instance : FnOk Tryz.prog 207 := ⟨_, Tryz.func207, by kernel_rfl, by kernel_rfl⟩
instance : FnOk Tryz.prog 208 := ⟨_, Tryz.func208, by kernel_rfl, by kernel_rfl⟩
instance : FnOk Tryz.prog 209 := ⟨_, Tryz.func209, by kernel_rfl, by kernel_rfl⟩
instance : FnOk Tryz.prog 210 := ⟨_, Tryz.func210, by kernel_rfl, by kernel_rfl⟩
instance : FnOk Tryz.prog 211 := ⟨_, Tryz.func211, by kernel_rfl, by kernel_rfl⟩
instance : FnOk Tryz.prog 212 := ⟨_, Tryz.func212, by kernel_rfl, by kernel_rfl⟩
instance : FnOk Tryz.prog 213 := ⟨_, Tryz.func213, by kernel_rfl, by kernel_rfl⟩
instance : FnOk Tryz.prog 219 := ⟨_, Tryz.func219, by kernel_rfl, by kernel_rfl⟩
instance : FnOk Tryz.prog 220 := ⟨_, Tryz.func220, by kernel_rfl, by kernel_rfl⟩
theorem mixed : Tryz.prog.follows .mixedOrders = true := by kernel_rfl
end Go.Proofs.YtkccjglmnhgabaaGreat
namespace Go.Fx
structure BoxP (g : Prop) : Prop where
 out : g
section
variable {P : Program} {n : Nat} {Q : Exit → Act → World → Prop} {G : Env} {X : List Nat} {w0 : World} {M : List Ent} {I : List aZ} {ops l : List Oper} {m : Mode} {c : Code} {e : Exit}
structure Br (b : Bool) (p q : Prop) : Prop where
 y : b = true → p
 n : b = false → q
theorem Br.dec {p : Prop} [Decidable p] : Br (B p) p (¬ p) := ⟨fun h => Decidable.byContradiction (fun hn => by rw [bN hn] at h; cases h), fun h hp => by rw [dG hp] at h; cases h⟩
theorem Br.raw {b : Bool} : Br b (b = true) (b = false) := ⟨id, id⟩
theorem Br.lit : Br true True False := ⟨fun _ => True.intro, fun h => by cases h⟩
theorem Br.lit2 : Br false False True := ⟨fun h => (by cases h), fun _ => True.intro⟩
theorem aU {c : Operand} {x y : Code} {b : Bool} {p q : Prop} (hc : ev G c = some (.bool b)) (h1 : p → TD P n x Q G X w0 M I) (h2 : q → TD P n y Q G X w0 M I) (hb : Br b p q := by first | exact Br.dec | exact Br.raw | fail) : TD P n (.cond c x y) Q G X w0 M I :=
 nY hc (fun e => h1 (hb.y e)) (fun e => h2 (hb.n e))
theorem aT {op : Op} {ty : TypeId} {pos : String} {af : Array Edge} {d : Option Nat} {b : Bool} {p q : Prop} {g : Nat × Bool} {t : Nat} (hj : nT ops g.1 = some t) (hv : lk G t = some (.bool b))
  (h1 : p → RD P n ops Q m (⟨d, op, ty, pos, af, some g⟩ :: l) ((t, .bool true) :: G) X w0 M I) (h2 : q → RD P n ops Q m (⟨d, op, ty, pos, af, some g⟩ :: l) ((t, .bool false) :: G) X w0 M I) (hb : Br b p q := by first | exact Br.dec | ((fail_if_success exact Br.lit); (fail_if_success exact Br.lit2); exact Br.raw) | fail) :
  RD P n ops Q m (⟨d, op, ty, pos, af, some g⟩ :: l) G X w0 M I := nW hj hv (fun e => h1 (hb.y e)) (fun e => h2 (hb.n e))
end
end Go.Fx
namespace Go.Fx
theorem kK {p g : Prop} (h : g) (w : BoxP g → p := by (intro hh; (first | refine aL ?_ | refine aM ?_ | refine jY ?_ | refine iK ?_ | refine fT ?_ | refine fJ ?_ | refine iJ ?_ | refine iD ?_ | refine fQ ?_ | refine fP ?_ | refine jR ?_ | refine jX ?_ | refine jV ?_ | refine jQ rfl ?_ | refine aI ?_ | (refine gQ ?_; first | refine gW rfl rfl rfl ?_ | (refine gN rfl rfl ?_; refine fG rfl rfl rfl mY ?_) | refine gT rfl rfl (by omega) ?_ | refine gU rfl rfl (by omega) ?_) | (refine cK ?_; refine aH rfl (fun _ => dL rfl) rfl rfl ?_) | refine aH rfl (fun _ => bL rfl) rfl rfl ?_ | (refine gK ?_; first | refine aH rfl (fun _ => bR rfl rfl w_) rfl rfl ?_ | refine aH rfl (fun _ => bQ rfl rfl w_) rfl rfl ?_ | refine aH rfl (fun _ => eU rfl rfl w_) rfl rfl ?_ | refine aH rfl (fun _ => eY rfl rfl (by omega) q_) rfl rfl ?_ | refine aH rfl (fun _ => eX rfl rfl (by omega) rfl) rfl rfl ?_ | refine aH rfl (fun _ => dV rfl rfl) rfl rfl ?_ | refine aH rfl (fun _ => dM rfl rfl) rfl rfl ?_ | refine aH rfl (fun _ => dY rfl rfl) rfl rfl ?_) | (refine cK ?_; first | refine aH rfl (fun _ => eF rfl w_) rfl rfl ?_) | (refine gY ?_; first | refine aH rfl (fun _ => dH rfl w_) rfl rfl ?_) | (refine gP ?_; first | refine aH rfl (fun _ => bS rfl) rfl rfl ?_ | refine aH rfl (fun _ => dS rfl rfl) rfl rfl ?_ | refine aH rfl (fun _ => dP rfl rfl) rfl rfl ?_ | refine aH rfl (fun _ => dW rfl rfl rfl) rfl rfl ?_) | (refine gV ?_; first | refine gM rfl (by decide) rfl rfl ?_ | refine jD rfl (by decide) rfl rfl ?_) | (refine gZ ?_; first | refine aH rfl (fun _ => dF rfl) rfl rfl ?_) | (refine gI ?_; first | refine jC rfl rfl iO rfl rfl ?_ | refine iZ qO rfl rfl iO aW jM rfl rfl ?_ | refine jG qO rfl rfl iO aW jM rfl rfl ?_ | refine aH rfl (fun _ => cB rfl rfl iO) rfl rfl ?_) | (refine gX ?_; first | refine jB qO rfl aW oK rfl rfl ?_ | refine jF qO rfl aW oK rfl rfl ?_ | refine jE qO rfl aW oK rfl rfl ?_ | refine gJ qO rfl aW oK rfl rfl ?_ | refine lQ qO rfl aW jK fU rfl rfl ?_ | refine lN qO rfl aW jK fU rfl rfl ?_ | refine lS qO rfl aW jK fU rfl rfl ?_ | refine kD qO rfl aW jK fU rfl rfl ?_) | (refine gL ?_; first | refine aH rfl (fun _ => bZ rfl rfl) rfl rfl ?_ | refine aH rfl (fun _ => bP rfl) rfl rfl ?_) | (refine iX ?_; first | refine lK rfl rfl rfl nD stC rfl rfl ⟨mY, ?_⟩ | refine iT rfl rfl fU rH nD rM rfl rfl ⟨mY, ?_⟩) | (refine iH ?_; first | refine dE rfl ?_ | refine bY rfl ?_ | refine jS rfl (by omega) ?_ | refine lW rfl (by omega) ?_)); (repeat (first | refine aL ?_ | refine aM ?_ | refine jY ?_ | refine iK ?_ | refine fT ?_ | refine fJ ?_ | refine iJ ?_ | refine iD ?_ | refine fQ ?_ | refine fP ?_ | refine jR ?_ | refine jX ?_ | refine jV ?_ | refine jQ rfl ?_ | refine aI ?_ | (refine gQ ?_; first | refine gW rfl rfl rfl ?_ | (refine gN rfl rfl ?_; refine fG rfl rfl rfl mY ?_) | refine gT rfl rfl (by omega) ?_ | refine gU rfl rfl (by omega) ?_) | (refine cK ?_; refine aH rfl (fun _ => dL rfl) rfl rfl ?_) | refine aH rfl (fun _ => bL rfl) rfl rfl ?_ | (refine gK ?_; first | refine aH rfl (fun _ => bR rfl rfl w_) rfl rfl ?_ | refine aH rfl (fun _ => bQ rfl rfl w_) rfl rfl ?_ | refine aH rfl (fun _ => eU rfl rfl w_) rfl rfl ?_ | refine aH rfl (fun _ => eY rfl rfl (by omega) q_) rfl rfl ?_ | refine aH rfl (fun _ => eX rfl rfl (by omega) rfl) rfl rfl ?_ | refine aH rfl (fun _ => dV rfl rfl) rfl rfl ?_ | refine aH rfl (fun _ => dM rfl rfl) rfl rfl ?_ | refine aH rfl (fun _ => dY rfl rfl) rfl rfl ?_) | (refine cK ?_; first | refine aH rfl (fun _ => eF rfl w_) rfl rfl ?_) | (refine gY ?_; first | refine aH rfl (fun _ => dH rfl w_) rfl rfl ?_) | (refine gP ?_; first | refine aH rfl (fun _ => bS rfl) rfl rfl ?_ | refine aH rfl (fun _ => dS rfl rfl) rfl rfl ?_ | refine aH rfl (fun _ => dP rfl rfl) rfl rfl ?_ | refine aH rfl (fun _ => dW rfl rfl rfl) rfl rfl ?_) | (refine gV ?_; first | refine gM rfl (by decide) rfl rfl ?_ | refine jD rfl (by decide) rfl rfl ?_) | (refine gZ ?_; first | refine aH rfl (fun _ => dF rfl) rfl rfl ?_) | (refine gI ?_; first | refine jC rfl rfl iO rfl rfl ?_ | refine iZ qO rfl rfl iO aW jM rfl rfl ?_ | refine jG qO rfl rfl iO aW jM rfl rfl ?_ | refine aH rfl (fun _ => cB rfl rfl iO) rfl rfl ?_) | (refine gX ?_; first | refine jB qO rfl aW oK rfl rfl ?_ | refine jF qO rfl aW oK rfl rfl ?_ | refine jE qO rfl aW oK rfl rfl ?_ | refine gJ qO rfl aW oK rfl rfl ?_ | refine lQ qO rfl aW jK fU rfl rfl ?_ | refine lN qO rfl aW jK fU rfl rfl ?_ | refine lS qO rfl aW jK fU rfl rfl ?_ | refine kD qO rfl aW jK fU rfl rfl ?_) | (refine gL ?_; first | refine aH rfl (fun _ => bZ rfl rfl) rfl rfl ?_ | refine aH rfl (fun _ => bP rfl) rfl rfl ?_) | (refine iX ?_; first | refine lK rfl rfl rfl nD stC rfl rfl ⟨mY, ?_⟩ | refine iT rfl rfl fU rH nD rM rfl rfl ⟨mY, ?_⟩) | (refine iH ?_; first | refine dE rfl ?_ | refine bY rfl ?_ | refine jS rfl (by omega) ?_ | refine lW rfl (by omega) ?_))); exact hh.out)) : p := w ⟨h⟩
end Go.Fx
namespace Go.Proofs.YtkccjglmnhgabaaGreat
open Go Go.Fx
abbrev eG : Int → List Value := eI .u32
theorem tZ (l : List Int) (i : Nat) : gt l (i : Int) = l.getD i 0 := aPZ l i
theorem aHD {l : List Int} {i : Int} (h : (l.length : Int) ≤ i) : gt l i = 0 := by
 unfold gt
 simp [List.getD, show l.length ≤ i.toNat by omega]
theorem oH (l : List Int) (i : Nat) (x : Int) : st l (i : Int) x = l.set i x := rfl
theorem Dig.gt {l : List Int} (h : Dig l) (i : Int) : 0 ≤ gt l i ∧ gt l i < 1000000000 := h.getD i.toNat
section
variable {X : List Nat} {w0 : World} {M0 : List Ent} {I0 : List aZ}
theorem aFY {q : Option Addr} {l : List Int} {n c : Nat} {i : Int} (hn : n = l.length) (hi : 0 ≤ i) (hl : bI q (recs eG l) ∈ I0) :
  CD Tryz.prog 213 [.slice q n c, .int .i64 i] X w0 M0 I0 (fun v M I => M0 = M ∧ I0 = I ∧ v = .int .u32 (gt l i)) := by
 subst hn
 refine fC Tryz.func213 rfl Tryz.ntmps213 rfl ?_
 repeat' (first | refine kK ?_ | refine aU rfl (fun h => ?_) (fun h => ?_) | refine aT rfl rfl (fun h => ?_) (fun h => ?_) | fail)
 ·refine aQ (by first | exact .inl rfl | exact .inr rfl) rfl rfl _ _ dK dI (⟨rfl, rfl, rfl⟩)
 ·refine aQ (by first | exact .inl rfl | exact .inr rfl) rfl rfl _ _ dK dI (⟨rfl, rfl, by rw [aHD (by omega)]⟩)
theorem oQ {q : Option Addr} {l : List Int} {n c : Nat} (hn : n = l.length) (h63 : n ≤ 1000000000000) (hc : l.length ≤ c) (hl : bI q (recs eG l) ∈ I0) :
  CD Tryz.prog 182 [.slice q n c] X w0 M0 I0 (fun v M I => M0 = M ∧ I = bI q (recs eG (fM l)) :: I0 ∧ v = .slice q (fM l).length c) := by
 subst hn
 refine fC Tryz.func182 rfl Tryz.ntmps182 rfl ?_
 refine rC (φ := 0 < l.length → Ok q) (fun w hw h => (hw.sl hl).ok (by rw [jN]; omega)) (fun hq => ?_)
 repeat (refine kK ?_)
 refine bG [] rfl (fun k G M I => ∃ m : Nat, m ≤ l.length ∧ k = m ∧ fM (l.take m) = fM l ∧ G = [(0, .slice q m c)] ∧ M0 = M ∧ I0 = I) (l.length) _ _ _ aO dK dI (⟨l.length, by omega, rfl, by rw [List.take_length], rfl, rfl, rfl⟩) ?_
 rintro k G M I ⟨m, hm, rfl, ht, rfl, rfl, rfl⟩
 repeat' (first | refine kK ?_ | refine aU rfl (fun h => ?_) (fun h => ?_) | refine aT rfl rfl (fun h => ?_) (fun h => ?_) | fail)
 ·obtain ⟨b, o, rfl⟩ := (hq (by omega)).cases
  refine aH rfl (fun _ => vC (k - 1) rfl rfl (by omega) (by omega)) rfl rfl ?_
  repeat (refine kK ?_)
  have h1 := h
  refine aS (k - 1) _ _ _ (by first | omega | (simp only [List.length_append, List.length_cons, List.length_nil]; omega)) aO dK dI (⟨k - 1, by omega, rfl, ?_, rfl, rfl, rfl⟩)
  rw [← ht]
  obtain ⟨j, rfl⟩ : ∃ j, k = j + 1 := ⟨k - 1, by omega⟩
  have hj : j < l.length := by omega
  have e0 : gt l (j : Int) = 0 := by
   have e : ((j + 1 : Nat) : Int) - 1 = j := by omega
   rw [e] at h1
   exact h1
  rw [lI hj] at e0
  rw [List.take_succ_eq_append_getElem hj, e0, uQ]
  rfl
 ·have h1 := h
  have htop : Top (l.take k) := by
   obtain ⟨j, rfl⟩ : ∃ j, k = j + 1 := ⟨k - 1, by omega⟩
   have hj : j < l.length := by omega
   rw [List.take_succ_eq_append_getElem hj, Top.snoc, ← lI hj]
   have e : ((j + 1 : Nat) : Int) - 1 = j := by omega
   rw [e] at h1
   exact h1
  have e1 : fM l = l.take k := by rw [← ht, yQ htop]
  refine yX (fun w hw => hw.takeI (cs := recs eG (fM l)) (tl := recs eG (l.drop k)) (by rw [e1, ← oV, List.take_append_drop]; exact hl)) ?_
  refine aQ (by first | exact .inl rfl | exact .inr rfl) rfl rfl _ _ dK dI (⟨rfl, rfl, by rw [e1]; simp; omega⟩)
 ·have h0 : k = 0 := by omega
  subst h0
  have e1 : fM l = [] := by rw [← ht]; rfl
  rw [e1]
  refine aCD q ?_
  refine aQ (by first | exact .inl rfl | exact .inr rfl) rfl rfl _ _ dK dI (⟨rfl, rfl, rfl⟩)
def GrP (n : Nat) (M0 : List Ent) (I0 : List aZ) (v : Value) (M : List Ent) (I : List aZ) : Prop := M0 = M ∧ ∃ q c, v = .slice q (gr n).length c ∧ ((gr n).length ≤ c ∧ (Ok q ∨ ((gr n).length = 0 ∧ c = 0))) ∧ I = bI q (recs eG (gr n)) :: I0
theorem aFV {p q : Option Addr} {m n cp cq : Nat} (hm : (gr m).length ≤ 100000000000) (hn : (gr n).length ≤ 100000000000) (hp : bI p (recs eG (gr m)) ∈ I0) (hq : bI q (recs eG (gr n)) ∈ I0) :
  CD Tryz.prog 183 [.slice p (gr m).length cp, .slice q (gr n).length cq] X w0 M0 I0 (GrP (m + n) M0 I0) := by
 have da := bV m
 have db := bV n
 have va := dB m
 have vb := dB n
 generalize ha : gr m = a at *
 generalize hb : gr n = b at *
 obtain ⟨N, hN⟩ : ∃ N : Nat, N = max a.length b.length + 1 := ⟨_, rfl⟩
 refine fC Tryz.func183 rfl Tryz.ntmps183 rfl ?_
 repeat (refine kK ?_)
 (refine jU (N) rfl rfl (by omega) (by omega) (by omega) (by omega) (mO _ _) rfl rfl ?_; intro bo; refine ⟨mY, ?_⟩)
 repeat (refine kK ?_)
 refine bG [0, 1, 5, 17] rfl (fun k G M I => ∃ (i : Nat) (o : List Int) (cr : Int), i ≤ N ∧ k = N - i ∧ o.length = N ∧ Dig (o.take i) ∧ (0 ≤ cr ∧ cr ≤ 1) ∧ val (o.take i) + 1000000000 ^ i * cr = val (a.take i) + val (b.take i) ∧ G = [(6, .int .u32 cr), (18, .int .i64 i)] ∧ M = .blk bo (recs eG o) 179 :: M0 ∧ I0 = I) (N) _ _ _ aO dK dI (⟨0, _, 0, by omega, by omega, by simp, by simp [Dig], by omega, by simp [val], rfl, rfl, rfl⟩) ?_
 rintro k G M I ⟨i, o, cr, hi, rfl, ho, hd, hcr, hv, rfl, rfl, rfl⟩
 repeat' (first | refine kK ?_ | refine aU rfl (fun h => ?_) (fun h => ?_) | refine aT rfl rfl (fun h => ?_) (fun h => ?_) | fail)
 ·(refine aY rfl (aFY (i := i) rfl (by omega) hp) rfl rfl ?_; rintro _ _ _ ⟨rfl, rfl, rfl⟩; refine ⟨mY, ?_⟩)
  have d1 := da.gt i
  have d2 := db.gt i
  repeat (refine kK ?_)
  (refine aY rfl (aFY (i := i) rfl (by omega) hq) rfl rfl ?_; rintro _ _ _ ⟨rfl, rfl, rfl⟩; refine ⟨mY, ?_⟩)
  repeat' (first | refine kK ?_ | refine aU rfl (fun h => ?_) (fun h => ?_) | refine aT rfl rfl (fun h => ?_) (fun h => ?_) | fail)
  ·refine aS (N - (i + 1)) _ _ _ (by first | omega | (simp only [List.length_append, List.length_cons, List.length_nil]; omega)) aO dK dI (⟨i + 1, _, 1, by omega, rfl, by rw [eT]; exact ho, ?_, by omega, ?_, rfl, rfl, rfl⟩)
   ·rw [oH, iP _ _ _ (by omega)]; exact hd.snoc (by omega)
   ·exact aCU hv (by omega) (s := gt a i + gt b i + cr) rfl (by omega)
  ·refine aS (N - (i + 1)) _ _ _ (by first | omega | (simp only [List.length_append, List.length_cons, List.length_nil]; omega)) aO dK dI (⟨i + 1, _, 0, by omega, rfl, by rw [eT]; exact ho, ?_, by omega, ?_, rfl, rfl, rfl⟩)
   ·rw [oH, iP _ _ _ (by omega)]; exact hd.snoc (by omega)
   ·exact aCU hv (by omega) (s := gt a i + gt b i + cr) rfl (by omega)
 ·have hiN : i = N := by omega
  subst hiN
  rw [List.take_of_length_le (show o.length ≤ i by omega)] at hv hd
  rw [List.take_of_length_le (show a.length ≤ i by omega), List.take_of_length_le (show b.length ≤ i by omega), va, vb] at hv
  have hcr0 : cr = 0 := by
   have h1 := jO da
   have h2 := jO db
   have h3 := lX (show a.length ≤ i - 1 by omega)
   have h4 := lX (show b.length ≤ i - 1 by omega)
   have h5 : (1000000000 : Int) ^ i = 1000000000 ^ (i - 1) * 1000000000 := by
    rw [← Int.pow_succ]; congr 1; omega
   have h6 := iR (i - 1)
   have h7 := bW hd
   by_cases c : cr = 0
   ·exact c
   ·have : cr = 1 := by omega
    subst this
    omega
  subst hcr0
  have hg : fM o = gr (m + n) := mM hd (by omega)
  refine bF uJ ?_
  (refine aY rfl (oQ (l := o) (c := i) ho.symm (by omega) (by omega) aW) rfl rfl ?_; rintro _ _ _ ⟨rfl, rfl, rfl⟩; refine ⟨mY, ?_⟩)
  repeat (refine kK ?_)
  rw [hg]
  refine aQ (by first | exact .inl rfl | exact .inr rfl) rfl rfl _ _ dK dI (⟨rfl, _, _, rfl, ⟨by rw [← hg]; have := tJ o; obtain ⟨k, h1, h2, _⟩ := this; rw [h2]; simp; omega, .inl (Ok.mk _ _)⟩, rfl⟩)
end
end Go.Proofs.YtkccjglmnhgabaaGreat
