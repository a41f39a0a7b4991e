/- The types and functions of this seat, as instances. Written by facts.py. A premise that no search takes for another; looks alone. The walk, kept once. integer: magnitudes: at, trim, plus, minus, compare, times, short -/
import Derived.Test.YtjbhdfpjnjedhaaGreatProg
import Derived.Test.YtjbhdfpjnjedhaaGreatZpac
import Derived.KernelRfl
import Derived.Test.YtjbhdfpjnjedhaaGreatZpae
import Derived.Test.YtjbhdfpjnjedhaaGreatZpaf
set_option linter.unusedSimpArgs false
set_option linter.unusedVariables false
set_option maxRecDepth 100000
set_option maxHeartbeats 4000000
namespace Go.Proofs.YtjbhdfpjnjedhaaGreat
open Go Go.Fx
instance : IntTy Tryz.prog 2 .i64 := ⟨Tryz.underlying2⟩
instance : ScalarTy Tryz.prog 3 := ⟨⟨_, Tryz.underlying3, (by intro _ h; cases h), (by intro _ _ h; cases h)⟩, by kernel_rfl⟩
instance : IntTy Tryz.prog 3 .i64 := ⟨Tryz.underlying3⟩
instance : ElemTy Tryz.prog 3 1 8 [.int .i64 0] := ⟨by kernel_rfl, rfl⟩
instance : ScalarTy Tryz.prog 4 := ⟨⟨_, Tryz.underlying4, (by intro _ h; cases h), (by intro _ _ h; cases h)⟩, by kernel_rfl⟩
instance : BoolTy Tryz.prog 4 := ⟨Tryz.underlying4⟩
instance : IntTy Tryz.prog 5 .u8 := ⟨Tryz.underlying5⟩
instance : StrTy Tryz.prog 9 := ⟨Tryz.underlying9⟩
instance : ScalarTy Tryz.prog 22 := ⟨⟨_, Tryz.underlying22, (by intro _ h; cases h), (by intro _ _ h; cases h)⟩, by kernel_rfl⟩
instance : SliceTy Tryz.prog 22 65 4 := ⟨Tryz.underlying22, by kernel_rfl⟩
instance : ScalarTy Tryz.prog 23 := ⟨⟨_, Tryz.underlying23, (by intro _ h; cases h), (by intro _ _ h; cases h)⟩, by kernel_rfl⟩
instance : ScalarTy Tryz.prog 24 := ⟨⟨_, Tryz.underlying24, (by intro _ h; cases h), (by intro _ _ h; cases h)⟩, by kernel_rfl⟩
instance : IntTy Tryz.prog 24 .i16 := ⟨Tryz.underlying24⟩
instance : FieldAt Tryz.prog 26 0 0 23 1 := ⟨⟨_, _, Tryz.underlying26, rfl, rfl, rfl⟩, by kernel_rfl⟩
instance : FieldAt Tryz.prog 26 2 2 24 1 := ⟨⟨_, _, Tryz.underlying26, rfl, rfl, rfl⟩, by kernel_rfl⟩
instance : ScalarTy Tryz.prog 32 := ⟨⟨_, Tryz.underlying32, (by intro _ h; cases h), (by intro _ _ h; cases h)⟩, by kernel_rfl⟩
instance : SliceTy Tryz.prog 32 3 1 := ⟨Tryz.underlying32, by kernel_rfl⟩
instance : ElemTy Tryz.prog 32 1 24 [.slice none 0 0] := ⟨by kernel_rfl, rfl⟩
instance : ScalarTy Tryz.prog 34 := ⟨⟨_, Tryz.underlying34, (by intro _ h; cases h), (by intro _ _ h; cases h)⟩, by kernel_rfl⟩
instance : SliceTy Tryz.prog 34 53 1 := ⟨Tryz.underlying34, by kernel_rfl⟩
instance : ElemTy Tryz.prog 34 1 24 [.slice none 0 0] := ⟨by kernel_rfl, rfl⟩
instance : AggTy Tryz.prog 36 4 := ⟨.inl ⟨_, Tryz.underlying36⟩, by kernel_rfl⟩
instance : StructTy Tryz.prog 36 [(0, 1), (1, 1), (2, 1), (3, 1)] [.int .i64 0, .slice none 0 0, .slice none 0 0, .slice none 0 0] := ⟨⟨_, Tryz.underlying36, by kernel_rfl⟩, by kernel_rfl⟩
instance : FieldAt Tryz.prog 36 1 1 32 1 := ⟨⟨_, _, Tryz.underlying36, rfl, rfl, rfl⟩, by kernel_rfl⟩
instance : FieldAt Tryz.prog 36 2 2 32 1 := ⟨⟨_, _, Tryz.underlying36, rfl, rfl, rfl⟩, by kernel_rfl⟩
instance : FieldAt Tryz.prog 36 3 3 34 1 := ⟨⟨_, _, Tryz.underlying36, rfl, rfl, rfl⟩, by kernel_rfl⟩
instance : ElemTy Tryz.prog 36 4 80 [.int .i64 0, .slice none 0 0, .slice none 0 0, .slice none 0 0] := ⟨by kernel_rfl, rfl⟩
instance : ScalarTy Tryz.prog 46 := ⟨⟨_, Tryz.underlying46, (by intro _ h; cases h), (by intro _ _ h; cases h)⟩, by kernel_rfl⟩
instance : SliceTy Tryz.prog 46 104 1 := ⟨Tryz.underlying46, by kernel_rfl⟩
instance : AggTy Tryz.prog 48 2 := ⟨.inl ⟨_, Tryz.underlying48⟩, by kernel_rfl⟩
instance : StructTy Tryz.prog 48 [(0, 1), (1, 1)] [.bool false, .slice none 0 0] := ⟨⟨_, Tryz.underlying48, by kernel_rfl⟩, by kernel_rfl⟩
instance : FieldAt Tryz.prog 48 0 0 4 1 := ⟨⟨_, _, Tryz.underlying48, rfl, rfl, rfl⟩, by kernel_rfl⟩
instance : FieldAt Tryz.prog 48 1 1 46 1 := ⟨⟨_, _, Tryz.underlying48, rfl, rfl, rfl⟩, by kernel_rfl⟩
instance : ElemTy Tryz.prog 48 2 32 [.bool false, .slice none 0 0] := ⟨by kernel_rfl, rfl⟩
instance : AggTy Tryz.prog 50 4 := ⟨.inl ⟨_, Tryz.underlying50⟩, by kernel_rfl⟩
instance : StructTy Tryz.prog 50 [(0, 2), (2, 2)] [.bool false, .slice none 0 0, .bool false, .slice none 0 0] := ⟨⟨_, Tryz.underlying50, by kernel_rfl⟩, by kernel_rfl⟩
instance : FieldAt Tryz.prog 50 0 0 48 2 := ⟨⟨_, _, Tryz.underlying50, rfl, rfl, rfl⟩, by kernel_rfl⟩
instance : FieldAt Tryz.prog 50 1 2 48 2 := ⟨⟨_, _, Tryz.underlying50, rfl, rfl, rfl⟩, by kernel_rfl⟩
instance : ElemTy Tryz.prog 50 4 64 [.bool false, .slice none 0 0, .bool false, .slice none 0 0] := ⟨by kernel_rfl, rfl⟩
instance : ScalarTy Tryz.prog 53 := ⟨⟨_, Tryz.underlying53, (by intro _ h; cases h), (by intro _ _ h; cases h)⟩, by kernel_rfl⟩
instance : SliceTy Tryz.prog 53 50 4 := ⟨Tryz.underlying53, by kernel_rfl⟩
instance : ElemTy Tryz.prog 53 1 24 [.slice none 0 0] := ⟨by kernel_rfl, rfl⟩
instance : AggTy Tryz.prog 56 2 := ⟨.inl ⟨_, Tryz.underlying56⟩, by kernel_rfl⟩
instance : StructTy Tryz.prog 56 [(0, 1), (1, 1)] [.int .i64 0, .int .i64 0] := ⟨⟨_, Tryz.underlying56, by kernel_rfl⟩, by kernel_rfl⟩
instance : FieldAt Tryz.prog 56 0 0 3 1 := ⟨⟨_, _, Tryz.underlying56, rfl, rfl, rfl⟩, by kernel_rfl⟩
instance : FieldAt Tryz.prog 56 1 1 3 1 := ⟨⟨_, _, Tryz.underlying56, rfl, rfl, rfl⟩, by kernel_rfl⟩
instance : IntStruct Tryz.prog 56 2 := ⟨by kernel_rfl, by kernel_rfl, by kernel_rfl, by kernel_rfl⟩
instance : ElemTy Tryz.prog 56 2 16 [.int .i64 0, .int .i64 0] := ⟨by kernel_rfl, rfl⟩
instance : AggTy Tryz.prog 65 4 := ⟨.inl ⟨_, Tryz.underlying65⟩, by kernel_rfl⟩
instance : StructTy Tryz.prog 65 [(0, 2), (2, 2)] [.int .i64 0, .int .i64 0, .int .i64 0, .int .i64 0] := ⟨⟨_, Tryz.underlying65, by kernel_rfl⟩, by kernel_rfl⟩
instance : FieldAt Tryz.prog 65 0 0 56 2 := ⟨⟨_, _, Tryz.underlying65, rfl, rfl, rfl⟩, by kernel_rfl⟩
instance : FieldAt Tryz.prog 65 1 2 56 2 := ⟨⟨_, _, Tryz.underlying65, rfl, rfl, rfl⟩, by kernel_rfl⟩
instance : ElemTy Tryz.prog 65 4 32 [.int .i64 0, .int .i64 0, .int .i64 0, .int .i64 0] := ⟨by kernel_rfl, rfl⟩
instance : ArrTy Tryz.prog 84 6 50 4 := ⟨Tryz.underlying84, by kernel_rfl⟩
instance : ScalarTy Tryz.prog 98 := ⟨⟨_, Tryz.underlying98, (by intro _ h; cases h), (by intro _ _ h; cases h)⟩, by kernel_rfl⟩
instance : ScalarTy Tryz.prog 104 := ⟨⟨_, Tryz.underlying104, (by intro _ h; cases h), (by intro _ _ h; cases h)⟩, by kernel_rfl⟩
instance : IntTy Tryz.prog 104 .u32 := ⟨Tryz.underlying104⟩
instance : ElemTy Tryz.prog 104 1 4 [.int .u32 0] := ⟨by kernel_rfl, rfl⟩
instance : StructTy Tryz.prog 117 [(0, 4), (4, 4)] [.bool false, .slice none 0 0, .bool false, .slice none 0 0, .bool false, .slice none 0 0, .bool false, .slice none 0 0] := ⟨⟨_, Tryz.underlying117, by kernel_rfl⟩, by kernel_rfl⟩
instance : FieldAt Tryz.prog 117 0 0 50 4 := ⟨⟨_, _, Tryz.underlying117, rfl, rfl, rfl⟩, by kernel_rfl⟩
instance : FieldAt Tryz.prog 117 1 4 50 4 := ⟨⟨_, _, Tryz.underlying117, rfl, rfl, rfl⟩, by kernel_rfl⟩
instance : ScalarTy Tryz.prog 125 := ⟨⟨_, Tryz.underlying125, (by intro _ h; cases h), (by intro _ _ h; cases h)⟩, by kernel_rfl⟩
instance : ElemTy Tryz.prog 125 1 8 [.nilFunc] := ⟨by kernel_rfl, rfl⟩
instance : IntTy Tryz.prog 179 .u64 := ⟨Tryz.underlying179⟩
instance : ScalarTy Tryz.prog 183 := ⟨⟨_, Tryz.underlying183, (by intro _ h; cases h), (by intro _ _ h; cases h)⟩, by kernel_rfl⟩
instance : IntTy Tryz.prog 183 .u64 := ⟨Tryz.underlying183⟩
instance : ArrTy Tryz.prog 198 3 50 4 := ⟨Tryz.underlying198, by kernel_rfl⟩
instance : ElemTy Tryz.prog 198 12 192 [.bool false, .slice none 0 0, .bool false, .slice none 0 0, .bool false, .slice none 0 0, .bool false, .slice none 0 0, .bool false, .slice none 0 0, .bool false, .slice none 0 0] := ⟨by kernel_rfl, rfl⟩
instance : FnOk Tryz.prog 8 := ⟨_, Tryz.func8, by kernel_rfl, by kernel_rfl⟩
instance : FnOk Tryz.prog 10 := ⟨_, Tryz.func10, by kernel_rfl, by kernel_rfl⟩
instance : FnOk Tryz.prog 11 := ⟨_, Tryz.func11, by kernel_rfl, by kernel_rfl⟩
instance : FnOk Tryz.prog 12 := ⟨_, Tryz.func12, by kernel_rfl, by kernel_rfl⟩
instance : FnOk Tryz.prog 13 := ⟨_, Tryz.func13, by kernel_rfl, by kernel_rfl⟩
instance : FnOk Tryz.prog 14 := ⟨_, Tryz.func14, by kernel_rfl, by kernel_rfl⟩
instance : FnOk Tryz.prog 17 := ⟨_, Tryz.func17, by kernel_rfl, by kernel_rfl⟩
instance : FnOk Tryz.prog 18 := ⟨_, Tryz.func18, by kernel_rfl, by kernel_rfl⟩
instance : FnOk Tryz.prog 19 := ⟨_, Tryz.func19, by kernel_rfl, by kernel_rfl⟩
instance : FnOk Tryz.prog 21 := ⟨_, Tryz.func21, by kernel_rfl, by kernel_rfl⟩
instance : FnOk Tryz.prog 22 := ⟨_, Tryz.func22, by kernel_rfl, by kernel_rfl⟩
instance : FnOk Tryz.prog 24 := ⟨_, Tryz.func24, by kernel_rfl, by kernel_rfl⟩
instance : FnOk Tryz.prog 28 := ⟨_, Tryz.func28, by kernel_rfl, by kernel_rfl⟩
instance : FnOk Tryz.prog 31 := ⟨_, Tryz.func31, by kernel_rfl, by kernel_rfl⟩
instance : FnOk Tryz.prog 32 := ⟨_, Tryz.func32, by kernel_rfl, by kernel_rfl⟩
instance : FnOk Tryz.prog 33 := ⟨_, Tryz.func33, by kernel_rfl, by kernel_rfl⟩
instance : FnOk Tryz.prog 34 := ⟨_, Tryz.func34, by kernel_rfl, by kernel_rfl⟩
instance : FnOk Tryz.prog 37 := ⟨_, Tryz.func37, by kernel_rfl, by kernel_rfl⟩
instance : FnOk Tryz.prog 39 := ⟨_, Tryz.func39, by kernel_rfl, by kernel_rfl⟩
instance : FnOk Tryz.prog 40 := ⟨_, Tryz.func40, by kernel_rfl, by kernel_rfl⟩
instance : FnOk Tryz.prog 41 := ⟨_, Tryz.func41, by kernel_rfl, by kernel_rfl⟩
instance : FnOk Tryz.prog 42 := ⟨_, Tryz.func42, by kernel_rfl, by kernel_rfl⟩
instance : FnOk Tryz.prog 43 := ⟨_, Tryz.func43, by kernel_rfl, by kernel_rfl⟩
instance : FnOk Tryz.prog 46 := ⟨_, Tryz.func46, by kernel_rfl, by kernel_rfl⟩
instance : FnOk Tryz.prog 47 := ⟨_, Tryz.func47, by kernel_rfl, by kernel_rfl⟩
instance : FnOk Tryz.prog 48 := ⟨_, Tryz.func48, by kernel_rfl, by kernel_rfl⟩
instance : FnOk Tryz.prog 49 := ⟨_, Tryz.func49, by kernel_rfl, by kernel_rfl⟩
instance : FnOk Tryz.prog 50 := ⟨_, Tryz.func50, by kernel_rfl, by kernel_rfl⟩
instance : FnOk Tryz.prog 51 := ⟨_, Tryz.func51, by kernel_rfl, by kernel_rfl⟩
instance : FnOk Tryz.prog 52 := ⟨_, Tryz.func52, by kernel_rfl, by kernel_rfl⟩
instance : FnOk Tryz.prog 53 := ⟨_, Tryz.func53, by kernel_rfl, by kernel_rfl⟩
instance : FnOk Tryz.prog 59 := ⟨_, Tryz.func59, by kernel_rfl, by kernel_rfl⟩
instance : FnOk Tryz.prog 60 := ⟨_, Tryz.func60, by kernel_rfl, by kernel_rfl⟩
instance : FnOk Tryz.prog 61 := ⟨_, Tryz.func61, by kernel_rfl, by kernel_rfl⟩
instance : FnOk Tryz.prog 62 := ⟨_, Tryz.func62, by kernel_rfl, by kernel_rfl⟩
instance : FnOk Tryz.prog 63 := ⟨_, Tryz.func63, by kernel_rfl, by kernel_rfl⟩
instance : FnOk Tryz.prog 64 := ⟨_, Tryz.func64, by kernel_rfl, by kernel_rfl⟩
instance : FnOk Tryz.prog 65 := ⟨_, Tryz.func65, by kernel_rfl, by kernel_rfl⟩
instance : FnOk Tryz.prog 66 := ⟨_, Tryz.func66, by kernel_rfl, by kernel_rfl⟩
instance : FnOk Tryz.prog 67 := ⟨_, Tryz.func67, by kernel_rfl, by kernel_rfl⟩
instance : FnOk Tryz.prog 69 := ⟨_, Tryz.func69, by kernel_rfl, by kernel_rfl⟩
instance : FnOk Tryz.prog 70 := ⟨_, Tryz.func70, by kernel_rfl, by kernel_rfl⟩
instance : FnOk Tryz.prog 71 := ⟨_, Tryz.func71, by kernel_rfl, by kernel_rfl⟩
instance : FnOk Tryz.prog 72 := ⟨_, Tryz.func72, by kernel_rfl, by kernel_rfl⟩
instance : FnOk Tryz.prog 73 := ⟨_, Tryz.func73, by kernel_rfl, by kernel_rfl⟩
instance : FnOk Tryz.prog 74 := ⟨_, Tryz.func74, by kernel_rfl, by kernel_rfl⟩
instance : FnOk Tryz.prog 75 := ⟨_, Tryz.func75, by kernel_rfl, by kernel_rfl⟩
instance : FnOk Tryz.prog 76 := ⟨_, Tryz.func76, by kernel_rfl, by kernel_rfl⟩
instance : FnOk Tryz.prog 77 := ⟨_, Tryz.func77, by kernel_rfl, by kernel_rfl⟩
instance : FnOk Tryz.prog 78 := ⟨_, Tryz.func78, by kernel_rfl, by kernel_rfl⟩
instance : FnOk Tryz.prog 79 := ⟨_, Tryz.func79, by kernel_rfl, by kernel_rfl⟩
instance : FnOk Tryz.prog 80 := ⟨_, Tryz.func80, by kernel_rfl, by kernel_rfl⟩
instance : FnOk Tryz.prog 81 := ⟨_, Tryz.func81, by kernel_rfl, by kernel_rfl⟩
instance : FnOk Tryz.prog 83 := ⟨_, Tryz.func83, by kernel_rfl, by kernel_rfl⟩
instance : FnOk Tryz.prog 84 := ⟨_, Tryz.func84, by kernel_rfl, by kernel_rfl⟩
instance : FnOk Tryz.prog 85 := ⟨_, Tryz.func85, by kernel_rfl, by kernel_rfl⟩
instance : FnOk Tryz.prog 90 := ⟨_, Tryz.func90, by kernel_rfl, by kernel_rfl⟩
instance : FnOk Tryz.prog 91 := ⟨_, Tryz.func91, by kernel_rfl, by kernel_rfl⟩
instance : FnOk Tryz.prog 97 := ⟨_, Tryz.func97, by kernel_rfl, by kernel_rfl⟩
instance : FnOk Tryz.prog 99 := ⟨_, Tryz.func99, by kernel_rfl, by kernel_rfl⟩
instance : FnOk Tryz.prog 100 := ⟨_, Tryz.func100, by kernel_rfl, by kernel_rfl⟩
instance : FnOk Tryz.prog 101 := ⟨_, Tryz.func101, by kernel_rfl, by kernel_rfl⟩
instance : FnOk Tryz.prog 102 := ⟨_, Tryz.func102, by kernel_rfl, by kernel_rfl⟩
instance : FnOk Tryz.prog 103 := ⟨_, Tryz.func103, by kernel_rfl, by kernel_rfl⟩
instance : FnOk Tryz.prog 104 := ⟨_, Tryz.func104, by kernel_rfl, by kernel_rfl⟩
instance : FnOk Tryz.prog 105 := ⟨_, Tryz.func105, by kernel_rfl, by kernel_rfl⟩
instance : FnOk Tryz.prog 106 := ⟨_, Tryz.func106, by kernel_rfl, by kernel_rfl⟩
instance : FnOk Tryz.prog 107 := ⟨_, Tryz.func107, by kernel_rfl, by kernel_rfl⟩
instance : FnOk Tryz.prog 108 := ⟨_, Tryz.func108, by kernel_rfl, by kernel_rfl⟩
instance : FnOk Tryz.prog 109 := ⟨_, Tryz.func109, by kernel_rfl, by kernel_rfl⟩
instance : FnOk Tryz.prog 110 := ⟨_, Tryz.func110, by kernel_rfl, by kernel_rfl⟩
instance : FnOk Tryz.prog 111 := ⟨_, Tryz.func111, by kernel_rfl, by kernel_rfl⟩
instance : FnOk Tryz.prog 112 := ⟨_, Tryz.func112, by kernel_rfl, by kernel_rfl⟩
instance : FnOk Tryz.prog 113 := ⟨_, Tryz.func113, by kernel_rfl, by kernel_rfl⟩
instance : FnOk Tryz.prog 114 := ⟨_, Tryz.func114, by kernel_rfl, by kernel_rfl⟩
instance : FnOk Tryz.prog 115 := ⟨_, Tryz.func115, by kernel_rfl, by kernel_rfl⟩
instance : FnOk Tryz.prog 116 := ⟨_, Tryz.func116, by kernel_rfl, by kernel_rfl⟩
instance : FnOk Tryz.prog 117 := ⟨_, Tryz.func117, by kernel_rfl, by kernel_rfl⟩
instance : FnOk Tryz.prog 118 := ⟨_, Tryz.func118, by kernel_rfl, by kernel_rfl⟩
instance : FnOk Tryz.prog 119 := ⟨_, Tryz.func119, by kernel_rfl, by kernel_rfl⟩
instance : FnOk Tryz.prog 120 := ⟨_, Tryz.func120, by kernel_rfl, by kernel_rfl⟩
instance : FnOk Tryz.prog 121 := ⟨_, Tryz.func121, by kernel_rfl, by kernel_rfl⟩
instance : FnOk Tryz.prog 122 := ⟨_, Tryz.func122, by kernel_rfl, by kernel_rfl⟩
instance : FnOk Tryz.prog 123 := ⟨_, Tryz.func123, by kernel_rfl, by kernel_rfl⟩
instance : FnOk Tryz.prog 124 := ⟨_, Tryz.func124, by kernel_rfl, by kernel_rfl⟩
instance : FnOk Tryz.prog 125 := ⟨_, Tryz.func125, by kernel_rfl, by kernel_rfl⟩
instance : FnOk Tryz.prog 126 := ⟨_, Tryz.func126, by kernel_rfl, by kernel_rfl⟩
instance : FnOk Tryz.prog 127 := ⟨_, Tryz.func127, by kernel_rfl, by kernel_rfl⟩
instance : FnOk Tryz.prog 128 := ⟨_, Tryz.func128, by kernel_rfl, by kernel_rfl⟩
instance : FnOk Tryz.prog 129 := ⟨_, Tryz.func129, by kernel_rfl, by kernel_rfl⟩
instance : FnOk Tryz.prog 130 := ⟨_, Tryz.func130, by kernel_rfl, by kernel_rfl⟩
instance : FnOk Tryz.prog 131 := ⟨_, Tryz.func131, by kernel_rfl, by kernel_rfl⟩
instance : FnOk Tryz.prog 132 := ⟨_, Tryz.func132, by kernel_rfl, by kernel_rfl⟩
instance : FnOk Tryz.prog 133 := ⟨_, Tryz.func133, by kernel_rfl, by kernel_rfl⟩
instance : FnOk Tryz.prog 134 := ⟨_, Tryz.func134, by kernel_rfl, by kernel_rfl⟩
instance : FnOk Tryz.prog 144 := ⟨_, Tryz.func144, by kernel_rfl, by kernel_rfl⟩
instance : FnOk Tryz.prog 145 := ⟨_, Tryz.func145, by kernel_rfl, by kernel_rfl⟩
instance : FnOk Tryz.prog 146 := ⟨_, Tryz.func146, by kernel_rfl, by kernel_rfl⟩
instance : FnOk Tryz.prog 147 := ⟨_, Tryz.func147, by kernel_rfl, by kernel_rfl⟩
instance : FnOk Tryz.prog 148 := ⟨_, Tryz.func148, by kernel_rfl, by kernel_rfl⟩
instance : FnOk Tryz.prog 149 := ⟨_, Tryz.func149, by kernel_rfl, by kernel_rfl⟩
instance : FnOk Tryz.prog 152 := ⟨_, Tryz.func152, by kernel_rfl, by kernel_rfl⟩
instance : FnOk Tryz.prog 153 := ⟨_, Tryz.func153, by kernel_rfl, by kernel_rfl⟩
instance : FnOk Tryz.prog 154 := ⟨_, Tryz.func154, by kernel_rfl, by kernel_rfl⟩
instance : FnOk Tryz.prog 155 := ⟨_, Tryz.func155, by kernel_rfl, by kernel_rfl⟩
instance : FnOk Tryz.prog 156 := ⟨_, Tryz.func156, by kernel_rfl, by kernel_rfl⟩
instance : FnOk Tryz.prog 157 := ⟨_, Tryz.func157, by kernel_rfl, by kernel_rfl⟩
instance : FnOk Tryz.prog 158 := ⟨_, Tryz.func158, by kernel_rfl, by kernel_rfl⟩
instance : FnOk Tryz.prog 159 := ⟨_, Tryz.func159, by kernel_rfl, by kernel_rfl⟩
instance : FnOk Tryz.prog 160 := ⟨_, Tryz.func160, by kernel_rfl, by kernel_rfl⟩
instance : FnOk Tryz.prog 161 := ⟨_, Tryz.func161, by kernel_rfl, by kernel_rfl⟩
instance : FnOk Tryz.prog 162 := ⟨_, Tryz.func162, by kernel_rfl, by kernel_rfl⟩
instance : FnOk Tryz.prog 163 := ⟨_, Tryz.func163, by kernel_rfl, by kernel_rfl⟩
instance : FnOk Tryz.prog 164 := ⟨_, Tryz.func164, by kernel_rfl, by kernel_rfl⟩
instance : FnOk Tryz.prog 165 := ⟨_, Tryz.func165, by kernel_rfl, by kernel_rfl⟩
instance : FnOk Tryz.prog 166 := ⟨_, Tryz.func166, by kernel_rfl, by kernel_rfl⟩
instance : FnOk Tryz.prog 167 := ⟨_, Tryz.func167, by kernel_rfl, by kernel_rfl⟩
instance : FnOk Tryz.prog 168 := ⟨_, Tryz.func168, by kernel_rfl, by kernel_rfl⟩
instance : FnOk Tryz.prog 169 := ⟨_, Tryz.func169, by kernel_rfl, by kernel_rfl⟩
instance : FnOk Tryz.prog 170 := ⟨_, Tryz.func170, by kernel_rfl, by kernel_rfl⟩
instance : FnOk Tryz.prog 171 := ⟨_, Tryz.func171, by kernel_rfl, by kernel_rfl⟩
instance : FnOk Tryz.prog 172 := ⟨_, Tryz.func172, by kernel_rfl, by kernel_rfl⟩
instance : FnOk Tryz.prog 173 := ⟨_, Tryz.func173, by kernel_rfl, by kernel_rfl⟩
instance : FnOk Tryz.prog 174 := ⟨_, Tryz.func174, by kernel_rfl, by kernel_rfl⟩
instance : FnOk Tryz.prog 175 := ⟨_, Tryz.func175, by kernel_rfl, by kernel_rfl⟩
instance : FnOk Tryz.prog 176 := ⟨_, Tryz.func176, by kernel_rfl, by kernel_rfl⟩
instance : FnOk Tryz.prog 177 := ⟨_, Tryz.func177, by kernel_rfl, by kernel_rfl⟩
instance : FnOk Tryz.prog 178 := ⟨_, Tryz.func178, by kernel_rfl, by kernel_rfl⟩
instance : FnOk Tryz.prog 179 := ⟨_, Tryz.func179, by kernel_rfl, by kernel_rfl⟩
instance : FnOk Tryz.prog 180 := ⟨_, Tryz.func180, by kernel_rfl, by kernel_rfl⟩
instance : FnOk Tryz.prog 181 := ⟨_, Tryz.func181, by kernel_rfl, by kernel_rfl⟩
instance : FnOk Tryz.prog 182 := ⟨_, Tryz.func182, by kernel_rfl, by kernel_rfl⟩
instance : FnOk Tryz.prog 183 := ⟨_, Tryz.func183, by kernel_rfl, by kernel_rfl⟩
instance : FnOk Tryz.prog 187 := ⟨_, Tryz.func187, by kernel_rfl, by kernel_rfl⟩
instance : FnOk Tryz.prog 192 := ⟨_, Tryz.func192, by kernel_rfl, by kernel_rfl⟩
instance : FnOk Tryz.prog 193 := ⟨_, Tryz.func193, by kernel_rfl, by kernel_rfl⟩
instance : FnOk Tryz.prog 194 := ⟨_, Tryz.func194, by kernel_rfl, by kernel_rfl⟩
instance : FnOk Tryz.prog 195 := ⟨_, Tryz.func195, by kernel_rfl, by kernel_rfl⟩
instance : FnOk Tryz.prog 196 := ⟨_, Tryz.func196, by kernel_rfl, by kernel_rfl⟩
instance : FnOk Tryz.prog 197 := ⟨_, Tryz.func197, by kernel_rfl, by kernel_rfl⟩
instance : FnOk Tryz.prog 198 := ⟨_, Tryz.func198, by kernel_rfl, by kernel_rfl⟩
instance : FnOk Tryz.prog 199 := ⟨_, Tryz.func199, by kernel_rfl, by kernel_rfl⟩
instance : FnOk Tryz.prog 200 := ⟨_, Tryz.func200, by kernel_rfl, by kernel_rfl⟩
instance : FnOk Tryz.prog 201 := ⟨_, Tryz.func201, by kernel_rfl, by kernel_rfl⟩
instance : FnOk Tryz.prog 204 := ⟨_, Tryz.func204, by kernel_rfl, by kernel_rfl⟩
instance : FnOk Tryz.prog 210 := ⟨_, Tryz.func210, by kernel_rfl, by kernel_rfl⟩
instance : FnOk Tryz.prog 214 := ⟨_, Tryz.func214, by kernel_rfl, by kernel_rfl⟩
instance : FnOk Tryz.prog 215 := ⟨_, Tryz.func215, by kernel_rfl, by kernel_rfl⟩
instance : FnOk Tryz.prog 216 := ⟨_, Tryz.func216, by kernel_rfl, by kernel_rfl⟩
instance : FnOk Tryz.prog 217 := ⟨_, Tryz.func217, by kernel_rfl, by kernel_rfl⟩
instance : FnOk Tryz.prog 218 := ⟨_, Tryz.func218, by kernel_rfl, by kernel_rfl⟩
instance : FnOk Tryz.prog 219 := ⟨_, Tryz.func219, by kernel_rfl, by kernel_rfl⟩
instance : FnOk Tryz.prog 220 := ⟨_, Tryz.func220, by kernel_rfl, by kernel_rfl⟩
instance : FnOk Tryz.prog 221 := ⟨_, Tryz.func221, by kernel_rfl, by kernel_rfl⟩
instance : FnOk Tryz.prog 222 := ⟨_, Tryz.func222, by kernel_rfl, by kernel_rfl⟩
instance : FnOk Tryz.prog 223 := ⟨_, Tryz.func223, by kernel_rfl, by kernel_rfl⟩
instance : FnOk Tryz.prog 224 := ⟨_, Tryz.func224, by kernel_rfl, by kernel_rfl⟩
instance : FnOk Tryz.prog 225 := ⟨_, Tryz.func225, by kernel_rfl, by kernel_rfl⟩
instance : FnOk Tryz.prog 227 := ⟨_, Tryz.func227, by kernel_rfl, by kernel_rfl⟩
instance : FnOk Tryz.prog 228 := ⟨_, Tryz.func228, by kernel_rfl, by kernel_rfl⟩
instance : FnOk Tryz.prog 229 := ⟨_, Tryz.func229, by kernel_rfl, by kernel_rfl⟩
instance : FnOk Tryz.prog 230 := ⟨_, Tryz.func230, by kernel_rfl, by kernel_rfl⟩
instance : FnOk Tryz.prog 232 := ⟨_, Tryz.func232, by kernel_rfl, by kernel_rfl⟩
instance : FnOk Tryz.prog 233 := ⟨_, Tryz.func233, by kernel_rfl, by kernel_rfl⟩
instance : FnOk Tryz.prog 234 := ⟨_, Tryz.func234, by kernel_rfl, by kernel_rfl⟩
instance : FnOk Tryz.prog 235 := ⟨_, Tryz.func235, by kernel_rfl, by kernel_rfl⟩
instance : FnOk Tryz.prog 236 := ⟨_, Tryz.func236, by kernel_rfl, by kernel_rfl⟩
instance : FnOk Tryz.prog 237 := ⟨_, Tryz.func237, by kernel_rfl, by kernel_rfl⟩
instance : FnOk Tryz.prog 238 := ⟨_, Tryz.func238, by kernel_rfl, by kernel_rfl⟩
instance : FnOk Tryz.prog 245 := ⟨_, Tryz.func245, by kernel_rfl, by kernel_rfl⟩
instance : FnOk Tryz.prog 246 := ⟨_, Tryz.func246, by kernel_rfl, by kernel_rfl⟩
instance : FnOk Tryz.prog 247 := ⟨_, Tryz.func247, by kernel_rfl, by kernel_rfl⟩
instance : FnOk Tryz.prog 249 := ⟨_, Tryz.func249, by kernel_rfl, by kernel_rfl⟩
instance : FnOk Tryz.prog 250 := ⟨_, Tryz.func250, by kernel_rfl, by kernel_rfl⟩
instance : FnOk Tryz.prog 251 := ⟨_, Tryz.func251, by kernel_rfl, by kernel_rfl⟩
instance : FnOk Tryz.prog 252 := ⟨_, Tryz.func252, by kernel_rfl, by kernel_rfl⟩
instance : FnOk Tryz.prog 253 := ⟨_, Tryz.func253, by kernel_rfl, by kernel_rfl⟩
instance : FnOk Tryz.prog 254 := ⟨_, Tryz.func254, by kernel_rfl, by kernel_rfl⟩
instance : FnOk Tryz.prog 256 := ⟨_, Tryz.func256, by kernel_rfl, by kernel_rfl⟩
theorem mixed : Tryz.prog.follows .mixedOrders = true := by kernel_rfl
end Go.Proofs.YtjbhdfpjnjedhaaGreat
namespace Go.Fx
structure BoxP (g : Prop) : Prop where
 out : g
section
variable {P : Program} {n : Nat} {Q : Exit → Act → World → Prop} {G : Env} {X : List Nat} {w0 : World} {M : List Ent} {I : List aY} {ops l : List Oper} {m : Mode} {c : Code} {e : Exit}
structure Br (b : Bool) (p q : Prop) : Prop where
 y : b = true → p
 n : b = false → q
theorem Br.dec {p : Prop} [Decidable p] : Br (B p) p (¬ p) := ⟨fun h => Decidable.byContradiction (fun hn => by rw [bB hn] at h; cases h), fun h hp => by rw [bJ hp] at h; cases h⟩
theorem Br.raw {b : Bool} : Br b (b = true) (b = false) := ⟨id, id⟩
theorem Br.lit : Br true True False := ⟨fun _ => True.intro, fun h => by cases h⟩
theorem Br.lit2 : Br false False True := ⟨fun h => (by cases h), fun _ => True.intro⟩
theorem aM {c : Operand} {x y : Code} {b : Bool} {p q : Prop} (hc : ev G c = some (.bool b)) (h1 : p → TD P n x Q G X w0 M I) (h2 : q → TD P n y Q G X w0 M I) (hb : Br b p q := by first | exact Br.dec | exact Br.raw | fail) : TD P n (.cond c x y) Q G X w0 M I :=
 oP hc (fun e => h1 (hb.y e)) (fun e => h2 (hb.n e))
theorem aN {op : Op} {ty : TypeId} {pos : String} {af : Array Edge} {d : Option Nat} {b : Bool} {p q : Prop} {g : Nat × Bool} {t : Nat} (hj : oN ops g.1 = some t) (hv : lk G t = some (.bool b))
  (h1 : p → RD P n ops Q m (⟨d, op, ty, pos, af, some g⟩ :: l) ((t, .bool true) :: G) X w0 M I) (h2 : q → RD P n ops Q m (⟨d, op, ty, pos, af, some g⟩ :: l) ((t, .bool false) :: G) X w0 M I) (hb : Br b p q := by first | exact Br.dec | ((fail_if_success exact Br.lit); (fail_if_success exact Br.lit2); exact Br.raw) | fail) :
  RD P n ops Q m (⟨d, op, ty, pos, af, some g⟩ :: l) G X w0 M I := oQ hj hv (fun e => h1 (hb.y e)) (fun e => h2 (hb.n e))
end
end Go.Fx
namespace Go.Fx
theorem lG {p g : Prop} (h : g) (w : BoxP g → p := by (intro hh; (first | refine aG ?_ | refine aJ ?_ | refine jL ?_ | refine iD ?_ | refine fK ?_ | refine fG ?_ | refine iE ?_ | refine gW ?_ | refine fJ ?_ | refine fH ?_ | refine jP ?_ | refine jM ?_ | refine jQ ?_ | refine jN rfl ?_ | refine bH ?_ | (refine gI ?_; first | refine gU rfl rfl rfl ?_ | (refine gM rfl rfl ?_; refine fC rfl rfl rfl nO ?_) | refine gD rfl rfl (by omega) ?_ | refine gP rfl rfl (by omega) ?_) | (refine bR ?_; refine aF rfl (fun _ => dH rfl) rfl rfl ?_) | refine aF rfl (fun _ => bF rfl) rfl rfl ?_ | (refine gL ?_; first | refine aF rfl (fun _ => bM rfl rfl w_) rfl rfl ?_ | refine aF rfl (fun _ => bK rfl rfl w_) rfl rfl ?_ | refine aF rfl (fun _ => eO rfl rfl w_) rfl rfl ?_ | refine aF rfl (fun _ => eF rfl rfl (by omega) q_) rfl rfl ?_ | refine aF rfl (fun _ => dZ rfl rfl (by omega) rfl) rfl rfl ?_ | refine aF rfl (fun _ => dK rfl rfl) rfl rfl ?_ | refine aF rfl (fun _ => dV rfl rfl) rfl rfl ?_ | refine aF rfl (fun _ => dW rfl rfl) rfl rfl ?_) | (refine bR ?_; first | refine aF rfl (fun _ => dX rfl w_) rfl rfl ?_) | (refine gJ ?_; first | refine aF rfl (fun _ => dC rfl w_) rfl rfl ?_) | (refine gG ?_; first | refine aF rfl (fun _ => bL rfl) rfl rfl ?_ | refine aF rfl (fun _ => dJ rfl rfl) rfl rfl ?_ | refine aF rfl (fun _ => dL rfl rfl) rfl rfl ?_ | refine aF rfl (fun _ => dM rfl rfl rfl) rfl rfl ?_) | (refine gN ?_; first | refine fZ rfl (by decide) rfl rfl ?_ | refine iY rfl (by decide) rfl rfl ?_) | (refine gK ?_; first | refine aF rfl (fun _ => dB rfl) rfl rfl ?_) | (refine gH ?_; first | refine jA rfl rfl iK rfl rfl ?_ | refine iX sG rfl rfl iK aS jD rfl rfl ?_ | refine iV sG rfl rfl iK aS jD rfl rfl ?_ | refine aF rfl (fun _ => bP rfl rfl iK) rfl rfl ?_) | (refine gT ?_; first | refine iW sG rfl aS oK rfl rfl ?_ | refine iU sG rfl aS oK rfl rfl ?_ | refine fU sG rfl aS oK rfl rfl ?_ | refine gQ sG rfl aS oK rfl rfl ?_ | refine kZ sG rfl aS iN fE rfl rfl ?_ | refine kV sG rfl aS iN fE rfl rfl ?_ | refine kT sG rfl aS iN fE rfl rfl ?_ | refine jX sG rfl aS iN fE rfl rfl ?_) | (refine fV ?_; first | refine aF rfl (fun _ => bQ rfl rfl) rfl rfl ?_ | refine aF rfl (fun _ => bI rfl) rfl rfl ?_) | (refine iO ?_; first | refine kI rfl rfl rfl mV stC rfl rfl ⟨nO, ?_⟩ | refine iC rfl rfl fE rE mV qP rfl rfl ⟨nO, ?_⟩) | (refine iF ?_; first | refine cK rfl ?_ | refine bN rfl ?_ | refine jR rfl (by omega) ?_ | refine mD rfl (by omega) ?_)); (repeat (first | refine aG ?_ | refine aJ ?_ | refine jL ?_ | refine iD ?_ | refine fK ?_ | refine fG ?_ | refine iE ?_ | refine gW ?_ | refine fJ ?_ | refine fH ?_ | refine jP ?_ | refine jM ?_ | refine jQ ?_ | refine jN rfl ?_ | refine bH ?_ | (refine gI ?_; first | refine gU rfl rfl rfl ?_ | (refine gM rfl rfl ?_; refine fC rfl rfl rfl nO ?_) | refine gD rfl rfl (by omega) ?_ | refine gP rfl rfl (by omega) ?_) | (refine bR ?_; refine aF rfl (fun _ => dH rfl) rfl rfl ?_) | refine aF rfl (fun _ => bF rfl) rfl rfl ?_ | (refine gL ?_; first | refine aF rfl (fun _ => bM rfl rfl w_) rfl rfl ?_ | refine aF rfl (fun _ => bK rfl rfl w_) rfl rfl ?_ | refine aF rfl (fun _ => eO rfl rfl w_) rfl rfl ?_ | refine aF rfl (fun _ => eF rfl rfl (by omega) q_) rfl rfl ?_ | refine aF rfl (fun _ => dZ rfl rfl (by omega) rfl) rfl rfl ?_ | refine aF rfl (fun _ => dK rfl rfl) rfl rfl ?_ | refine aF rfl (fun _ => dV rfl rfl) rfl rfl ?_ | refine aF rfl (fun _ => dW rfl rfl) rfl rfl ?_) | (refine bR ?_; first | refine aF rfl (fun _ => dX rfl w_) rfl rfl ?_) | (refine gJ ?_; first | refine aF rfl (fun _ => dC rfl w_) rfl rfl ?_) | (refine gG ?_; first | refine aF rfl (fun _ => bL rfl) rfl rfl ?_ | refine aF rfl (fun _ => dJ rfl rfl) rfl rfl ?_ | refine aF rfl (fun _ => dL rfl rfl) rfl rfl ?_ | refine aF rfl (fun _ => dM rfl rfl rfl) rfl rfl ?_) | (refine gN ?_; first | refine fZ rfl (by decide) rfl rfl ?_ | refine iY rfl (by decide) rfl rfl ?_) | (refine gK ?_; first | refine aF rfl (fun _ => dB rfl) rfl rfl ?_) | (refine gH ?_; first | refine jA rfl rfl iK rfl rfl ?_ | refine iX sG rfl rfl iK aS jD rfl rfl ?_ | refine iV sG rfl rfl iK aS jD rfl rfl ?_ | refine aF rfl (fun _ => bP rfl rfl iK) rfl rfl ?_) | (refine gT ?_; first | refine iW sG rfl aS oK rfl rfl ?_ | refine iU sG rfl aS oK rfl rfl ?_ | refine fU sG rfl aS oK rfl rfl ?_ | refine gQ sG rfl aS oK rfl rfl ?_ | refine kZ sG rfl aS iN fE rfl rfl ?_ | refine kV sG rfl aS iN fE rfl rfl ?_ | refine kT sG rfl aS iN fE rfl rfl ?_ | refine jX sG rfl aS iN fE rfl rfl ?_) | (refine fV ?_; first | refine aF rfl (fun _ => bQ rfl rfl) rfl rfl ?_ | refine aF rfl (fun _ => bI rfl) rfl rfl ?_) | (refine iO ?_; first | refine kI rfl rfl rfl mV stC rfl rfl ⟨nO, ?_⟩ | refine iC rfl rfl fE rE mV qP rfl rfl ⟨nO, ?_⟩) | (refine iF ?_; first | refine cK rfl ?_ | refine bN rfl ?_ | refine jR rfl (by omega) ?_ | refine mD rfl (by omega) ?_))); exact hh.out)) : p := w ⟨h⟩
end Go.Fx
namespace Go.Proofs.YtjbhdfpjnjedhaaGreat
open Go Go.Fx
abbrev eG : Int → List Value := eI .u32
theorem uZ (l : List Int) (i : Nat) : gt l (i : Int) = l.getD i 0 := aFB l i
theorem aKW {l : List Int} {i : Int} (h : (l.length : Int) ≤ i) : gt l i = 0 := by
 unfold gt
 simp [List.getD, show l.length ≤ i.toNat by omega]
theorem pM (l : List Int) (i : Nat) (x : Int) : st l (i : Int) x = l.set i x := rfl
theorem Dig.gt {l : List Int} (h : Dig l) (i : Int) : 0 ≤ gt l i ∧ gt l i < 1000000000 := h.getD i.toNat
section
variable {X : List Nat} {w0 : World} {M0 : List Ent} {I0 : List aY}
theorem aKJ {q : Option Addr} {l : List Int} {n c : Nat} {i : Int} (hn : n = l.length) (hi : 0 ≤ i) (hl : aO q (recs eG l) ∈ I0) :
  CD Tryz.prog 251 [.slice q n c, .int .i64 i] X w0 M0 I0 (fun v M I => M0 = M ∧ I0 = I ∧ v = .int .u32 (gt l i)) := by
 subst hn
 refine dY Tryz.func251 rfl Tryz.ntmps251 rfl ?_
 repeat' (first | refine lG ?_ | refine aM rfl (fun h => ?_) (fun h => ?_) | refine aN rfl rfl (fun h => ?_) (fun h => ?_) | fail)
 ·refine aH (by first | exact .inl rfl | exact .inr rfl) rfl rfl _ _ bV bT (⟨rfl, rfl, rfl⟩)
 ·refine aH (by first | exact .inl rfl | exact .inr rfl) rfl rfl _ _ bV bT (⟨rfl, rfl, by rw [aKW (by omega)]⟩)
theorem qE {q : Option Addr} {l : List Int} {n c : Nat} (hn : n = l.length) (h63 : n ≤ 1000000000000) (hc : l.length ≤ c) (hl : aO q (recs eG l) ∈ I0) :
  CD Tryz.prog 238 [.slice q n c] X w0 M0 I0 (fun v M I => M0 = M ∧ I = aO q (recs eG (fQ l)) :: I0 ∧ v = .slice q (fQ l).length c) := by
 subst hn
 refine dY Tryz.func238 rfl Tryz.ntmps238 rfl ?_
 refine zH (φ := 0 < l.length → Ok q) (fun w hw h => (hw.sl hl).ok (by rw [iL]; omega)) (fun hq => ?_)
 repeat (refine lG ?_)
 refine aT [] rfl (fun k G M I => ∃ m : Nat, m ≤ l.length ∧ k = m ∧ fQ (l.take m) = fQ l ∧ G = [(0, .slice q m c)] ∧ M0 = M ∧ I0 = I) (l.length) _ _ _ aP bV bT (⟨l.length, by omega, rfl, by rw [List.take_length], rfl, rfl, rfl⟩) ?_
 rintro k G M I ⟨m, hm, rfl, ht, rfl, rfl, rfl⟩
 repeat' (first | refine lG ?_ | refine aM rfl (fun h => ?_) (fun h => ?_) | refine aN rfl rfl (fun h => ?_) (fun h => ?_) | fail)
 ·obtain ⟨b, o, rfl⟩ := (hq (by omega)).cases
  refine aF rfl (fun _ => pE (k - 1) rfl rfl (by omega) (by omega)) rfl rfl ?_
  repeat (refine lG ?_)
  have h1 := h
  refine aL (k - 1) _ _ _ (by first | omega | (simp only [List.length_append, List.length_cons, List.length_nil]; omega)) aP bV bT (⟨k - 1, by omega, rfl, ?_, rfl, rfl, rfl⟩)
  rw [← ht]
  obtain ⟨j, rfl⟩ : ∃ j, k = j + 1 := ⟨k - 1, by omega⟩
  have hj : j < l.length := by omega
  have e0 : gt l (j : Int) = 0 := by
   have e : ((j + 1 : Nat) : Int) - 1 = j := by omega
   rw [e] at h1
   exact h1
  rw [fT hj] at e0
  rw [List.take_succ_eq_append_getElem hj, e0, vF]
  rfl
 ·have h1 := h
  have htop : Top (l.take k) := by
   obtain ⟨j, rfl⟩ : ∃ j, k = j + 1 := ⟨k - 1, by omega⟩
   have hj : j < l.length := by omega
   rw [List.take_succ_eq_append_getElem hj, Top.snoc, ← fT hj]
   have e : ((j + 1 : Nat) : Int) - 1 = j := by omega
   rw [e] at h1
   exact h1
  have e1 : fQ l = l.take k := by rw [← ht, aBT htop]
  refine yY (fun w hw => hw.takeI (cs := recs eG (fQ l)) (tl := recs eG (l.drop k)) (by rw [e1, ← mZ, List.take_append_drop]; exact hl)) ?_
  refine aH (by first | exact .inl rfl | exact .inr rfl) rfl rfl _ _ bV bT (⟨rfl, rfl, by rw [e1]; simp; omega⟩)
 ·have h0 : k = 0 := by omega
  subst h0
  have e1 : fQ l = [] := by rw [← ht]; rfl
  rw [e1]
  refine aES q ?_
  refine aH (by first | exact .inl rfl | exact .inr rfl) rfl rfl _ _ bV bT (⟨rfl, rfl, rfl⟩)
def GrP (n : Nat) (M0 : List Ent) (I0 : List aY) (v : Value) (M : List Ent) (I : List aY) : Prop := M0 = M ∧ ∃ q c, v = .slice q (gr n).length c ∧ ((gr n).length ≤ c ∧ (Ok q ∨ ((gr n).length = 0 ∧ c = 0))) ∧ I = aO q (recs eG (gr n)) :: I0
theorem aLC {p q : Option Addr} {m n cp cq : Nat} (hm : (gr m).length ≤ 100000000000) (hn : (gr n).length ≤ 100000000000) (hp : aO p (recs eG (gr m)) ∈ I0) (hq : aO q (recs eG (gr n)) ∈ I0) :
  CD Tryz.prog 229 [.slice p (gr m).length cp, .slice q (gr n).length cq] X w0 M0 I0 (GrP (m + n) M0 I0) := by
 have da := bY m
 have db := bY n
 have va := dD m
 have vb := dD n
 generalize ha : gr m = a at *
 generalize hb : gr n = b at *
 obtain ⟨N, hN⟩ : ∃ N : Nat, N = max a.length b.length + 1 := ⟨_, rfl⟩
 refine dY Tryz.func229 rfl Tryz.ntmps229 rfl ?_
 repeat (refine lG ?_)
 (refine kD (N) rfl rfl (by omega) (by omega) (by omega) (by omega) (nL _ _) rfl rfl ?_; intro bo; refine ⟨nO, ?_⟩)
 repeat (refine lG ?_)
 refine aT [0, 1, 5, 17] rfl (fun k G M I => ∃ (i : Nat) (o : List Int) (cr : Int), i ≤ N ∧ k = N - i ∧ o.length = N ∧ Dig (o.take i) ∧ (0 ≤ cr ∧ cr ≤ 1) ∧ val (o.take i) + 1000000000 ^ i * cr = val (a.take i) + val (b.take i) ∧ G = [(6, .int .u32 cr), (18, .int .i64 i)] ∧ M = .blk bo (recs eG o) 104 :: M0 ∧ I0 = I) (N) _ _ _ aP bV bT (⟨0, _, 0, by omega, by omega, by simp, by simp [Dig], by omega, by simp [val], rfl, rfl, rfl⟩) ?_
 rintro k G M I ⟨i, o, cr, hi, rfl, ho, hd, hcr, hv, rfl, rfl, rfl⟩
 repeat' (first | refine lG ?_ | refine aM rfl (fun h => ?_) (fun h => ?_) | refine aN rfl rfl (fun h => ?_) (fun h => ?_) | fail)
 ·(refine aU rfl (aKJ (i := i) rfl (by omega) hp) rfl rfl ?_; rintro _ _ _ ⟨rfl, rfl, rfl⟩; refine ⟨nO, ?_⟩)
  have d1 := da.gt i
  have d2 := db.gt i
  repeat (refine lG ?_)
  (refine aU rfl (aKJ (i := i) rfl (by omega) hq) rfl rfl ?_; rintro _ _ _ ⟨rfl, rfl, rfl⟩; refine ⟨nO, ?_⟩)
  repeat' (first | refine lG ?_ | refine aM rfl (fun h => ?_) (fun h => ?_) | refine aN rfl rfl (fun h => ?_) (fun h => ?_) | fail)
  ·refine aL (N - (i + 1)) _ _ _ (by first | omega | (simp only [List.length_append, List.length_cons, List.length_nil]; omega)) aP bV bT (⟨i + 1, _, 1, by omega, rfl, by rw [eQ]; exact ho, ?_, by omega, ?_, rfl, rfl, rfl⟩)
   ·rw [pM, jC _ _ _ (by omega)]; exact hd.snoc (by omega)
   ·exact aGB hv (by omega) (s := gt a i + gt b i + cr) rfl (by omega)
  ·refine aL (N - (i + 1)) _ _ _ (by first | omega | (simp only [List.length_append, List.length_cons, List.length_nil]; omega)) aP bV bT (⟨i + 1, _, 0, by omega, rfl, by rw [eQ]; exact ho, ?_, by omega, ?_, rfl, rfl, rfl⟩)
   ·rw [pM, jC _ _ _ (by omega)]; exact hd.snoc (by omega)
   ·exact aGB hv (by omega) (s := gt a i + gt b i + cr) rfl (by omega)
 ·have hiN : i = N := by omega
  subst hiN
  rw [List.take_of_length_le (show o.length ≤ i by omega)] at hv hd
  rw [List.take_of_length_le (show a.length ≤ i by omega), List.take_of_length_le (show b.length ≤ i by omega), va, vb] at hv
  have hcr0 : cr = 0 := by
   have h1 := jY da
   have h2 := jY db
   have h3 := mX (show a.length ≤ i - 1 by omega)
   have h4 := mX (show b.length ≤ i - 1 by omega)
   have h5 : (1000000000 : Int) ^ i = 1000000000 ^ (i - 1) * 1000000000 := by
    rw [← Int.pow_succ]; congr 1; omega
   have h6 := jH (i - 1)
   have h7 := bX hd
   by_cases c : cr = 0
   ·exact c
   ·have : cr = 1 := by omega
    subst this
    omega
  subst hcr0
  have hg : fQ o = gr (m + n) := nK hd (by omega)
  refine bC vM ?_
  (refine aU rfl (qE (l := o) (c := i) ho.symm (by omega) (by omega) aS) rfl rfl ?_; rintro _ _ _ ⟨rfl, rfl, rfl⟩; refine ⟨nO, ?_⟩)
  repeat (refine lG ?_)
  rw [hg]
  refine aH (by first | exact .inl rfl | exact .inr rfl) rfl rfl _ _ bV bT (⟨rfl, _, _, rfl, ⟨by rw [← hg]; have := uB o; obtain ⟨k, h1, h2, _⟩ := this; rw [h2]; simp; omega, .inl (Ok.mk _ _)⟩, rfl⟩)
end
end Go.Proofs.YtjbhdfpjnjedhaaGreat
