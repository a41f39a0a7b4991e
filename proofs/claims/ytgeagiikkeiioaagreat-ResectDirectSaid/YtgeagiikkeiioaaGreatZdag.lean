/- The types and functions of this seat, as instances. Written by facts.py. A premise that no search takes for another; looks alone. The walk, kept once. integer: magnitudes: at, trim, plus, minus, compare, times, short -/
import Derived.Test.YtgeagiikkeiioaaGreatProg
import Derived.Test.YtgeagiikkeiioaaGreatZdac
import Derived.KernelRfl
import Derived.Test.YtgeagiikkeiioaaGreatZdae
import Derived.Test.YtgeagiikkeiioaaGreatZdaf
set_option linter.unusedSimpArgs false
set_option linter.unusedVariables false
set_option maxRecDepth 100000
set_option maxHeartbeats 4000000
namespace Go.Proofs.YtgeagiikkeiioaaGreat
open Go Go.Fx
instance : IntTy Tryz.prog 2 .i64 := ⟨Tryz.underlying2⟩
instance : ScalarTy Tryz.prog 3 := ⟨⟨_, Tryz.underlying3, (by intro _ h; cases h), (by intro _ _ h; cases h)⟩, by kernel_rfl⟩
instance : IntTy Tryz.prog 3 .i64 := ⟨Tryz.underlying3⟩
instance : ElemTy Tryz.prog 3 1 8 [.int .i64 0] := ⟨by kernel_rfl, rfl⟩
instance : ScalarTy Tryz.prog 4 := ⟨⟨_, Tryz.underlying4, (by intro _ h; cases h), (by intro _ _ h; cases h)⟩, by kernel_rfl⟩
instance : BoolTy Tryz.prog 4 := ⟨Tryz.underlying4⟩
instance : ScalarTy Tryz.prog 22 := ⟨⟨_, Tryz.underlying22, (by intro _ h; cases h), (by intro _ _ h; cases h)⟩, by kernel_rfl⟩
instance : SliceTy Tryz.prog 22 43 12 := ⟨Tryz.underlying22, by kernel_rfl⟩
instance : ScalarTy Tryz.prog 23 := ⟨⟨_, Tryz.underlying23, (by intro _ h; cases h), (by intro _ _ h; cases h)⟩, by kernel_rfl⟩
instance : SliceTy Tryz.prog 23 47 8 := ⟨Tryz.underlying23, by kernel_rfl⟩
instance : AggTy Tryz.prog 25 2 := ⟨.inl ⟨_, Tryz.underlying25⟩, by kernel_rfl⟩
instance : FieldAt Tryz.prog 25 0 0 22 1 := ⟨⟨_, _, Tryz.underlying25, rfl, rfl, rfl⟩, by kernel_rfl⟩
instance : FieldAt Tryz.prog 25 1 1 23 1 := ⟨⟨_, _, Tryz.underlying25, rfl, rfl, rfl⟩, by kernel_rfl⟩
instance : SliceTy Tryz.prog 28 34 1 := ⟨Tryz.underlying28, by kernel_rfl⟩
instance : ScalarTy Tryz.prog 29 := ⟨⟨_, Tryz.underlying29, (by intro _ h; cases h), (by intro _ _ h; cases h)⟩, by kernel_rfl⟩
instance : SliceTy Tryz.prog 29 34 1 := ⟨Tryz.underlying29, by kernel_rfl⟩
instance : ScalarTy Tryz.prog 34 := ⟨⟨_, Tryz.underlying34, (by intro _ h; cases h), (by intro _ _ h; cases h)⟩, by kernel_rfl⟩
instance : SliceTy Tryz.prog 34 42 4 := ⟨Tryz.underlying34, by kernel_rfl⟩
instance : ElemTy Tryz.prog 34 1 24 [.slice none 0 0] := ⟨by kernel_rfl, rfl⟩
instance : ScalarTy Tryz.prog 38 := ⟨⟨_, Tryz.underlying38, (by intro _ h; cases h), (by intro _ _ h; cases h)⟩, by kernel_rfl⟩
instance : SliceTy Tryz.prog 38 155 1 := ⟨Tryz.underlying38, by kernel_rfl⟩
instance : AggTy Tryz.prog 40 2 := ⟨.inl ⟨_, Tryz.underlying40⟩, by kernel_rfl⟩
instance : StructTy Tryz.prog 40 [(0, 1), (1, 1)] [.bool false, .slice none 0 0] := ⟨⟨_, Tryz.underlying40, by kernel_rfl⟩, by kernel_rfl⟩
instance : FieldAt Tryz.prog 40 0 0 4 1 := ⟨⟨_, _, Tryz.underlying40, rfl, rfl, rfl⟩, by kernel_rfl⟩
instance : FieldAt Tryz.prog 40 1 1 38 1 := ⟨⟨_, _, Tryz.underlying40, rfl, rfl, rfl⟩, by kernel_rfl⟩
instance : ElemTy Tryz.prog 40 2 32 [.bool false, .slice none 0 0] := ⟨by kernel_rfl, rfl⟩
instance : AggTy Tryz.prog 42 4 := ⟨.inl ⟨_, Tryz.underlying42⟩, by kernel_rfl⟩
instance : StructTy Tryz.prog 42 [(0, 2), (2, 2)] [.bool false, .slice none 0 0, .bool false, .slice none 0 0] := ⟨⟨_, Tryz.underlying42, by kernel_rfl⟩, by kernel_rfl⟩
instance : FieldAt Tryz.prog 42 0 0 40 2 := ⟨⟨_, _, Tryz.underlying42, rfl, rfl, rfl⟩, by kernel_rfl⟩
instance : FieldAt Tryz.prog 42 1 2 40 2 := ⟨⟨_, _, Tryz.underlying42, rfl, rfl, rfl⟩, by kernel_rfl⟩
instance : ElemTy Tryz.prog 42 4 64 [.bool false, .slice none 0 0, .bool false, .slice none 0 0] := ⟨by kernel_rfl, rfl⟩
instance : AggTy Tryz.prog 43 12 := ⟨.inr ⟨_, _, Tryz.underlying43⟩, by kernel_rfl⟩
instance : ArrTy Tryz.prog 43 3 42 4 := ⟨Tryz.underlying43, by kernel_rfl⟩
instance : ElemTy Tryz.prog 43 12 192 [.bool false, .slice none 0 0, .bool false, .slice none 0 0, .bool false, .slice none 0 0, .bool false, .slice none 0 0, .bool false, .slice none 0 0, .bool false, .slice none 0 0] := ⟨by kernel_rfl, rfl⟩
instance : AggTy Tryz.prog 47 8 := ⟨.inl ⟨_, Tryz.underlying47⟩, by kernel_rfl⟩
instance : StructTy Tryz.prog 47 [(0, 4), (4, 4)] [.bool false, .slice none 0 0, .bool false, .slice none 0 0, .bool false, .slice none 0 0, .bool false, .slice none 0 0] := ⟨⟨_, Tryz.underlying47, by kernel_rfl⟩, by kernel_rfl⟩
instance : FieldAt Tryz.prog 47 0 0 42 4 := ⟨⟨_, _, Tryz.underlying47, rfl, rfl, rfl⟩, by kernel_rfl⟩
instance : FieldAt Tryz.prog 47 1 4 42 4 := ⟨⟨_, _, Tryz.underlying47, rfl, rfl, rfl⟩, by kernel_rfl⟩
instance : ElemTy Tryz.prog 47 8 128 [.bool false, .slice none 0 0, .bool false, .slice none 0 0, .bool false, .slice none 0 0, .bool false, .slice none 0 0] := ⟨by kernel_rfl, rfl⟩
instance : SliceTy Tryz.prog 85 3 1 := ⟨Tryz.underlying85, by kernel_rfl⟩
instance : AggTy Tryz.prog 101 24 := ⟨.inr ⟨_, _, Tryz.underlying101⟩, by kernel_rfl⟩
instance : ArrTy Tryz.prog 101 3 47 8 := ⟨Tryz.underlying101, by kernel_rfl⟩
instance : ElemTy Tryz.prog 101 24 384 [.bool false, .slice none 0 0, .bool false, .slice none 0 0, .bool false, .slice none 0 0, .bool false, .slice none 0 0, .bool false, .slice none 0 0, .bool false, .slice none 0 0, .bool false, .slice none 0 0, .bool false, .slice none 0 0, .bool false, .slice none 0 0, .bool false, .slice none 0 0, .bool false, .slice none 0 0, .bool false, .slice none 0 0] := ⟨by kernel_rfl, rfl⟩
instance : AggTy Tryz.prog 149 12 := ⟨.inl ⟨_, Tryz.underlying149⟩, by kernel_rfl⟩
instance : StructTy Tryz.prog 149 [(0, 4), (4, 8)] [.bool false, .slice none 0 0, .bool false, .slice none 0 0, .bool false, .slice none 0 0, .bool false, .slice none 0 0, .bool false, .slice none 0 0, .bool false, .slice none 0 0] := ⟨⟨_, Tryz.underlying149, by kernel_rfl⟩, by kernel_rfl⟩
instance : FieldAt Tryz.prog 149 0 0 42 4 := ⟨⟨_, _, Tryz.underlying149, rfl, rfl, rfl⟩, by kernel_rfl⟩
instance : FieldAt Tryz.prog 149 1 4 47 8 := ⟨⟨_, _, Tryz.underlying149, rfl, rfl, rfl⟩, by kernel_rfl⟩
instance : ElemTy Tryz.prog 149 12 192 [.bool false, .slice none 0 0, .bool false, .slice none 0 0, .bool false, .slice none 0 0, .bool false, .slice none 0 0, .bool false, .slice none 0 0, .bool false, .slice none 0 0] := ⟨by kernel_rfl, rfl⟩
instance : ArrTy Tryz.prog 151 2 149 12 := ⟨Tryz.underlying151, by kernel_rfl⟩
instance : ElemTy Tryz.prog 151 24 384 [.bool false, .slice none 0 0, .bool false, .slice none 0 0, .bool false, .slice none 0 0, .bool false, .slice none 0 0, .bool false, .slice none 0 0, .bool false, .slice none 0 0, .bool false, .slice none 0 0, .bool false, .slice none 0 0, .bool false, .slice none 0 0, .bool false, .slice none 0 0, .bool false, .slice none 0 0, .bool false, .slice none 0 0] := ⟨by kernel_rfl, rfl⟩
instance : ScalarTy Tryz.prog 155 := ⟨⟨_, Tryz.underlying155, (by intro _ h; cases h), (by intro _ _ h; cases h)⟩, by kernel_rfl⟩
instance : IntTy Tryz.prog 155 .u32 := ⟨Tryz.underlying155⟩
instance : ElemTy Tryz.prog 155 1 4 [.int .u32 0] := ⟨by kernel_rfl, rfl⟩
instance : ScalarTy Tryz.prog 172 := ⟨⟨_, Tryz.underlying172, (by intro _ h; cases h), (by intro _ _ h; cases h)⟩, by kernel_rfl⟩
instance : IntTy Tryz.prog 172 .u64 := ⟨Tryz.underlying172⟩
instance : FnOk Tryz.prog 3 := ⟨_, Tryz.func3, by kernel_rfl, by kernel_rfl⟩
instance : FnOk Tryz.prog 13 := ⟨_, Tryz.func13, by kernel_rfl, by kernel_rfl⟩
instance : FnOk Tryz.prog 14 := ⟨_, Tryz.func14, by kernel_rfl, by kernel_rfl⟩
instance : FnOk Tryz.prog 15 := ⟨_, Tryz.func15, by kernel_rfl, by kernel_rfl⟩
instance : FnOk Tryz.prog 16 := ⟨_, Tryz.func16, by kernel_rfl, by kernel_rfl⟩
instance : FnOk Tryz.prog 17 := ⟨_, Tryz.func17, by kernel_rfl, by kernel_rfl⟩
instance : FnOk Tryz.prog 18 := ⟨_, Tryz.func18, by kernel_rfl, by kernel_rfl⟩
instance : FnOk Tryz.prog 19 := ⟨_, Tryz.func19, by kernel_rfl, by kernel_rfl⟩
instance : FnOk Tryz.prog 20 := ⟨_, Tryz.func20, by kernel_rfl, by kernel_rfl⟩
instance : FnOk Tryz.prog 21 := ⟨_, Tryz.func21, by kernel_rfl, by kernel_rfl⟩
instance : FnOk Tryz.prog 23 := ⟨_, Tryz.func23, by kernel_rfl, by kernel_rfl⟩
instance : FnOk Tryz.prog 25 := ⟨_, Tryz.func25, by kernel_rfl, by kernel_rfl⟩
instance : FnOk Tryz.prog 27 := ⟨_, Tryz.func27, by kernel_rfl, by kernel_rfl⟩
instance : FnOk Tryz.prog 30 := ⟨_, Tryz.func30, by kernel_rfl, by kernel_rfl⟩
instance : FnOk Tryz.prog 31 := ⟨_, Tryz.func31, by kernel_rfl, by kernel_rfl⟩
instance : FnOk Tryz.prog 34 := ⟨_, Tryz.func34, by kernel_rfl, by kernel_rfl⟩
instance : FnOk Tryz.prog 35 := ⟨_, Tryz.func35, by kernel_rfl, by kernel_rfl⟩
instance : FnOk Tryz.prog 36 := ⟨_, Tryz.func36, by kernel_rfl, by kernel_rfl⟩
instance : FnOk Tryz.prog 38 := ⟨_, Tryz.func38, by kernel_rfl, by kernel_rfl⟩
instance : FnOk Tryz.prog 42 := ⟨_, Tryz.func42, by kernel_rfl, by kernel_rfl⟩
instance : FnOk Tryz.prog 43 := ⟨_, Tryz.func43, by kernel_rfl, by kernel_rfl⟩
instance : FnOk Tryz.prog 47 := ⟨_, Tryz.func47, by kernel_rfl, by kernel_rfl⟩
instance : FnOk Tryz.prog 55 := ⟨_, Tryz.func55, by kernel_rfl, by kernel_rfl⟩
instance : FnOk Tryz.prog 57 := ⟨_, Tryz.func57, by kernel_rfl, by kernel_rfl⟩
instance : FnOk Tryz.prog 61 := ⟨_, Tryz.func61, by kernel_rfl, by kernel_rfl⟩
instance : FnOk Tryz.prog 62 := ⟨_, Tryz.func62, by kernel_rfl, by kernel_rfl⟩
instance : FnOk Tryz.prog 63 := ⟨_, Tryz.func63, by kernel_rfl, by kernel_rfl⟩
instance : FnOk Tryz.prog 64 := ⟨_, Tryz.func64, by kernel_rfl, by kernel_rfl⟩
instance : FnOk Tryz.prog 65 := ⟨_, Tryz.func65, by kernel_rfl, by kernel_rfl⟩
instance : FnOk Tryz.prog 66 := ⟨_, Tryz.func66, by kernel_rfl, by kernel_rfl⟩
instance : FnOk Tryz.prog 67 := ⟨_, Tryz.func67, by kernel_rfl, by kernel_rfl⟩
instance : FnOk Tryz.prog 68 := ⟨_, Tryz.func68, by kernel_rfl, by kernel_rfl⟩
instance : FnOk Tryz.prog 69 := ⟨_, Tryz.func69, by kernel_rfl, by kernel_rfl⟩
instance : FnOk Tryz.prog 70 := ⟨_, Tryz.func70, by kernel_rfl, by kernel_rfl⟩
instance : FnOk Tryz.prog 71 := ⟨_, Tryz.func71, by kernel_rfl, by kernel_rfl⟩
instance : FnOk Tryz.prog 72 := ⟨_, Tryz.func72, by kernel_rfl, by kernel_rfl⟩
instance : FnOk Tryz.prog 73 := ⟨_, Tryz.func73, by kernel_rfl, by kernel_rfl⟩
instance : FnOk Tryz.prog 74 := ⟨_, Tryz.func74, by kernel_rfl, by kernel_rfl⟩
instance : FnOk Tryz.prog 75 := ⟨_, Tryz.func75, by kernel_rfl, by kernel_rfl⟩
instance : FnOk Tryz.prog 76 := ⟨_, Tryz.func76, by kernel_rfl, by kernel_rfl⟩
instance : FnOk Tryz.prog 77 := ⟨_, Tryz.func77, by kernel_rfl, by kernel_rfl⟩
instance : FnOk Tryz.prog 78 := ⟨_, Tryz.func78, by kernel_rfl, by kernel_rfl⟩
instance : FnOk Tryz.prog 79 := ⟨_, Tryz.func79, by kernel_rfl, by kernel_rfl⟩
instance : FnOk Tryz.prog 80 := ⟨_, Tryz.func80, by kernel_rfl, by kernel_rfl⟩
instance : FnOk Tryz.prog 81 := ⟨_, Tryz.func81, by kernel_rfl, by kernel_rfl⟩
instance : FnOk Tryz.prog 82 := ⟨_, Tryz.func82, by kernel_rfl, by kernel_rfl⟩
instance : FnOk Tryz.prog 83 := ⟨_, Tryz.func83, by kernel_rfl, by kernel_rfl⟩
instance : FnOk Tryz.prog 86 := ⟨_, Tryz.func86, by kernel_rfl, by kernel_rfl⟩
instance : FnOk Tryz.prog 88 := ⟨_, Tryz.func88, by kernel_rfl, by kernel_rfl⟩
instance : FnOk Tryz.prog 89 := ⟨_, Tryz.func89, by kernel_rfl, by kernel_rfl⟩
instance : FnOk Tryz.prog 105 := ⟨_, Tryz.func105, by kernel_rfl, by kernel_rfl⟩
instance : FnOk Tryz.prog 108 := ⟨_, Tryz.func108, by kernel_rfl, by kernel_rfl⟩
instance : FnOk Tryz.prog 111 := ⟨_, Tryz.func111, by kernel_rfl, by kernel_rfl⟩
instance : FnOk Tryz.prog 113 := ⟨_, Tryz.func113, by kernel_rfl, by kernel_rfl⟩
instance : FnOk Tryz.prog 114 := ⟨_, Tryz.func114, by kernel_rfl, by kernel_rfl⟩
instance : FnOk Tryz.prog 115 := ⟨_, Tryz.func115, by kernel_rfl, by kernel_rfl⟩
instance : FnOk Tryz.prog 118 := ⟨_, Tryz.func118, by kernel_rfl, by kernel_rfl⟩
instance : FnOk Tryz.prog 119 := ⟨_, Tryz.func119, by kernel_rfl, by kernel_rfl⟩
instance : FnOk Tryz.prog 120 := ⟨_, Tryz.func120, by kernel_rfl, by kernel_rfl⟩
instance : FnOk Tryz.prog 121 := ⟨_, Tryz.func121, by kernel_rfl, by kernel_rfl⟩
instance : FnOk Tryz.prog 122 := ⟨_, Tryz.func122, by kernel_rfl, by kernel_rfl⟩
instance : FnOk Tryz.prog 123 := ⟨_, Tryz.func123, by kernel_rfl, by kernel_rfl⟩
instance : FnOk Tryz.prog 124 := ⟨_, Tryz.func124, by kernel_rfl, by kernel_rfl⟩
instance : FnOk Tryz.prog 125 := ⟨_, Tryz.func125, by kernel_rfl, by kernel_rfl⟩
instance : FnOk Tryz.prog 126 := ⟨_, Tryz.func126, by kernel_rfl, by kernel_rfl⟩
instance : FnOk Tryz.prog 127 := ⟨_, Tryz.func127, by kernel_rfl, by kernel_rfl⟩
instance : FnOk Tryz.prog 128 := ⟨_, Tryz.func128, by kernel_rfl, by kernel_rfl⟩
instance : FnOk Tryz.prog 129 := ⟨_, Tryz.func129, by kernel_rfl, by kernel_rfl⟩
instance : FnOk Tryz.prog 130 := ⟨_, Tryz.func130, by kernel_rfl, by kernel_rfl⟩
instance : FnOk Tryz.prog 131 := ⟨_, Tryz.func131, by kernel_rfl, by kernel_rfl⟩
instance : FnOk Tryz.prog 132 := ⟨_, Tryz.func132, by kernel_rfl, by kernel_rfl⟩
instance : FnOk Tryz.prog 133 := ⟨_, Tryz.func133, by kernel_rfl, by kernel_rfl⟩
instance : FnOk Tryz.prog 134 := ⟨_, Tryz.func134, by kernel_rfl, by kernel_rfl⟩
instance : FnOk Tryz.prog 135 := ⟨_, Tryz.func135, by kernel_rfl, by kernel_rfl⟩
instance : FnOk Tryz.prog 136 := ⟨_, Tryz.func136, by kernel_rfl, by kernel_rfl⟩
instance : FnOk Tryz.prog 137 := ⟨_, Tryz.func137, by kernel_rfl, by kernel_rfl⟩
instance : FnOk Tryz.prog 138 := ⟨_, Tryz.func138, by kernel_rfl, by kernel_rfl⟩
instance : FnOk Tryz.prog 139 := ⟨_, Tryz.func139, by kernel_rfl, by kernel_rfl⟩
instance : FnOk Tryz.prog 140 := ⟨_, Tryz.func140, by kernel_rfl, by kernel_rfl⟩
instance : FnOk Tryz.prog 141 := ⟨_, Tryz.func141, by kernel_rfl, by kernel_rfl⟩
instance : FnOk Tryz.prog 145 := ⟨_, Tryz.func145, by kernel_rfl, by kernel_rfl⟩
instance : FnOk Tryz.prog 146 := ⟨_, Tryz.func146, by kernel_rfl, by kernel_rfl⟩
instance : FnOk Tryz.prog 147 := ⟨_, Tryz.func147, by kernel_rfl, by kernel_rfl⟩
instance : FnOk Tryz.prog 148 := ⟨_, Tryz.func148, by kernel_rfl, by kernel_rfl⟩
instance : FnOk Tryz.prog 149 := ⟨_, Tryz.func149, by kernel_rfl, by kernel_rfl⟩
instance : FnOk Tryz.prog 151 := ⟨_, Tryz.func151, by kernel_rfl, by kernel_rfl⟩
instance : FnOk Tryz.prog 155 := ⟨_, Tryz.func155, by kernel_rfl, by kernel_rfl⟩
instance : FnOk Tryz.prog 157 := ⟨_, Tryz.func157, by kernel_rfl, by kernel_rfl⟩
instance : FnOk Tryz.prog 158 := ⟨_, Tryz.func158, by kernel_rfl, by kernel_rfl⟩
instance : FnOk Tryz.prog 159 := ⟨_, Tryz.func159, by kernel_rfl, by kernel_rfl⟩
instance : FnOk Tryz.prog 160 := ⟨_, Tryz.func160, by kernel_rfl, by kernel_rfl⟩
instance : FnOk Tryz.prog 165 := ⟨_, Tryz.func165, by kernel_rfl, by kernel_rfl⟩
instance : FnOk Tryz.prog 166 := ⟨_, Tryz.func166, by kernel_rfl, by kernel_rfl⟩
instance : FnOk Tryz.prog 167 := ⟨_, Tryz.func167, by kernel_rfl, by kernel_rfl⟩
instance : FnOk Tryz.prog 168 := ⟨_, Tryz.func168, by kernel_rfl, by kernel_rfl⟩
instance : FnOk Tryz.prog 169 := ⟨_, Tryz.func169, by kernel_rfl, by kernel_rfl⟩
instance : FnOk Tryz.prog 170 := ⟨_, Tryz.func170, by kernel_rfl, by kernel_rfl⟩
instance : FnOk Tryz.prog 171 := ⟨_, Tryz.func171, by kernel_rfl, by kernel_rfl⟩
instance : FnOk Tryz.prog 172 := ⟨_, Tryz.func172, by kernel_rfl, by kernel_rfl⟩
instance : FnOk Tryz.prog 173 := ⟨_, Tryz.func173, by kernel_rfl, by kernel_rfl⟩
instance : FnOk Tryz.prog 174 := ⟨_, Tryz.func174, by kernel_rfl, by kernel_rfl⟩
instance : FnOk Tryz.prog 175 := ⟨_, Tryz.func175, by kernel_rfl, by kernel_rfl⟩
instance : FnOk Tryz.prog 176 := ⟨_, Tryz.func176, by kernel_rfl, by kernel_rfl⟩
instance : FnOk Tryz.prog 177 := ⟨_, Tryz.func177, by kernel_rfl, by kernel_rfl⟩
instance : FnOk Tryz.prog 178 := ⟨_, Tryz.func178, by kernel_rfl, by kernel_rfl⟩
instance : FnOk Tryz.prog 179 := ⟨_, Tryz.func179, by kernel_rfl, by kernel_rfl⟩
instance : FnOk Tryz.prog 180 := ⟨_, Tryz.func180, by kernel_rfl, by kernel_rfl⟩
instance : FnOk Tryz.prog 181 := ⟨_, Tryz.func181, by kernel_rfl, by kernel_rfl⟩
instance : FnOk Tryz.prog 182 := ⟨_, Tryz.func182, by kernel_rfl, by kernel_rfl⟩
instance : FnOk Tryz.prog 183 := ⟨_, Tryz.func183, by kernel_rfl, by kernel_rfl⟩
instance : FnOk Tryz.prog 184 := ⟨_, Tryz.func184, by kernel_rfl, by kernel_rfl⟩
instance : FnOk Tryz.prog 186 := ⟨_, Tryz.func186, by kernel_rfl, by kernel_rfl⟩
instance : FnOk Tryz.prog 187 := ⟨_, Tryz.func187, by kernel_rfl, by kernel_rfl⟩
instance : FnOk Tryz.prog 188 := ⟨_, Tryz.func188, by kernel_rfl, by kernel_rfl⟩
instance : FnOk Tryz.prog 189 := ⟨_, Tryz.func189, by kernel_rfl, by kernel_rfl⟩
instance : FnOk Tryz.prog 190 := ⟨_, Tryz.func190, by kernel_rfl, by kernel_rfl⟩
instance : FnOk Tryz.prog 192 := ⟨_, Tryz.func192, by kernel_rfl, by kernel_rfl⟩
instance : FnOk Tryz.prog 193 := ⟨_, Tryz.func193, by kernel_rfl, by kernel_rfl⟩
instance : FnOk Tryz.prog 195 := ⟨_, Tryz.func195, by kernel_rfl, by kernel_rfl⟩
instance : FnOk Tryz.prog 196 := ⟨_, Tryz.func196, by kernel_rfl, by kernel_rfl⟩
instance : FnOk Tryz.prog 197 := ⟨_, Tryz.func197, by kernel_rfl, by kernel_rfl⟩
instance : FnOk Tryz.prog 201 := ⟨_, Tryz.func201, by kernel_rfl, by kernel_rfl⟩
instance : FnOk Tryz.prog 202 := ⟨_, Tryz.func202, by kernel_rfl, by kernel_rfl⟩
instance : FnOk Tryz.prog 203 := ⟨_, Tryz.func203, by kernel_rfl, by kernel_rfl⟩
instance : FnOk Tryz.prog 204 := ⟨_, Tryz.func204, by kernel_rfl, by kernel_rfl⟩
instance : FnOk Tryz.prog 205 := ⟨_, Tryz.func205, by kernel_rfl, by kernel_rfl⟩
instance : FnOk Tryz.prog 206 := ⟨_, Tryz.func206, by kernel_rfl, by kernel_rfl⟩
instance : FnOk Tryz.prog 207 := ⟨_, Tryz.func207, by kernel_rfl, by kernel_rfl⟩
instance : FnOk Tryz.prog 208 := ⟨_, Tryz.func208, by kernel_rfl, by kernel_rfl⟩
instance : FnOk Tryz.prog 209 := ⟨_, Tryz.func209, by kernel_rfl, by kernel_rfl⟩
instance : FnOk Tryz.prog 210 := ⟨_, Tryz.func210, by kernel_rfl, by kernel_rfl⟩
instance : FnOk Tryz.prog 211 := ⟨_, Tryz.func211, by kernel_rfl, by kernel_rfl⟩
instance : FnOk Tryz.prog 212 := ⟨_, Tryz.func212, by kernel_rfl, by kernel_rfl⟩
instance : FnOk Tryz.prog 213 := ⟨_, Tryz.func213, by kernel_rfl, by kernel_rfl⟩
instance : FnOk Tryz.prog 214 := ⟨_, Tryz.func214, by kernel_rfl, by kernel_rfl⟩
instance : FnOk Tryz.prog 215 := ⟨_, Tryz.func215, by kernel_rfl, by kernel_rfl⟩
instance : FnOk Tryz.prog 216 := ⟨_, Tryz.func216, by kernel_rfl, by kernel_rfl⟩
instance : FnOk Tryz.prog 217 := ⟨_, Tryz.func217, by kernel_rfl, by kernel_rfl⟩
instance : FnOk Tryz.prog 218 := ⟨_, Tryz.func218, by kernel_rfl, by kernel_rfl⟩
instance : FnOk Tryz.prog 219 := ⟨_, Tryz.func219, by kernel_rfl, by kernel_rfl⟩
instance : FnOk Tryz.prog 220 := ⟨_, Tryz.func220, by kernel_rfl, by kernel_rfl⟩
instance : FnOk Tryz.prog 221 := ⟨_, Tryz.func221, by kernel_rfl, by kernel_rfl⟩
instance : FnOk Tryz.prog 222 := ⟨_, Tryz.func222, by kernel_rfl, by kernel_rfl⟩
instance : FnOk Tryz.prog 223 := ⟨_, Tryz.func223, by kernel_rfl, by kernel_rfl⟩
instance : FnOk Tryz.prog 224 := ⟨_, Tryz.func224, by kernel_rfl, by kernel_rfl⟩
instance : FnOk Tryz.prog 225 := ⟨_, Tryz.func225, by kernel_rfl, by kernel_rfl⟩
instance : FnOk Tryz.prog 226 := ⟨_, Tryz.func226, by kernel_rfl, by kernel_rfl⟩
instance : FnOk Tryz.prog 227 := ⟨_, Tryz.func227, by kernel_rfl, by kernel_rfl⟩
instance : FnOk Tryz.prog 228 := ⟨_, Tryz.func228, by kernel_rfl, by kernel_rfl⟩
instance : FnOk Tryz.prog 229 := ⟨_, Tryz.func229, by kernel_rfl, by kernel_rfl⟩
instance : FnOk Tryz.prog 230 := ⟨_, Tryz.func230, by kernel_rfl, by kernel_rfl⟩
theorem mixed : Tryz.prog.follows .mixedOrders = true := by kernel_rfl
end Go.Proofs.YtgeagiikkeiioaaGreat
namespace Go.Fx
structure BoxP (g : Prop) : Prop where
 out : g
section
variable {P : Program} {n : Nat} {Q : Exit → Act → World → Prop} {G : Env} {X : List Nat} {w0 : World} {M : List Ent} {I : List bD} {ops l : List Oper} {m : Mode} {c : Code} {e : Exit}
structure Br (b : Bool) (p q : Prop) : Prop where
 y : b = true → p
 n : b = false → q
theorem Br.dec {p : Prop} [Decidable p] : Br (B p) p (¬ p) := ⟨fun h => Decidable.byContradiction (fun hn => by rw [aY hn] at h; cases h), fun h hp => by rw [bS hp] at h; cases h⟩
theorem Br.raw {b : Bool} : Br b (b = true) (b = false) := ⟨id, id⟩
theorem Br.lit : Br true True False := ⟨fun _ => True.intro, fun h => by cases h⟩
theorem Br.lit2 : Br false False True := ⟨fun h => (by cases h), fun _ => True.intro⟩
theorem aU {c : Operand} {x y : Code} {b : Bool} {p q : Prop} (hc : ev G c = some (.bool b)) (h1 : p → TD P n x Q G X w0 M I) (h2 : q → TD P n y Q G X w0 M I) (hb : Br b p q := by first | exact Br.dec | exact Br.raw | fail) : TD P n (.cond c x y) Q G X w0 M I :=
 oD hc (fun e => h1 (hb.y e)) (fun e => h2 (hb.n e))
theorem aT {op : Op} {ty : TypeId} {pos : String} {af : Array Edge} {d : Option Nat} {b : Bool} {p q : Prop} {g : Nat × Bool} {t : Nat} (hj : nY ops g.1 = some t) (hv : lk G t = some (.bool b))
  (h1 : p → RD P n ops Q m (⟨d, op, ty, pos, af, some g⟩ :: l) ((t, .bool true) :: G) X w0 M I) (h2 : q → RD P n ops Q m (⟨d, op, ty, pos, af, some g⟩ :: l) ((t, .bool false) :: G) X w0 M I) (hb : Br b p q := by first | exact Br.dec | ((fail_if_success exact Br.lit); (fail_if_success exact Br.lit2); exact Br.raw) | fail) :
  RD P n ops Q m (⟨d, op, ty, pos, af, some g⟩ :: l) G X w0 M I := oC hj hv (fun e => h1 (hb.y e)) (fun e => h2 (hb.n e))
end
end Go.Fx
namespace Go.Fx
theorem kR {p g : Prop} (h : g) (w : BoxP g → p := by (intro hh; (first | refine aK ?_ | refine aL ?_ | refine jT ?_ | refine iM ?_ | refine gF ?_ | refine fT ?_ | refine iN ?_ | refine gN ?_ | refine gD ?_ | refine fZ ?_ | refine jU ?_ | refine jV ?_ | refine jW ?_ | refine jX rfl ?_ | refine aJ ?_ | (refine gV ?_; first | refine gX rfl rfl rfl ?_ | (refine gU rfl rfl ?_; refine fK rfl rfl rfl mX ?_) | refine gZ rfl rfl (by omega) ?_ | refine iC rfl rfl (by omega) ?_) | (refine dD ?_; refine aH rfl (fun _ => eD rfl) rfl rfl ?_) | refine aH rfl (fun _ => bM rfl) rfl rfl ?_ | (refine gW ?_; first | refine aH rfl (fun _ => bX rfl rfl w_) rfl rfl ?_ | refine aH rfl (fun _ => bW rfl rfl w_) rfl rfl ?_ | refine aH rfl (fun _ => fD rfl rfl w_) rfl rfl ?_ | refine aH rfl (fun _ => fE rfl rfl (by omega) q_) rfl rfl ?_ | refine aH rfl (fun _ => fC rfl rfl (by omega) rfl) rfl rfl ?_ | refine aH rfl (fun _ => eQ rfl rfl) rfl rfl ?_ | refine aH rfl (fun _ => eT rfl rfl) rfl rfl ?_ | refine aH rfl (fun _ => dX rfl rfl) rfl rfl ?_) | (refine dD ?_; first | refine aH rfl (fun _ => fB rfl w_) rfl rfl ?_) | (refine gM ?_; first | refine aH rfl (fun _ => dM rfl w_) rfl rfl ?_) | (refine gP ?_; first | refine aH rfl (fun _ => bY rfl) rfl rfl ?_ | refine aH rfl (fun _ => dY rfl rfl) rfl rfl ?_ | refine aH rfl (fun _ => dZ rfl rfl) rfl rfl ?_ | refine aH rfl (fun _ => eF rfl rfl rfl) rfl rfl ?_) | (refine iB ?_; first | refine gT rfl (by decide) rfl rfl ?_ | refine jE rfl (by decide) rfl rfl ?_) | (refine gY ?_; first | refine jB rfl rfl fO rfl rfl ?_ | refine jG rC rfl rfl fO aX jK rfl rfl ?_ | refine jF rC rfl rfl fO aX jK rfl rfl ?_ | refine aH rfl (fun _ => cZ rfl rfl fO) rfl rfl ?_) | (refine bO ?_; first | refine jC rC rfl aX oV rfl rfl ?_ | refine jI rC rfl aX oV rfl rfl ?_ | refine jD rC rfl aX oV rfl rfl ?_ | refine gQ rC rfl aX oV rfl rfl ?_ | refine lX rC rfl aX jN gG rfl rfl ?_ | refine lV rC rfl aX jN gG rfl rfl ?_ | refine lW rC rfl aX jN gG rfl rfl ?_ | refine kH rC rfl aX jN gG rfl rfl ?_) | (refine iA ?_; first | refine aH rfl (fun _ => dB rfl rfl) rfl rfl ?_ | refine aH rfl (fun _ => bV rfl) rfl rfl ?_) | (refine jA ?_; first | refine kV rfl rfl rfl nE stC rfl rfl ⟨mX, ?_⟩ | refine gI rfl rfl gG rY nE rX rfl rfl ⟨mX, ?_⟩) | (refine iL ?_; first | refine dH rfl ?_ | refine cO rfl ?_ | refine jZ rfl (by omega) ?_ | refine lY rfl (by omega) ?_)); (repeat (first | refine aK ?_ | refine aL ?_ | refine jT ?_ | refine iM ?_ | refine gF ?_ | refine fT ?_ | refine iN ?_ | refine gN ?_ | refine gD ?_ | refine fZ ?_ | refine jU ?_ | refine jV ?_ | refine jW ?_ | refine jX rfl ?_ | refine aJ ?_ | (refine gV ?_; first | refine gX rfl rfl rfl ?_ | (refine gU rfl rfl ?_; refine fK rfl rfl rfl mX ?_) | refine gZ rfl rfl (by omega) ?_ | refine iC rfl rfl (by omega) ?_) | (refine dD ?_; refine aH rfl (fun _ => eD rfl) rfl rfl ?_) | refine aH rfl (fun _ => bM rfl) rfl rfl ?_ | (refine gW ?_; first | refine aH rfl (fun _ => bX rfl rfl w_) rfl rfl ?_ | refine aH rfl (fun _ => bW rfl rfl w_) rfl rfl ?_ | refine aH rfl (fun _ => fD rfl rfl w_) rfl rfl ?_ | refine aH rfl (fun _ => fE rfl rfl (by omega) q_) rfl rfl ?_ | refine aH rfl (fun _ => fC rfl rfl (by omega) rfl) rfl rfl ?_ | refine aH rfl (fun _ => eQ rfl rfl) rfl rfl ?_ | refine aH rfl (fun _ => eT rfl rfl) rfl rfl ?_ | refine aH rfl (fun _ => dX rfl rfl) rfl rfl ?_) | (refine dD ?_; first | refine aH rfl (fun _ => fB rfl w_) rfl rfl ?_) | (refine gM ?_; first | refine aH rfl (fun _ => dM rfl w_) rfl rfl ?_) | (refine gP ?_; first | refine aH rfl (fun _ => bY rfl) rfl rfl ?_ | refine aH rfl (fun _ => dY rfl rfl) rfl rfl ?_ | refine aH rfl (fun _ => dZ rfl rfl) rfl rfl ?_ | refine aH rfl (fun _ => eF rfl rfl rfl) rfl rfl ?_) | (refine iB ?_; first | refine gT rfl (by decide) rfl rfl ?_ | refine jE rfl (by decide) rfl rfl ?_) | (refine gY ?_; first | refine jB rfl rfl fO rfl rfl ?_ | refine jG rC rfl rfl fO aX jK rfl rfl ?_ | refine jF rC rfl rfl fO aX jK rfl rfl ?_ | refine aH rfl (fun _ => cZ rfl rfl fO) rfl rfl ?_) | (refine bO ?_; first | refine jC rC rfl aX oV rfl rfl ?_ | refine jI rC rfl aX oV rfl rfl ?_ | refine jD rC rfl aX oV rfl rfl ?_ | refine gQ rC rfl aX oV rfl rfl ?_ | refine lX rC rfl aX jN gG rfl rfl ?_ | refine lV rC rfl aX jN gG rfl rfl ?_ | refine lW rC rfl aX jN gG rfl rfl ?_ | refine kH rC rfl aX jN gG rfl rfl ?_) | (refine iA ?_; first | refine aH rfl (fun _ => dB rfl rfl) rfl rfl ?_ | refine aH rfl (fun _ => bV rfl) rfl rfl ?_) | (refine jA ?_; first | refine kV rfl rfl rfl nE stC rfl rfl ⟨mX, ?_⟩ | refine gI rfl rfl gG rY nE rX rfl rfl ⟨mX, ?_⟩) | (refine iL ?_; first | refine dH rfl ?_ | refine cO rfl ?_ | refine jZ rfl (by omega) ?_ | refine lY rfl (by omega) ?_))); exact hh.out)) : p := w ⟨h⟩
end Go.Fx
namespace Go.Proofs.YtgeagiikkeiioaaGreat
open Go Go.Fx
abbrev eG : Int → List Value := eI .u32
theorem uO (l : List Int) (i : Nat) : gt l (i : Int) = l.getD i 0 := aQT l i
theorem aII {l : List Int} {i : Int} (h : (l.length : Int) ≤ i) : gt l i = 0 := by
 unfold gt
 simp [List.getD, show l.length ≤ i.toNat by omega]
theorem oM (l : List Int) (i : Nat) (x : Int) : st l (i : Int) x = l.set i x := rfl
theorem Dig.gt {l : List Int} (h : Dig l) (i : Int) : 0 ≤ gt l i ∧ gt l i < 1000000000 := h.getD i.toNat
section
variable {X : List Nat} {w0 : World} {M0 : List Ent} {I0 : List bD}
theorem aIG {q : Option Addr} {l : List Int} {n c : Nat} {i : Int} (hn : n = l.length) (hi : 0 ≤ i) (hl : bH q (recs eG l) ∈ I0) :
  CD Tryz.prog 228 [.slice q n c, .int .i64 i] X w0 M0 I0 (fun v M I => M0 = M ∧ I0 = I ∧ v = .int .u32 (gt l i)) := by
 subst hn
 refine fG Tryz.func228 rfl Tryz.ntmps228 rfl ?_
 repeat' (first | refine kR ?_ | refine aU rfl (fun h => ?_) (fun h => ?_) | refine aT rfl rfl (fun h => ?_) (fun h => ?_) | fail)
 ·refine aN (by first | exact .inl rfl | exact .inr rfl) rfl rfl _ _ dS dP (⟨rfl, rfl, rfl⟩)
 ·refine aN (by first | exact .inl rfl | exact .inr rfl) rfl rfl _ _ dS dP (⟨rfl, rfl, by rw [aII (by omega)]⟩)
theorem oZ {q : Option Addr} {l : List Int} {n c : Nat} (hn : n = l.length) (h63 : n ≤ 1000000000000) (hc : l.length ≤ c) (hl : bH q (recs eG l) ∈ I0) :
  CD Tryz.prog 207 [.slice q n c] X w0 M0 I0 (fun v M I => M0 = M ∧ I = bH q (recs eG (fV l)) :: I0 ∧ v = .slice q (fV l).length c) := by
 subst hn
 refine fG Tryz.func207 rfl Tryz.ntmps207 rfl ?_
 refine uJ (φ := 0 < l.length → Ok q) (fun w hw h => (hw.sl hl).ok (by rw [jL]; omega)) (fun hq => ?_)
 repeat (refine kR ?_)
 refine aV [] rfl (fun k G M I => ∃ m : Nat, m ≤ l.length ∧ k = m ∧ fV (l.take m) = fV l ∧ G = [(0, .slice q m c)] ∧ M0 = M ∧ I0 = I) (l.length) _ _ _ aO dS dP (⟨l.length, by omega, rfl, by rw [List.take_length], rfl, rfl, rfl⟩) ?_
 rintro k G M I ⟨m, hm, rfl, ht, rfl, rfl, rfl⟩
 repeat' (first | refine kR ?_ | refine aU rfl (fun h => ?_) (fun h => ?_) | refine aT rfl rfl (fun h => ?_) (fun h => ?_) | fail)
 ·obtain ⟨b, o, rfl⟩ := (hq (by omega)).cases
  refine aH rfl (fun _ => wB (k - 1) rfl rfl (by omega) (by omega)) rfl rfl ?_
  repeat (refine kR ?_)
  have h1 := h
  refine aP (k - 1) _ _ _ (by first | omega | (simp only [List.length_append, List.length_cons, List.length_nil]; omega)) aO dS dP (⟨k - 1, by omega, rfl, ?_, rfl, rfl, rfl⟩)
  rw [← ht]
  obtain ⟨j, rfl⟩ : ∃ j, k = j + 1 := ⟨k - 1, by omega⟩
  have hj : j < l.length := by omega
  have e0 : gt l (j : Int) = 0 := by
   have e : ((j + 1 : Nat) : Int) - 1 = j := by omega
   rw [e] at h1
   exact h1
  rw [kE hj] at e0
  rw [List.take_succ_eq_append_getElem hj, e0, vH]
  rfl
 ·have h1 := h
  have htop : Top (l.take k) := by
   obtain ⟨j, rfl⟩ : ∃ j, k = j + 1 := ⟨k - 1, by omega⟩
   have hj : j < l.length := by omega
   rw [List.take_succ_eq_append_getElem hj, Top.snoc, ← kE hj]
   have e : ((j + 1 : Nat) : Int) - 1 = j := by omega
   rw [e] at h1
   exact h1
  have e1 : fV l = l.take k := by rw [← ht, aAE htop]
  refine zM (fun w hw => hw.takeI (cs := recs eG (fV l)) (tl := recs eG (l.drop k)) (by rw [e1, ← nV, List.take_append_drop]; exact hl)) ?_
  refine aN (by first | exact .inl rfl | exact .inr rfl) rfl rfl _ _ dS dP (⟨rfl, rfl, by rw [e1]; simp; omega⟩)
 ·have h0 : k = 0 := by omega
  subst h0
  have e1 : fV l = [] := by rw [← ht]; rfl
  rw [e1]
  refine aCH q ?_
  refine aN (by first | exact .inl rfl | exact .inr rfl) rfl rfl _ _ dS dP (⟨rfl, rfl, rfl⟩)
def GrP (n : Nat) (M0 : List Ent) (I0 : List bD) (v : Value) (M : List Ent) (I : List bD) : Prop := M0 = M ∧ ∃ q c, v = .slice q (gr n).length c ∧ ((gr n).length ≤ c ∧ (Ok q ∨ ((gr n).length = 0 ∧ c = 0))) ∧ I = bH q (recs eG (gr n)) :: I0
theorem aHL {p q : Option Addr} {m n cp cq : Nat} (hm : (gr m).length ≤ 100000000000) (hn : (gr n).length ≤ 100000000000) (hp : bH p (recs eG (gr m)) ∈ I0) (hq : bH q (recs eG (gr n)) ∈ I0) :
  CD Tryz.prog 209 [.slice p (gr m).length cp, .slice q (gr n).length cq] X w0 M0 I0 (GrP (m + n) M0 I0) := by
 have da := cB m
 have db := cB n
 have va := dF m
 have vb := dF n
 generalize ha : gr m = a at *
 generalize hb : gr n = b at *
 obtain ⟨N, hN⟩ : ∃ N : Nat, N = max a.length b.length + 1 := ⟨_, rfl⟩
 refine fG Tryz.func209 rfl Tryz.ntmps209 rfl ?_
 repeat (refine kR ?_)
 (refine jO (N) rfl rfl (by omega) (by omega) (by omega) (by omega) (mJ _ _) rfl rfl ?_; intro bo; refine ⟨mX, ?_⟩)
 repeat (refine kR ?_)
 refine aV [0, 1, 5, 17] rfl (fun k G M I => ∃ (i : Nat) (o : List Int) (cr : Int), i ≤ N ∧ k = N - i ∧ o.length = N ∧ Dig (o.take i) ∧ (0 ≤ cr ∧ cr ≤ 1) ∧ val (o.take i) + 1000000000 ^ i * cr = val (a.take i) + val (b.take i) ∧ G = [(6, .int .u32 cr), (18, .int .i64 i)] ∧ M = .blk bo (recs eG o) 155 :: M0 ∧ I0 = I) (N) _ _ _ aO dS dP (⟨0, _, 0, by omega, by omega, by simp, by simp [Dig], by omega, by simp [val], rfl, rfl, rfl⟩) ?_
 rintro k G M I ⟨i, o, cr, hi, rfl, ho, hd, hcr, hv, rfl, rfl, rfl⟩
 repeat' (first | refine kR ?_ | refine aU rfl (fun h => ?_) (fun h => ?_) | refine aT rfl rfl (fun h => ?_) (fun h => ?_) | fail)
 ·(refine aZ rfl (aIG (i := i) rfl (by omega) hp) rfl rfl ?_; rintro _ _ _ ⟨rfl, rfl, rfl⟩; refine ⟨mX, ?_⟩)
  have d1 := da.gt i
  have d2 := db.gt i
  repeat (refine kR ?_)
  (refine aZ rfl (aIG (i := i) rfl (by omega) hq) rfl rfl ?_; rintro _ _ _ ⟨rfl, rfl, rfl⟩; refine ⟨mX, ?_⟩)
  repeat' (first | refine kR ?_ | refine aU rfl (fun h => ?_) (fun h => ?_) | refine aT rfl rfl (fun h => ?_) (fun h => ?_) | fail)
  ·refine aP (N - (i + 1)) _ _ _ (by first | omega | (simp only [List.length_append, List.length_cons, List.length_nil]; omega)) aO dS dP (⟨i + 1, _, 1, by omega, rfl, by rw [dK]; exact ho, ?_, by omega, ?_, rfl, rfl, rfl⟩)
   ·rw [oM, iU _ _ _ (by omega)]; exact hd.snoc (by omega)
   ·exact aDI hv (by omega) (s := gt a i + gt b i + cr) rfl (by omega)
  ·refine aP (N - (i + 1)) _ _ _ (by first | omega | (simp only [List.length_append, List.length_cons, List.length_nil]; omega)) aO dS dP (⟨i + 1, _, 0, by omega, rfl, by rw [dK]; exact ho, ?_, by omega, ?_, rfl, rfl, rfl⟩)
   ·rw [oM, iU _ _ _ (by omega)]; exact hd.snoc (by omega)
   ·exact aDI hv (by omega) (s := gt a i + gt b i + cr) rfl (by omega)
 ·have hiN : i = N := by omega
  subst hiN
  rw [List.take_of_length_le (show o.length ≤ i by omega)] at hv hd
  rw [List.take_of_length_le (show a.length ≤ i by omega), List.take_of_length_le (show b.length ≤ i by omega), va, vb] at hv
  have hcr0 : cr = 0 := by
   have h1 := jQ da
   have h2 := jQ db
   have h3 := mF (show a.length ≤ i - 1 by omega)
   have h4 := mF (show b.length ≤ i - 1 by omega)
   have h5 : (1000000000 : Int) ^ i = 1000000000 ^ (i - 1) * 1000000000 := by
    rw [← Int.pow_succ]; congr 1; omega
   have h6 := iZ (i - 1)
   have h7 := bZ hd
   by_cases c : cr = 0
   ·exact c
   ·have : cr = 1 := by omega
    subst this
    omega
  subst hcr0
  have hg : fV o = gr (m + n) := mP hd (by omega)
  refine bT uW ?_
  (refine aZ rfl (oZ (l := o) (c := i) ho.symm (by omega) (by omega) aX) rfl rfl ?_; rintro _ _ _ ⟨rfl, rfl, rfl⟩; refine ⟨mX, ?_⟩)
  repeat (refine kR ?_)
  rw [hg]
  refine aN (by first | exact .inl rfl | exact .inr rfl) rfl rfl _ _ dS dP (⟨rfl, _, _, rfl, ⟨by rw [← hg]; have := uN o; obtain ⟨k, h1, h2, _⟩ := this; rw [h2]; simp; omega, .inl (Ok.mk _ _)⟩, rfl⟩)
end
end Go.Proofs.YtgeagiikkeiioaaGreat
