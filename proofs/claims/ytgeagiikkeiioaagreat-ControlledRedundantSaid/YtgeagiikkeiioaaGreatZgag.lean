/- The types and functions of this seat, as instances. Written by facts.py. A premise that no search takes for another; looks alone. The walk, kept once. integer: magnitudes: at, trim, plus, minus, compare, times, short integer: magnitudes: minus, times, split -/
import Derived.Test.YtgeagiikkeiioaaGreatProg
import Derived.Test.YtgeagiikkeiioaaGreatZgac
import Derived.KernelRfl
import Derived.Test.YtgeagiikkeiioaaGreatZgae
import Derived.Test.YtgeagiikkeiioaaGreatZgaf
set_option linter.unusedSimpArgs false
set_option linter.unusedVariables false
set_option maxRecDepth 100000
set_option maxHeartbeats 4000000
namespace Go.Proofs.YtgeagiikkeiioaaGreat
open Go Go.Fx
instance : IntTy Tryz.prog 2 .i64 := ⟨Tryz.underlying2⟩
instance : ScalarTy Tryz.prog 3 := ⟨⟨_, Tryz.underlying3, (by intro _ h; cases h), (by intro _ _ h; cases h)⟩, by kernel_rfl⟩
instance : IntTy Tryz.prog 3 .i64 := ⟨Tryz.underlying3⟩
instance : ElemTy Tryz.prog 3 1 8 [.int .i64 0] := ⟨by kernel_rfl, rfl⟩
instance : ScalarTy Tryz.prog 4 := ⟨⟨_, Tryz.underlying4, (by intro _ h; cases h), (by intro _ _ h; cases h)⟩, by kernel_rfl⟩
instance : BoolTy Tryz.prog 4 := ⟨Tryz.underlying4⟩
instance : ElemTy Tryz.prog 4 1 1 [.bool false] := ⟨by kernel_rfl, rfl⟩
instance : SliceTy Tryz.prog 28 34 1 := ⟨Tryz.underlying28, by kernel_rfl⟩
instance : ScalarTy Tryz.prog 29 := ⟨⟨_, Tryz.underlying29, (by intro _ h; cases h), (by intro _ _ h; cases h)⟩, by kernel_rfl⟩
instance : SliceTy Tryz.prog 29 34 1 := ⟨Tryz.underlying29, by kernel_rfl⟩
instance : ScalarTy Tryz.prog 34 := ⟨⟨_, Tryz.underlying34, (by intro _ h; cases h), (by intro _ _ h; cases h)⟩, by kernel_rfl⟩
instance : SliceTy Tryz.prog 34 42 4 := ⟨Tryz.underlying34, by kernel_rfl⟩
instance : ElemTy Tryz.prog 34 1 24 [.slice none 0 0] := ⟨by kernel_rfl, rfl⟩
instance : ScalarTy Tryz.prog 38 := ⟨⟨_, Tryz.underlying38, (by intro _ h; cases h), (by intro _ _ h; cases h)⟩, by kernel_rfl⟩
instance : SliceTy Tryz.prog 38 155 1 := ⟨Tryz.underlying38, by kernel_rfl⟩
instance : AggTy Tryz.prog 40 2 := ⟨.inl ⟨_, Tryz.underlying40⟩, by kernel_rfl⟩
instance : StructTy Tryz.prog 40 [(0, 1), (1, 1)] [.bool false, .slice none 0 0] := ⟨⟨_, Tryz.underlying40, by kernel_rfl⟩, by kernel_rfl⟩
instance : FieldAt Tryz.prog 40 0 0 4 1 := ⟨⟨_, _, Tryz.underlying40, rfl, rfl, rfl⟩, by kernel_rfl⟩
instance : FieldAt Tryz.prog 40 1 1 38 1 := ⟨⟨_, _, Tryz.underlying40, rfl, rfl, rfl⟩, by kernel_rfl⟩
instance : ElemTy Tryz.prog 40 2 32 [.bool false, .slice none 0 0] := ⟨by kernel_rfl, rfl⟩
instance : AggTy Tryz.prog 42 4 := ⟨.inl ⟨_, Tryz.underlying42⟩, by kernel_rfl⟩
instance : StructTy Tryz.prog 42 [(0, 2), (2, 2)] [.bool false, .slice none 0 0, .bool false, .slice none 0 0] := ⟨⟨_, Tryz.underlying42, by kernel_rfl⟩, by kernel_rfl⟩
instance : FieldAt Tryz.prog 42 0 0 40 2 := ⟨⟨_, _, Tryz.underlying42, rfl, rfl, rfl⟩, by kernel_rfl⟩
instance : FieldAt Tryz.prog 42 1 2 40 2 := ⟨⟨_, _, Tryz.underlying42, rfl, rfl, rfl⟩, by kernel_rfl⟩
instance : ElemTy Tryz.prog 42 4 64 [.bool false, .slice none 0 0, .bool false, .slice none 0 0] := ⟨by kernel_rfl, rfl⟩
instance : AggTy Tryz.prog 68 3 := ⟨.inl ⟨_, Tryz.underlying68⟩, by kernel_rfl⟩
instance : StructTy Tryz.prog 68 [(0, 1), (1, 1), (2, 1)] [.slice none 0 0, .slice none 0 0, .slice none 0 0] := ⟨⟨_, Tryz.underlying68, by kernel_rfl⟩, by kernel_rfl⟩
instance : FieldAt Tryz.prog 68 0 0 29 1 := ⟨⟨_, _, Tryz.underlying68, rfl, rfl, rfl⟩, by kernel_rfl⟩
instance : FieldAt Tryz.prog 68 1 1 34 1 := ⟨⟨_, _, Tryz.underlying68, rfl, rfl, rfl⟩, by kernel_rfl⟩
instance : FieldAt Tryz.prog 68 2 2 34 1 := ⟨⟨_, _, Tryz.underlying68, rfl, rfl, rfl⟩, by kernel_rfl⟩
instance : ElemTy Tryz.prog 68 3 72 [.slice none 0 0, .slice none 0 0, .slice none 0 0] := ⟨by kernel_rfl, rfl⟩
instance : AggTy Tryz.prog 70 2 := ⟨.inl ⟨_, Tryz.underlying70⟩, by kernel_rfl⟩
instance : StructTy Tryz.prog 70 [(0, 1), (1, 1)] [.bool false, .slice none 0 0] := ⟨⟨_, Tryz.underlying70, by kernel_rfl⟩, by kernel_rfl⟩
instance : FieldAt Tryz.prog 70 0 0 4 1 := ⟨⟨_, _, Tryz.underlying70, rfl, rfl, rfl⟩, by kernel_rfl⟩
instance : FieldAt Tryz.prog 70 1 1 34 1 := ⟨⟨_, _, Tryz.underlying70, rfl, rfl, rfl⟩, by kernel_rfl⟩
instance : ElemTy Tryz.prog 70 2 32 [.bool false, .slice none 0 0] := ⟨by kernel_rfl, rfl⟩
instance : SliceTy Tryz.prog 76 4 1 := ⟨Tryz.underlying76, by kernel_rfl⟩
instance : SliceTy Tryz.prog 85 3 1 := ⟨Tryz.underlying85, by kernel_rfl⟩
instance : ScalarTy Tryz.prog 155 := ⟨⟨_, Tryz.underlying155, (by intro _ h; cases h), (by intro _ _ h; cases h)⟩, by kernel_rfl⟩
instance : IntTy Tryz.prog 155 .u32 := ⟨Tryz.underlying155⟩
instance : ElemTy Tryz.prog 155 1 4 [.int .u32 0] := ⟨by kernel_rfl, rfl⟩
instance : ScalarTy Tryz.prog 172 := ⟨⟨_, Tryz.underlying172, (by intro _ h; cases h), (by intro _ _ h; cases h)⟩, by kernel_rfl⟩
instance : IntTy Tryz.prog 172 .u64 := ⟨Tryz.underlying172⟩
instance : FnOk Tryz.prog 7 := ⟨_, Tryz.func7, by kernel_rfl, by kernel_rfl⟩
instance : FnOk Tryz.prog 20 := ⟨_, Tryz.func20, by kernel_rfl, by kernel_rfl⟩
instance : FnOk Tryz.prog 23 := ⟨_, Tryz.func23, by kernel_rfl, by kernel_rfl⟩
instance : FnOk Tryz.prog 27 := ⟨_, Tryz.func27, by kernel_rfl, by kernel_rfl⟩
instance : FnOk Tryz.prog 29 := ⟨_, Tryz.func29, by kernel_rfl, by kernel_rfl⟩
instance : FnOk Tryz.prog 34 := ⟨_, Tryz.func34, by kernel_rfl, by kernel_rfl⟩
instance : FnOk Tryz.prog 37 := ⟨_, Tryz.func37, by kernel_rfl, by kernel_rfl⟩
instance : FnOk Tryz.prog 38 := ⟨_, Tryz.func38, by kernel_rfl, by kernel_rfl⟩
instance : FnOk Tryz.prog 39 := ⟨_, Tryz.func39, by kernel_rfl, by kernel_rfl⟩
instance : FnOk Tryz.prog 42 := ⟨_, Tryz.func42, by kernel_rfl, by kernel_rfl⟩
instance : FnOk Tryz.prog 43 := ⟨_, Tryz.func43, by kernel_rfl, by kernel_rfl⟩
instance : FnOk Tryz.prog 44 := ⟨_, Tryz.func44, by kernel_rfl, by kernel_rfl⟩
instance : FnOk Tryz.prog 45 := ⟨_, Tryz.func45, by kernel_rfl, by kernel_rfl⟩
instance : FnOk Tryz.prog 46 := ⟨_, Tryz.func46, by kernel_rfl, by kernel_rfl⟩
instance : FnOk Tryz.prog 47 := ⟨_, Tryz.func47, by kernel_rfl, by kernel_rfl⟩
instance : FnOk Tryz.prog 51 := ⟨_, Tryz.func51, by kernel_rfl, by kernel_rfl⟩
instance : FnOk Tryz.prog 55 := ⟨_, Tryz.func55, by kernel_rfl, by kernel_rfl⟩
instance : FnOk Tryz.prog 61 := ⟨_, Tryz.func61, by kernel_rfl, by kernel_rfl⟩
instance : FnOk Tryz.prog 62 := ⟨_, Tryz.func62, by kernel_rfl, by kernel_rfl⟩
instance : FnOk Tryz.prog 68 := ⟨_, Tryz.func68, by kernel_rfl, by kernel_rfl⟩
instance : FnOk Tryz.prog 72 := ⟨_, Tryz.func72, by kernel_rfl, by kernel_rfl⟩
instance : FnOk Tryz.prog 74 := ⟨_, Tryz.func74, by kernel_rfl, by kernel_rfl⟩
instance : FnOk Tryz.prog 75 := ⟨_, Tryz.func75, by kernel_rfl, by kernel_rfl⟩
instance : FnOk Tryz.prog 76 := ⟨_, Tryz.func76, by kernel_rfl, by kernel_rfl⟩
instance : FnOk Tryz.prog 77 := ⟨_, Tryz.func77, by kernel_rfl, by kernel_rfl⟩
instance : FnOk Tryz.prog 78 := ⟨_, Tryz.func78, by kernel_rfl, by kernel_rfl⟩
instance : FnOk Tryz.prog 79 := ⟨_, Tryz.func79, by kernel_rfl, by kernel_rfl⟩
instance : FnOk Tryz.prog 80 := ⟨_, Tryz.func80, by kernel_rfl, by kernel_rfl⟩
instance : FnOk Tryz.prog 81 := ⟨_, Tryz.func81, by kernel_rfl, by kernel_rfl⟩
instance : FnOk Tryz.prog 83 := ⟨_, Tryz.func83, by kernel_rfl, by kernel_rfl⟩
instance : FnOk Tryz.prog 85 := ⟨_, Tryz.func85, by kernel_rfl, by kernel_rfl⟩
instance : FnOk Tryz.prog 86 := ⟨_, Tryz.func86, by kernel_rfl, by kernel_rfl⟩
instance : FnOk Tryz.prog 90 := ⟨_, Tryz.func90, by kernel_rfl, by kernel_rfl⟩
instance : FnOk Tryz.prog 91 := ⟨_, Tryz.func91, by kernel_rfl, by kernel_rfl⟩
instance : FnOk Tryz.prog 92 := ⟨_, Tryz.func92, by kernel_rfl, by kernel_rfl⟩
instance : FnOk Tryz.prog 93 := ⟨_, Tryz.func93, by kernel_rfl, by kernel_rfl⟩
instance : FnOk Tryz.prog 95 := ⟨_, Tryz.func95, by kernel_rfl, by kernel_rfl⟩
instance : FnOk Tryz.prog 96 := ⟨_, Tryz.func96, by kernel_rfl, by kernel_rfl⟩
instance : FnOk Tryz.prog 97 := ⟨_, Tryz.func97, by kernel_rfl, by kernel_rfl⟩
instance : FnOk Tryz.prog 98 := ⟨_, Tryz.func98, by kernel_rfl, by kernel_rfl⟩
instance : FnOk Tryz.prog 99 := ⟨_, Tryz.func99, by kernel_rfl, by kernel_rfl⟩
instance : FnOk Tryz.prog 100 := ⟨_, Tryz.func100, by kernel_rfl, by kernel_rfl⟩
instance : FnOk Tryz.prog 101 := ⟨_, Tryz.func101, by kernel_rfl, by kernel_rfl⟩
instance : FnOk Tryz.prog 102 := ⟨_, Tryz.func102, by kernel_rfl, by kernel_rfl⟩
instance : FnOk Tryz.prog 103 := ⟨_, Tryz.func103, by kernel_rfl, by kernel_rfl⟩
instance : FnOk Tryz.prog 104 := ⟨_, Tryz.func104, by kernel_rfl, by kernel_rfl⟩
instance : FnOk Tryz.prog 105 := ⟨_, Tryz.func105, by kernel_rfl, by kernel_rfl⟩
instance : FnOk Tryz.prog 106 := ⟨_, Tryz.func106, by kernel_rfl, by kernel_rfl⟩
instance : FnOk Tryz.prog 107 := ⟨_, Tryz.func107, by kernel_rfl, by kernel_rfl⟩
instance : FnOk Tryz.prog 108 := ⟨_, Tryz.func108, by kernel_rfl, by kernel_rfl⟩
instance : FnOk Tryz.prog 111 := ⟨_, Tryz.func111, by kernel_rfl, by kernel_rfl⟩
instance : FnOk Tryz.prog 112 := ⟨_, Tryz.func112, by kernel_rfl, by kernel_rfl⟩
instance : FnOk Tryz.prog 114 := ⟨_, Tryz.func114, by kernel_rfl, by kernel_rfl⟩
instance : FnOk Tryz.prog 115 := ⟨_, Tryz.func115, by kernel_rfl, by kernel_rfl⟩
instance : FnOk Tryz.prog 117 := ⟨_, Tryz.func117, by kernel_rfl, by kernel_rfl⟩
instance : FnOk Tryz.prog 118 := ⟨_, Tryz.func118, by kernel_rfl, by kernel_rfl⟩
instance : FnOk Tryz.prog 119 := ⟨_, Tryz.func119, by kernel_rfl, by kernel_rfl⟩
instance : FnOk Tryz.prog 120 := ⟨_, Tryz.func120, by kernel_rfl, by kernel_rfl⟩
instance : FnOk Tryz.prog 129 := ⟨_, Tryz.func129, by kernel_rfl, by kernel_rfl⟩
instance : FnOk Tryz.prog 130 := ⟨_, Tryz.func130, by kernel_rfl, by kernel_rfl⟩
instance : FnOk Tryz.prog 131 := ⟨_, Tryz.func131, by kernel_rfl, by kernel_rfl⟩
instance : FnOk Tryz.prog 132 := ⟨_, Tryz.func132, by kernel_rfl, by kernel_rfl⟩
instance : FnOk Tryz.prog 133 := ⟨_, Tryz.func133, by kernel_rfl, by kernel_rfl⟩
instance : FnOk Tryz.prog 134 := ⟨_, Tryz.func134, by kernel_rfl, by kernel_rfl⟩
instance : FnOk Tryz.prog 135 := ⟨_, Tryz.func135, by kernel_rfl, by kernel_rfl⟩
instance : FnOk Tryz.prog 136 := ⟨_, Tryz.func136, by kernel_rfl, by kernel_rfl⟩
instance : FnOk Tryz.prog 137 := ⟨_, Tryz.func137, by kernel_rfl, by kernel_rfl⟩
instance : FnOk Tryz.prog 138 := ⟨_, Tryz.func138, by kernel_rfl, by kernel_rfl⟩
instance : FnOk Tryz.prog 139 := ⟨_, Tryz.func139, by kernel_rfl, by kernel_rfl⟩
instance : FnOk Tryz.prog 140 := ⟨_, Tryz.func140, by kernel_rfl, by kernel_rfl⟩
instance : FnOk Tryz.prog 141 := ⟨_, Tryz.func141, by kernel_rfl, by kernel_rfl⟩
instance : FnOk Tryz.prog 142 := ⟨_, Tryz.func142, by kernel_rfl, by kernel_rfl⟩
instance : FnOk Tryz.prog 143 := ⟨_, Tryz.func143, by kernel_rfl, by kernel_rfl⟩
instance : FnOk Tryz.prog 144 := ⟨_, Tryz.func144, by kernel_rfl, by kernel_rfl⟩
instance : FnOk Tryz.prog 145 := ⟨_, Tryz.func145, by kernel_rfl, by kernel_rfl⟩
instance : FnOk Tryz.prog 146 := ⟨_, Tryz.func146, by kernel_rfl, by kernel_rfl⟩
instance : FnOk Tryz.prog 147 := ⟨_, Tryz.func147, by kernel_rfl, by kernel_rfl⟩
instance : FnOk Tryz.prog 148 := ⟨_, Tryz.func148, by kernel_rfl, by kernel_rfl⟩
instance : FnOk Tryz.prog 149 := ⟨_, Tryz.func149, by kernel_rfl, by kernel_rfl⟩
instance : FnOk Tryz.prog 150 := ⟨_, Tryz.func150, by kernel_rfl, by kernel_rfl⟩
instance : FnOk Tryz.prog 151 := ⟨_, Tryz.func151, by kernel_rfl, by kernel_rfl⟩
instance : FnOk Tryz.prog 152 := ⟨_, Tryz.func152, by kernel_rfl, by kernel_rfl⟩
instance : FnOk Tryz.prog 153 := ⟨_, Tryz.func153, by kernel_rfl, by kernel_rfl⟩
instance : FnOk Tryz.prog 154 := ⟨_, Tryz.func154, by kernel_rfl, by kernel_rfl⟩
instance : FnOk Tryz.prog 155 := ⟨_, Tryz.func155, by kernel_rfl, by kernel_rfl⟩
instance : FnOk Tryz.prog 156 := ⟨_, Tryz.func156, by kernel_rfl, by kernel_rfl⟩
instance : FnOk Tryz.prog 157 := ⟨_, Tryz.func157, by kernel_rfl, by kernel_rfl⟩
instance : FnOk Tryz.prog 158 := ⟨_, Tryz.func158, by kernel_rfl, by kernel_rfl⟩
instance : FnOk Tryz.prog 159 := ⟨_, Tryz.func159, by kernel_rfl, by kernel_rfl⟩
instance : FnOk Tryz.prog 160 := ⟨_, Tryz.func160, by kernel_rfl, by kernel_rfl⟩
instance : FnOk Tryz.prog 161 := ⟨_, Tryz.func161, by kernel_rfl, by kernel_rfl⟩
instance : FnOk Tryz.prog 162 := ⟨_, Tryz.func162, by kernel_rfl, by kernel_rfl⟩
instance : FnOk Tryz.prog 163 := ⟨_, Tryz.func163, by kernel_rfl, by kernel_rfl⟩
instance : FnOk Tryz.prog 164 := ⟨_, Tryz.func164, by kernel_rfl, by kernel_rfl⟩
instance : FnOk Tryz.prog 165 := ⟨_, Tryz.func165, by kernel_rfl, by kernel_rfl⟩
instance : FnOk Tryz.prog 166 := ⟨_, Tryz.func166, by kernel_rfl, by kernel_rfl⟩
instance : FnOk Tryz.prog 167 := ⟨_, Tryz.func167, by kernel_rfl, by kernel_rfl⟩
instance : FnOk Tryz.prog 169 := ⟨_, Tryz.func169, by kernel_rfl, by kernel_rfl⟩
instance : FnOk Tryz.prog 170 := ⟨_, Tryz.func170, by kernel_rfl, by kernel_rfl⟩
instance : FnOk Tryz.prog 171 := ⟨_, Tryz.func171, by kernel_rfl, by kernel_rfl⟩
instance : FnOk Tryz.prog 172 := ⟨_, Tryz.func172, by kernel_rfl, by kernel_rfl⟩
instance : FnOk Tryz.prog 173 := ⟨_, Tryz.func173, by kernel_rfl, by kernel_rfl⟩
instance : FnOk Tryz.prog 174 := ⟨_, Tryz.func174, by kernel_rfl, by kernel_rfl⟩
instance : FnOk Tryz.prog 175 := ⟨_, Tryz.func175, by kernel_rfl, by kernel_rfl⟩
instance : FnOk Tryz.prog 176 := ⟨_, Tryz.func176, by kernel_rfl, by kernel_rfl⟩
instance : FnOk Tryz.prog 177 := ⟨_, Tryz.func177, by kernel_rfl, by kernel_rfl⟩
instance : FnOk Tryz.prog 178 := ⟨_, Tryz.func178, by kernel_rfl, by kernel_rfl⟩
instance : FnOk Tryz.prog 179 := ⟨_, Tryz.func179, by kernel_rfl, by kernel_rfl⟩
instance : FnOk Tryz.prog 180 := ⟨_, Tryz.func180, by kernel_rfl, by kernel_rfl⟩
instance : FnOk Tryz.prog 181 := ⟨_, Tryz.func181, by kernel_rfl, by kernel_rfl⟩
instance : FnOk Tryz.prog 182 := ⟨_, Tryz.func182, by kernel_rfl, by kernel_rfl⟩
instance : FnOk Tryz.prog 183 := ⟨_, Tryz.func183, by kernel_rfl, by kernel_rfl⟩
instance : FnOk Tryz.prog 184 := ⟨_, Tryz.func184, by kernel_rfl, by kernel_rfl⟩
instance : FnOk Tryz.prog 185 := ⟨_, Tryz.func185, by kernel_rfl, by kernel_rfl⟩
instance : FnOk Tryz.prog 186 := ⟨_, Tryz.func186, by kernel_rfl, by kernel_rfl⟩
instance : FnOk Tryz.prog 187 := ⟨_, Tryz.func187, by kernel_rfl, by kernel_rfl⟩
instance : FnOk Tryz.prog 188 := ⟨_, Tryz.func188, by kernel_rfl, by kernel_rfl⟩
instance : FnOk Tryz.prog 189 := ⟨_, Tryz.func189, by kernel_rfl, by kernel_rfl⟩
instance : FnOk Tryz.prog 190 := ⟨_, Tryz.func190, by kernel_rfl, by kernel_rfl⟩
instance : FnOk Tryz.prog 191 := ⟨_, Tryz.func191, by kernel_rfl, by kernel_rfl⟩
instance : FnOk Tryz.prog 192 := ⟨_, Tryz.func192, by kernel_rfl, by kernel_rfl⟩
instance : FnOk Tryz.prog 193 := ⟨_, Tryz.func193, by kernel_rfl, by kernel_rfl⟩
instance : FnOk Tryz.prog 194 := ⟨_, Tryz.func194, by kernel_rfl, by kernel_rfl⟩
instance : FnOk Tryz.prog 195 := ⟨_, Tryz.func195, by kernel_rfl, by kernel_rfl⟩
instance : FnOk Tryz.prog 196 := ⟨_, Tryz.func196, by kernel_rfl, by kernel_rfl⟩
instance : FnOk Tryz.prog 197 := ⟨_, Tryz.func197, by kernel_rfl, by kernel_rfl⟩
instance : FnOk Tryz.prog 198 := ⟨_, Tryz.func198, by kernel_rfl, by kernel_rfl⟩
instance : FnOk Tryz.prog 199 := ⟨_, Tryz.func199, by kernel_rfl, by kernel_rfl⟩
instance : FnOk Tryz.prog 200 := ⟨_, Tryz.func200, by kernel_rfl, by kernel_rfl⟩
instance : FnOk Tryz.prog 201 := ⟨_, Tryz.func201, by kernel_rfl, by kernel_rfl⟩
instance : FnOk Tryz.prog 202 := ⟨_, Tryz.func202, by kernel_rfl, by kernel_rfl⟩
instance : FnOk Tryz.prog 203 := ⟨_, Tryz.func203, by kernel_rfl, by kernel_rfl⟩
instance : FnOk Tryz.prog 204 := ⟨_, Tryz.func204, by kernel_rfl, by kernel_rfl⟩
instance : FnOk Tryz.prog 205 := ⟨_, Tryz.func205, by kernel_rfl, by kernel_rfl⟩
instance : FnOk Tryz.prog 206 := ⟨_, Tryz.func206, by kernel_rfl, by kernel_rfl⟩
instance : FnOk Tryz.prog 207 := ⟨_, Tryz.func207, by kernel_rfl, by kernel_rfl⟩
instance : FnOk Tryz.prog 208 := ⟨_, Tryz.func208, by kernel_rfl, by kernel_rfl⟩
instance : FnOk Tryz.prog 209 := ⟨_, Tryz.func209, by kernel_rfl, by kernel_rfl⟩
instance : FnOk Tryz.prog 210 := ⟨_, Tryz.func210, by kernel_rfl, by kernel_rfl⟩
instance : FnOk Tryz.prog 211 := ⟨_, Tryz.func211, by kernel_rfl, by kernel_rfl⟩
instance : FnOk Tryz.prog 212 := ⟨_, Tryz.func212, by kernel_rfl, by kernel_rfl⟩
instance : FnOk Tryz.prog 213 := ⟨_, Tryz.func213, by kernel_rfl, by kernel_rfl⟩
instance : FnOk Tryz.prog 214 := ⟨_, Tryz.func214, by kernel_rfl, by kernel_rfl⟩
instance : FnOk Tryz.prog 215 := ⟨_, Tryz.func215, by kernel_rfl, by kernel_rfl⟩
instance : FnOk Tryz.prog 216 := ⟨_, Tryz.func216, by kernel_rfl, by kernel_rfl⟩
instance : FnOk Tryz.prog 217 := ⟨_, Tryz.func217, by kernel_rfl, by kernel_rfl⟩
instance : FnOk Tryz.prog 218 := ⟨_, Tryz.func218, by kernel_rfl, by kernel_rfl⟩
instance : FnOk Tryz.prog 219 := ⟨_, Tryz.func219, by kernel_rfl, by kernel_rfl⟩
instance : FnOk Tryz.prog 220 := ⟨_, Tryz.func220, by kernel_rfl, by kernel_rfl⟩
instance : FnOk Tryz.prog 221 := ⟨_, Tryz.func221, by kernel_rfl, by kernel_rfl⟩
instance : FnOk Tryz.prog 222 := ⟨_, Tryz.func222, by kernel_rfl, by kernel_rfl⟩
instance : FnOk Tryz.prog 223 := ⟨_, Tryz.func223, by kernel_rfl, by kernel_rfl⟩
instance : FnOk Tryz.prog 224 := ⟨_, Tryz.func224, by kernel_rfl, by kernel_rfl⟩
instance : FnOk Tryz.prog 225 := ⟨_, Tryz.func225, by kernel_rfl, by kernel_rfl⟩
instance : FnOk Tryz.prog 226 := ⟨_, Tryz.func226, by kernel_rfl, by kernel_rfl⟩
instance : FnOk Tryz.prog 227 := ⟨_, Tryz.func227, by kernel_rfl, by kernel_rfl⟩
instance : FnOk Tryz.prog 228 := ⟨_, Tryz.func228, by kernel_rfl, by kernel_rfl⟩
instance : FnOk Tryz.prog 229 := ⟨_, Tryz.func229, by kernel_rfl, by kernel_rfl⟩
instance : FnOk Tryz.prog 230 := ⟨_, Tryz.func230, by kernel_rfl, by kernel_rfl⟩
theorem mixed : Tryz.prog.follows .mixedOrders = true := by kernel_rfl
end Go.Proofs.YtgeagiikkeiioaaGreat
namespace Go.Fx
structure BoxP (g : Prop) : Prop where
 out : g
section
variable {P : Program} {n : Nat} {Q : Exit → Act → World → Prop} {G : Env} {X : List Nat} {w0 : World} {M : List Ent} {I : List bA} {ops l : List Oper} {m : Mode} {c : Code} {e : Exit}
structure Br (b : Bool) (p q : Prop) : Prop where
 y : b = true → p
 n : b = false → q
theorem Br.dec {p : Prop} [Decidable p] : Br (B p) p (¬ p) := ⟨fun h => Decidable.byContradiction (fun hn => by rw [aY hn] at h; cases h), fun h hp => by rw [bR hp] at h; cases h⟩
theorem Br.raw {b : Bool} : Br b (b = true) (b = false) := ⟨id, id⟩
theorem Br.lit : Br true True False := ⟨fun _ => True.intro, fun h => by cases h⟩
theorem Br.lit2 : Br false False True := ⟨fun h => (by cases h), fun _ => True.intro⟩
theorem aQ {c : Operand} {x y : Code} {b : Bool} {p q : Prop} (hc : ev G c = some (.bool b)) (h1 : p → TD P n x Q G X w0 M I) (h2 : q → TD P n y Q G X w0 M I) (hb : Br b p q := by first | exact Br.dec | exact Br.raw | fail) : TD P n (.cond c x y) Q G X w0 M I :=
 pI hc (fun e => h1 (hb.y e)) (fun e => h2 (hb.n e))
theorem aR {op : Op} {ty : TypeId} {pos : String} {af : Array Edge} {d : Option Nat} {b : Bool} {p q : Prop} {g : Nat × Bool} {t : Nat} (hj : oU ops g.1 = some t) (hv : lk G t = some (.bool b))
  (h1 : p → RD P n ops Q m (⟨d, op, ty, pos, af, some g⟩ :: l) ((t, .bool true) :: G) X w0 M I) (h2 : q → RD P n ops Q m (⟨d, op, ty, pos, af, some g⟩ :: l) ((t, .bool false) :: G) X w0 M I) (hb : Br b p q := by first | exact Br.dec | ((fail_if_success exact Br.lit); (fail_if_success exact Br.lit2); exact Br.raw) | fail) :
  RD P n ops Q m (⟨d, op, ty, pos, af, some g⟩ :: l) G X w0 M I := pE hj hv (fun e => h1 (hb.y e)) (fun e => h2 (hb.n e))
end
end Go.Fx
namespace Go.Fx
theorem kV {p g : Prop} (h : g) (w : BoxP g → p := by (intro hh; (first | refine aJ ?_ | refine aI ?_ | refine kE ?_ | refine iN ?_ | refine fQ ?_ | refine fI ?_ | refine iO ?_ | refine iI ?_ | refine fU ?_ | refine fO ?_ | refine jX ?_ | refine jV ?_ | refine kF ?_ | refine jZ rfl ?_ | refine bC ?_ | (refine gM ?_; first | refine gP rfl rfl rfl ?_ | (refine gK rfl rfl ?_; refine fD rfl rfl rfl nL ?_) | refine gL rfl rfl (by omega) ?_ | refine gU rfl rfl (by omega) ?_) | (refine cB ?_; refine aG rfl (fun _ => dM rfl) rfl rfl ?_) | refine aG rfl (fun _ => bH rfl) rfl rfl ?_ | (refine gZ ?_; first | refine aG rfl (fun _ => bO rfl rfl w_) rfl rfl ?_ | refine aG rfl (fun _ => bP rfl rfl w_) rfl rfl ?_ | refine aG rfl (fun _ => eU rfl rfl w_) rfl rfl ?_ | refine aG rfl (fun _ => eT rfl rfl (by omega) q_) rfl rfl ?_ | refine aG rfl (fun _ => eX rfl rfl (by omega) rfl) rfl rfl ?_ | refine aG rfl (fun _ => dV rfl rfl) rfl rfl ?_ | refine aG rfl (fun _ => dW rfl rfl) rfl rfl ?_ | refine aG rfl (fun _ => dX rfl rfl) rfl rfl ?_) | (refine cB ?_; first | refine aG rfl (fun _ => eF rfl w_) rfl rfl ?_) | (refine gW ?_; first | refine aG rfl (fun _ => dE rfl w_) rfl rfl ?_) | (refine gX ?_; first | refine aG rfl (fun _ => bN rfl) rfl rfl ?_ | refine aG rfl (fun _ => dK rfl rfl) rfl rfl ?_ | refine aG rfl (fun _ => dS rfl rfl) rfl rfl ?_ | refine aG rfl (fun _ => dL rfl rfl rfl) rfl rfl ?_) | (refine gT ?_; first | refine gV rfl (by decide) rfl rfl ?_ | refine jF rfl (by decide) rfl rfl ?_) | (refine gQ ?_; first | refine jJ rfl rfl fE rfl rfl ?_ | refine jI sD rfl rfl fE aU jL rfl rfl ?_ | refine jE sD rfl rfl fE aU jL rfl rfl ?_ | refine aG rfl (fun _ => bZ rfl rfl fE) rfl rfl ?_) | (refine bI ?_; first | refine jG sD rfl aU qH rfl rfl ?_ | refine jB sD rfl aU qH rfl rfl ?_ | refine jH sD rfl aU qH rfl rfl ?_ | refine gY sD rfl aU qH rfl rfl ?_ | refine mJ sD rfl aU jO fP rfl rfl ?_ | refine mH sD rfl aU jO fP rfl rfl ?_ | refine mG sD rfl aU jO fP rfl rfl ?_ | refine kL sD rfl aU jO fP rfl rfl ?_) | (refine gN ?_; first | refine aG rfl (fun _ => bY rfl rfl) rfl rfl ?_ | refine aG rfl (fun _ => bM rfl) rfl rfl ?_) | (refine jA ?_; first | refine lI rfl rfl rfl nQ stC rfl rfl ⟨nL, ?_⟩ | refine fH rfl rfl fP tF nQ sZ rfl rfl ⟨nL, ?_⟩) | (refine iM ?_; first | refine dB rfl ?_ | refine bV rfl ?_ | refine kD rfl (by omega) ?_ | refine mU rfl (by omega) ?_)); (repeat (first | refine aJ ?_ | refine aI ?_ | refine kE ?_ | refine iN ?_ | refine fQ ?_ | refine fI ?_ | refine iO ?_ | refine iI ?_ | refine fU ?_ | refine fO ?_ | refine jX ?_ | refine jV ?_ | refine kF ?_ | refine jZ rfl ?_ | refine bC ?_ | (refine gM ?_; first | refine gP rfl rfl rfl ?_ | (refine gK rfl rfl ?_; refine fD rfl rfl rfl nL ?_) | refine gL rfl rfl (by omega) ?_ | refine gU rfl rfl (by omega) ?_) | (refine cB ?_; refine aG rfl (fun _ => dM rfl) rfl rfl ?_) | refine aG rfl (fun _ => bH rfl) rfl rfl ?_ | (refine gZ ?_; first | refine aG rfl (fun _ => bO rfl rfl w_) rfl rfl ?_ | refine aG rfl (fun _ => bP rfl rfl w_) rfl rfl ?_ | refine aG rfl (fun _ => eU rfl rfl w_) rfl rfl ?_ | refine aG rfl (fun _ => eT rfl rfl (by omega) q_) rfl rfl ?_ | refine aG rfl (fun _ => eX rfl rfl (by omega) rfl) rfl rfl ?_ | refine aG rfl (fun _ => dV rfl rfl) rfl rfl ?_ | refine aG rfl (fun _ => dW rfl rfl) rfl rfl ?_ | refine aG rfl (fun _ => dX rfl rfl) rfl rfl ?_) | (refine cB ?_; first | refine aG rfl (fun _ => eF rfl w_) rfl rfl ?_) | (refine gW ?_; first | refine aG rfl (fun _ => dE rfl w_) rfl rfl ?_) | (refine gX ?_; first | refine aG rfl (fun _ => bN rfl) rfl rfl ?_ | refine aG rfl (fun _ => dK rfl rfl) rfl rfl ?_ | refine aG rfl (fun _ => dS rfl rfl) rfl rfl ?_ | refine aG rfl (fun _ => dL rfl rfl rfl) rfl rfl ?_) | (refine gT ?_; first | refine gV rfl (by decide) rfl rfl ?_ | refine jF rfl (by decide) rfl rfl ?_) | (refine gQ ?_; first | refine jJ rfl rfl fE rfl rfl ?_ | refine jI sD rfl rfl fE aU jL rfl rfl ?_ | refine jE sD rfl rfl fE aU jL rfl rfl ?_ | refine aG rfl (fun _ => bZ rfl rfl fE) rfl rfl ?_) | (refine bI ?_; first | refine jG sD rfl aU qH rfl rfl ?_ | refine jB sD rfl aU qH rfl rfl ?_ | refine jH sD rfl aU qH rfl rfl ?_ | refine gY sD rfl aU qH rfl rfl ?_ | refine mJ sD rfl aU jO fP rfl rfl ?_ | refine mH sD rfl aU jO fP rfl rfl ?_ | refine mG sD rfl aU jO fP rfl rfl ?_ | refine kL sD rfl aU jO fP rfl rfl ?_) | (refine gN ?_; first | refine aG rfl (fun _ => bY rfl rfl) rfl rfl ?_ | refine aG rfl (fun _ => bM rfl) rfl rfl ?_) | (refine jA ?_; first | refine lI rfl rfl rfl nQ stC rfl rfl ⟨nL, ?_⟩ | refine fH rfl rfl fP tF nQ sZ rfl rfl ⟨nL, ?_⟩) | (refine iM ?_; first | refine dB rfl ?_ | refine bV rfl ?_ | refine kD rfl (by omega) ?_ | refine mU rfl (by omega) ?_))); exact hh.out)) : p := w ⟨h⟩
end Go.Fx
namespace Go.Proofs.YtgeagiikkeiioaaGreat
open Go Go.Fx
abbrev eG : Int → List Value := eI .u32
theorem vF (l : List Int) (i : Nat) : gt l (i : Int) = l.getD i 0 := aTQ l i
theorem aKL {l : List Int} {i : Int} (h : (l.length : Int) ≤ i) : gt l i = 0 := by
 unfold gt
 simp [List.getD, show l.length ≤ i.toNat by omega]
theorem qD (l : List Int) (i : Nat) (x : Int) : st l (i : Int) x = l.set i x := rfl
theorem Dig.gt {l : List Int} (h : Dig l) (i : Int) : 0 ≤ gt l i ∧ gt l i < 1000000000 := h.getD i.toNat
section
variable {X : List Nat} {w0 : World} {M0 : List Ent} {I0 : List bA}
theorem aJN {q : Option Addr} {l : List Int} {n c : Nat} {i : Int} (hn : n = l.length) (hi : 0 ≤ i) (hl : aT q (recs eG l) ∈ I0) :
  CD Tryz.prog 228 [.slice q n c, .int .i64 i] X w0 M0 I0 (fun v M I => M0 = M ∧ I0 = I ∧ v = .int .u32 (gt l i)) := by
 subst hn
 refine fB Tryz.func228 rfl Tryz.ntmps228 rfl ?_
 repeat' (first | refine kV ?_ | refine aQ rfl (fun h => ?_) (fun h => ?_) | refine aR rfl rfl (fun h => ?_) (fun h => ?_) | fail)
 ·refine aH (by first | exact .inl rfl | exact .inr rfl) rfl rfl _ _ dG dF (⟨rfl, rfl, rfl⟩)
 ·refine aH (by first | exact .inl rfl | exact .inr rfl) rfl rfl _ _ dG dF (⟨rfl, rfl, by rw [aKL (by omega)]⟩)
theorem qL {q : Option Addr} {l : List Int} {n c : Nat} (hn : n = l.length) (h63 : n ≤ 1000000000000) (hc : l.length ≤ c) (hl : aT q (recs eG l) ∈ I0) :
  CD Tryz.prog 207 [.slice q n c] X w0 M0 I0 (fun v M I => M0 = M ∧ I = aT q (recs eG (fK l)) :: I0 ∧ v = .slice q (fK l).length c) := by
 subst hn
 refine fB Tryz.func207 rfl Tryz.ntmps207 rfl ?_
 refine uS (φ := 0 < l.length → Ok q) (fun w hw h => (hw.sl hl).ok (by rw [jQ]; omega)) (fun hq => ?_)
 repeat (refine kV ?_)
 refine aS [] rfl (fun k G M I => ∃ m : Nat, m ≤ l.length ∧ k = m ∧ fK (l.take m) = fK l ∧ G = [(0, .slice q m c)] ∧ M0 = M ∧ I0 = I) (l.length) _ _ _ aO dG dF (⟨l.length, by omega, rfl, by rw [List.take_length], rfl, rfl, rfl⟩) ?_
 rintro k G M I ⟨m, hm, rfl, ht, rfl, rfl, rfl⟩
 repeat' (first | refine kV ?_ | refine aQ rfl (fun h => ?_) (fun h => ?_) | refine aR rfl rfl (fun h => ?_) (fun h => ?_) | fail)
 ·obtain ⟨b, o, rfl⟩ := (hq (by omega)).cases
  refine aG rfl (fun _ => wQ (k - 1) rfl rfl (by omega) (by omega)) rfl rfl ?_
  repeat (refine kV ?_)
  have h1 := h
  refine aM (k - 1) _ _ _ (by first | omega | (simp only [List.length_append, List.length_cons, List.length_nil]; omega)) aO dG dF (⟨k - 1, by omega, rfl, ?_, rfl, rfl, rfl⟩)
  rw [← ht]
  obtain ⟨j, rfl⟩ : ∃ j, k = j + 1 := ⟨k - 1, by omega⟩
  have hj : j < l.length := by omega
  have e0 : gt l (j : Int) = 0 := by
   have e : ((j + 1 : Nat) : Int) - 1 = j := by omega
   rw [e] at h1
   exact h1
  rw [jC hj] at e0
  rw [List.take_succ_eq_append_getElem hj, e0, wC]
  rfl
 ·have h1 := h
  have htop : Top (l.take k) := by
   obtain ⟨j, rfl⟩ : ∃ j, k = j + 1 := ⟨k - 1, by omega⟩
   have hj : j < l.length := by omega
   rw [List.take_succ_eq_append_getElem hj, Top.snoc, ← jC hj]
   have e : ((j + 1 : Nat) : Int) - 1 = j := by omega
   rw [e] at h1
   exact h1
  have e1 : fK l = l.take k := by rw [← ht, aBD htop]
  refine yL (fun w hw => hw.takeI (cs := recs eG (fK l)) (tl := recs eG (l.drop k)) (by rw [e1, ← oN, List.take_append_drop]; exact hl)) ?_
  refine aH (by first | exact .inl rfl | exact .inr rfl) rfl rfl _ _ dG dF (⟨rfl, rfl, by rw [e1]; simp; omega⟩)
 ·have h0 : k = 0 := by omega
  subst h0
  have e1 : fK l = [] := by rw [← ht]; rfl
  rw [e1]
  refine aEQ q ?_
  refine aH (by first | exact .inl rfl | exact .inr rfl) rfl rfl _ _ dG dF (⟨rfl, rfl, rfl⟩)
def GrP (n : Nat) (M0 : List Ent) (I0 : List bA) (v : Value) (M : List Ent) (I : List bA) : Prop := M0 = M ∧ ∃ q c, v = .slice q (gr n).length c ∧ ((gr n).length ≤ c ∧ (Ok q ∨ ((gr n).length = 0 ∧ c = 0))) ∧ I = aT q (recs eG (gr n)) :: I0
theorem aKO {p q : Option Addr} {m n cp cq : Nat} (hm : (gr m).length ≤ 100000000000) (hn : (gr n).length ≤ 100000000000) (hp : aT p (recs eG (gr m)) ∈ I0) (hq : aT q (recs eG (gr n)) ∈ I0) :
  CD Tryz.prog 209 [.slice p (gr m).length cp, .slice q (gr n).length cq] X w0 M0 I0 (GrP (m + n) M0 I0) := by
 have da := bT m
 have db := bT n
 have va := cO m
 have vb := cO n
 generalize ha : gr m = a at *
 generalize hb : gr n = b at *
 obtain ⟨N, hN⟩ : ∃ N : Nat, N = max a.length b.length + 1 := ⟨_, rfl⟩
 refine fB Tryz.func209 rfl Tryz.ntmps209 rfl ?_
 repeat (refine kV ?_)
 (refine jM (N) rfl rfl (by omega) (by omega) (by omega) (by omega) (nJ _ _) rfl rfl ?_; intro bo; refine ⟨nL, ?_⟩)
 repeat (refine kV ?_)
 refine aS [0, 1, 5, 17] rfl (fun k G M I => ∃ (i : Nat) (o : List Int) (cr : Int), i ≤ N ∧ k = N - i ∧ o.length = N ∧ Dig (o.take i) ∧ (0 ≤ cr ∧ cr ≤ 1) ∧ val (o.take i) + 1000000000 ^ i * cr = val (a.take i) + val (b.take i) ∧ G = [(6, .int .u32 cr), (18, .int .i64 i)] ∧ M = .blk bo (recs eG o) 155 :: M0 ∧ I0 = I) (N) _ _ _ aO dG dF (⟨0, _, 0, by omega, by omega, by simp, by simp [Dig], by omega, by simp [val], rfl, rfl, rfl⟩) ?_
 rintro k G M I ⟨i, o, cr, hi, rfl, ho, hd, hcr, hv, rfl, rfl, rfl⟩
 repeat' (first | refine kV ?_ | refine aQ rfl (fun h => ?_) (fun h => ?_) | refine aR rfl rfl (fun h => ?_) (fun h => ?_) | fail)
 ·(refine aW rfl (aJN (i := i) rfl (by omega) hp) rfl rfl ?_; rintro _ _ _ ⟨rfl, rfl, rfl⟩; refine ⟨nL, ?_⟩)
  have d1 := da.gt i
  have d2 := db.gt i
  repeat (refine kV ?_)
  (refine aW rfl (aJN (i := i) rfl (by omega) hq) rfl rfl ?_; rintro _ _ _ ⟨rfl, rfl, rfl⟩; refine ⟨nL, ?_⟩)
  repeat' (first | refine kV ?_ | refine aQ rfl (fun h => ?_) (fun h => ?_) | refine aR rfl rfl (fun h => ?_) (fun h => ?_) | fail)
  ·refine aM (N - (i + 1)) _ _ _ (by first | omega | (simp only [List.length_append, List.length_cons, List.length_nil]; omega)) aO dG dF (⟨i + 1, _, 1, by omega, rfl, by rw [dH]; exact ho, ?_, by omega, ?_, rfl, rfl, rfl⟩)
   ·rw [qD, iT _ _ _ (by omega)]; exact hd.snoc (by omega)
   ·exact aGZ hv (by omega) (s := gt a i + gt b i + cr) rfl (by omega)
  ·refine aM (N - (i + 1)) _ _ _ (by first | omega | (simp only [List.length_append, List.length_cons, List.length_nil]; omega)) aO dG dF (⟨i + 1, _, 0, by omega, rfl, by rw [dH]; exact ho, ?_, by omega, ?_, rfl, rfl, rfl⟩)
   ·rw [qD, iT _ _ _ (by omega)]; exact hd.snoc (by omega)
   ·exact aGZ hv (by omega) (s := gt a i + gt b i + cr) rfl (by omega)
 ·have hiN : i = N := by omega
  subst hiN
  rw [List.take_of_length_le (show o.length ≤ i by omega)] at hv hd
  rw [List.take_of_length_le (show a.length ≤ i by omega), List.take_of_length_le (show b.length ≤ i by omega), va, vb] at hv
  have hcr0 : cr = 0 := by
   have h1 := jR da
   have h2 := jR db
   have h3 := mV (show a.length ≤ i - 1 by omega)
   have h4 := mV (show b.length ≤ i - 1 by omega)
   have h5 : (1000000000 : Int) ^ i = 1000000000 ^ (i - 1) * 1000000000 := by
    rw [← Int.pow_succ]; congr 1; omega
   have h6 := iX (i - 1)
   have h7 := bS hd
   by_cases c : cr = 0
   ·exact c
   ·have : cr = 1 := by omega
    subst this
    omega
  subst hcr0
  have hg : fK o = gr (m + n) := nA hd (by omega)
  refine aF vM ?_
  (refine aW rfl (qL (l := o) (c := i) ho.symm (by omega) (by omega) aU) rfl rfl ?_; rintro _ _ _ ⟨rfl, rfl, rfl⟩; refine ⟨nL, ?_⟩)
  repeat (refine kV ?_)
  rw [hg]
  refine aH (by first | exact .inl rfl | exact .inr rfl) rfl rfl _ _ dG dF (⟨rfl, _, _, rfl, ⟨by rw [← hg]; have := uH o; obtain ⟨k, h1, h2, _⟩ := this; rw [h2]; simp; omega, .inl (Ok.mk _ _)⟩, rfl⟩)
end
end Go.Proofs.YtgeagiikkeiioaaGreat
namespace Go.Proofs.YtgeagiikkeiioaaGreat
open Go Go.Fx
section
variable {X : List Nat} {w0 : World} {M0 : List Ent} {I0 : List bA}
theorem wX {o : List Int} : (fK o).length ≤ o.length := by
 obtain ⟨k, h1, h2, _⟩ := uH o
 rw [h2]; simp; omega
theorem aAT {p q : Option Addr} {m n cp cq : Nat} (hm : (gr m).length ≤ 100000000000) (hle : n ≤ m) (hp : aT p (recs eG (gr m)) ∈ I0) (hq : aT q (recs eG (gr n)) ∈ I0) :
  CD Tryz.prog 210 [.slice p (gr m).length cp, .slice q (gr n).length cq] X w0 M0 I0 (GrP (m - n) M0 I0) := by
 have da := bT m
 have db := bT n
 have va := cO m
 have vb := cO n
 have hln := gI hle
 generalize ha : gr m = a at *
 generalize hb : gr n = b at *
 refine fB Tryz.func210 rfl Tryz.ntmps210 rfl ?_
 repeat (refine kV ?_)
 (refine jM (a.length) rfl rfl (by omega) (by omega) (by omega) (by omega) (nJ _ _) rfl rfl ?_; intro bo; refine ⟨nL, ?_⟩)
 repeat (refine kV ?_)
 refine aS [0, 1, 5, 13] rfl (fun k G M I => ∃ (i : Nat) (o : List Int) (cr : Int), i ≤ a.length ∧ k = a.length - i ∧ o.length = a.length ∧ Dig (o.take i) ∧ (0 ≤ cr ∧ cr ≤ 1) ∧ val (o.take i) - 1000000000 ^ i * cr = val (a.take i) - val (b.take i) ∧ G = [(6, .int .u32 cr), (14, .int .i64 i)] ∧ M = .blk bo (recs eG o) 155 :: M0 ∧ I0 = I) (a.length) _ _ _ aO dG dF (⟨0, _, 0, by omega, by omega, by simp, by simp [Dig], by omega, by simp [val], rfl, rfl, rfl⟩) ?_
 rintro k G M I ⟨i, o, cr, hi, rfl, ho, hd, hcr, hv, rfl, rfl, rfl⟩
 repeat' (first | refine kV ?_ | refine aQ rfl (fun h => ?_) (fun h => ?_) | refine aR rfl rfl (fun h => ?_) (fun h => ?_) | fail)
 ·(refine aW rfl (aJN (i := i) rfl (by omega) hq) rfl rfl ?_; rintro _ _ _ ⟨rfl, rfl, rfl⟩; refine ⟨nL, ?_⟩)
  have d1 := da.gt i
  have d2 := db.gt i
  repeat' (first | refine kV ?_ | refine aQ rfl (fun h => ?_) (fun h => ?_) | refine aR rfl rfl (fun h => ?_) (fun h => ?_) | fail)
  ·refine aM (a.length - (i + 1)) _ _ _ (by first | omega | (simp only [List.length_append, List.length_cons, List.length_nil]; omega)) aO dG dF (⟨i + 1, _, 1, by omega, rfl, by rw [dH]; exact ho, ?_, by omega, ?_, rfl, rfl, rfl⟩)
   ·rw [qD, iT _ _ _ (by omega)]; exact hd.snoc (by omega)
   ·exact aFQ hv (by omega) (show gt a i + 1000000000 - (gt b i + cr) - 1000000000 * 1 = gt a i - gt b i - cr by omega)
  ·refine aM (a.length - (i + 1)) _ _ _ (by first | omega | (simp only [List.length_append, List.length_cons, List.length_nil]; omega)) aO dG dF (⟨i + 1, _, 0, by omega, rfl, by rw [dH]; exact ho, ?_, by omega, ?_, rfl, rfl, rfl⟩)
   ·rw [qD, iT _ _ _ (by omega)]; exact hd.snoc (by omega)
   ·exact aFQ hv (by omega) (show gt a i - (gt b i + cr) - 1000000000 * 0 = gt a i - gt b i - cr by omega)
 ·have hiN : i = a.length := by omega
  subst hiN
  rw [List.take_of_length_le (show o.length ≤ a.length by omega)] at hv hd
  rw [List.take_length, List.take_of_length_le hln, va, vb] at hv
  have hcr0 : cr = 0 := by
   have h1 := jR hd
   have h7 := bS hd
   rw [ho] at h1
   by_cases c : cr = 0
   ·exact c
   ·have : cr = 1 := by omega
    subst this
    omega
  subst hcr0
  have hg : fK o = gr (m - n) := nA hd (by omega)
  refine aF vM ?_
  (refine aW rfl (qL (l := o) (c := a.length) ho.symm (by omega) (by omega) aU) rfl rfl ?_; rintro _ _ _ ⟨rfl, rfl, rfl⟩; refine ⟨nL, ?_⟩)
  repeat (refine kV ?_)
  have hle2 := wX (o := o)
  rw [hg] at hle2 ⊢
  refine aH (by first | exact .inl rfl | exact .inr rfl) rfl rfl _ _ dG dF (⟨rfl, _, _, rfl, ⟨by omega, .inl (Ok.mk _ _)⟩, rfl⟩)
theorem rR {n : Nat} (hn : n ≤ 18446744073709551615) : CD Tryz.prog 173 [.int .u64 n] X w0 M0 I0 (GrP n M0 I0) := by
 refine fB Tryz.func173 rfl Tryz.ntmps173 rfl ?_
 repeat (refine kV ?_)
 refine mI 155 1 ?_
 refine aS [] rfl (fun k G M I => ∃ (m : Nat) (a : Option Addr) (c' : Nat) (xs : List Int), m ≤ n ∧ k = m ∧ (0 < m → xs.length ≤ 2 - (gr m).length + 1) ∧ xs ++ gr m = gr n ∧ xs.length ≤ 3 ∧ G = [(0, .int .u64 m), (3, .slice a xs.length c')] ∧ M = .row a xs.length c' (recs eG xs) 155 1 :: M0 ∧ I0 = I) (n) _ _ _ aO dG dF (⟨n, none, 0, [], by omega, rfl, by simp, by simp, by simp, rfl, rfl, rfl⟩) ?_
 rintro k G M I ⟨m, a, c', xs, hm, rfl, _, hxs, hx3, rfl, rfl, rfl⟩
 have h3 : (gr n).length ≤ 3 := pM (by omega)
 have h4 : xs.length + (gr k).length ≤ 3 := by rw [← hxs] at h3; simpa using h3
 repeat' (first | refine kV ?_ | refine aQ rfl (fun h => ?_) (fun h => ?_) | refine aR rfl rfl (fun h => ?_) (fun h => ?_) | fail)
 ·have hk : k ≠ 0 := by omega
  have e1 : ((k : Int)).tmod 1000000000 = ((k % 1000000000 : Nat) : Int) := by rw [Int.tmod_eq_emod_of_nonneg (by omega)]; omega
  have e2 : ((k : Int)).tdiv 1000000000 = ((k / 1000000000 : Nat) : Int) := by rw [Int.tdiv_eq_ediv_of_nonneg (by omega)]; omega
  rw [e1]
  have hgk := uE hk
  have h5 : (gr k).length = (gr (k / 1000000000)).length + 1 := by rw [hgk]; simp
  repeat (refine kV ?_)
  (refine aL (cs := recs eG [((k % 1000000000 : Nat) : Int)]) ([.int .u32 ((k % 1000000000 : Nat) : Int)]) rfl rfl (by intro v hv; repeat (first | exact absurd hv (List.not_mem_nil) | (rcases List.mem_cons.1 hv with rfl | hv; · rfl))) (by omega) rfl rfl rfl ?_; intro b2; refine ⟨nL, ?_⟩)
  (refine aX (ys := [((k % 1000000000 : Nat) : Int)]) 1 rfl rfl rfl ?_ (by decide) rfl (by omega) (by omega) rfl rfl ?_; (· first | exact Src.blk aU | exact Src.row aU | exact Src.imm aU (by first | assumption | exact .inl (Ok.mk _ _))); intro a2 c2; refine ⟨nL, ?_⟩)
  repeat (refine kV ?_)
  rw [e2]
  refine aM (k / 1000000000) _ _ _ (by first | omega | (simp only [List.length_append, List.length_cons, List.length_nil]; omega)) aO dG dF (⟨k / 1000000000, a2, c2, _, by omega, rfl, by intro _; simp; omega, by rw [List.append_assoc]; rw [hgk] at hxs; exact hxs, by simp; omega, rfl, rfl, rfl⟩)
 ·have h0 : k = 0 := by omega
  subst h0
  rw [gG, List.append_nil] at hxs
  subst hxs
  refine aSK (fun w hw => And.intro (hw.rowLe (List.Mem.head _)) ((hw.rowS (List.Mem.head _)).2.imp id And.right)) (fun hc => ?_)
  refine wE vM ?_
  refine aH (by first | exact .inl rfl | exact .inr rfl) rfl rfl _ _ dG dF (⟨rfl, _, _, rfl, hc, rfl⟩)
end
end Go.Proofs.YtgeagiikkeiioaaGreat
