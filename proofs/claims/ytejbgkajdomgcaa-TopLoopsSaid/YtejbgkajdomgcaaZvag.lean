/- The types and functions of this seat, as instances. -/
import Derived.Test.YtejbgkajdomgcaaProg
import Derived.Test.YtejbgkajdomgcaaZvac
import Derived.KernelRfl
import Derived.Test.YtejbgkajdomgcaaZvae
import Derived.Test.YtejbgkajdomgcaaZvaf
set_option linter.unusedSimpArgs false
set_option linter.unusedVariables false
set_option maxRecDepth 100000
set_option maxHeartbeats 4000000
namespace Go.Proofs.Ytejbgkajdomgcaa
open Go Go.Fx
instance:IntTy Try.prog 2 .i64:=⟨Try.underlying2⟩
instance:ScalarTy Try.prog 3:=⟨⟨_,Try.underlying3,(by intro _ h;cases h),(by intro _ _ h;cases h)⟩,by kernel_rfl⟩
instance:IntTy Try.prog 3 .i64:=⟨Try.underlying3⟩
instance:ElemTy Try.prog 3 1 8 [.int .i64 0]:=⟨by kernel_rfl,rfl⟩
instance:ScalarTy Try.prog 4:=⟨⟨_,Try.underlying4,(by intro _ h;cases h),(by intro _ _ h;cases h)⟩,by kernel_rfl⟩
instance:BoolTy Try.prog 4:=⟨Try.underlying4⟩
instance:ElemTy Try.prog 4 1 1 [.bool false]:=⟨by kernel_rfl,rfl⟩
instance:IntTy Try.prog 5 .u8:=⟨Try.underlying5⟩
instance:StrTy Try.prog 9:=⟨Try.underlying9⟩
instance:ScalarTy Try.prog 22:=⟨⟨_,Try.underlying22,(by intro _ h;cases h),(by intro _ _ h;cases h)⟩,by kernel_rfl⟩
instance:SliceTy Try.prog 22 30 6:=⟨Try.underlying22,by kernel_rfl⟩
instance:ScalarTy Try.prog 23:=⟨⟨_,Try.underlying23,(by intro _ h;cases h),(by intro _ _ h;cases h)⟩,by kernel_rfl⟩
instance:SliceTy Try.prog 23 3 1:=⟨Try.underlying23,by kernel_rfl⟩
instance:ElemTy Try.prog 23 1 24 [.slice none 0 0]:=⟨by kernel_rfl,rfl⟩
instance:AggTy Try.prog 28 4:=⟨.inl ⟨_,Try.underlying28⟩,by kernel_rfl⟩
instance:StructTy Try.prog 28 [(0,1),(1,1),(2,1),(3,1)] [.int .i64 0, .int .i64 0, .int .i64 0, .int .i64 0]:=⟨⟨_,Try.underlying28,by kernel_rfl⟩,by kernel_rfl⟩
instance:FieldAt Try.prog 28 0 0 3 1:=⟨⟨_,_,Try.underlying28,rfl,rfl,rfl⟩,by kernel_rfl⟩
instance:FieldAt Try.prog 28 1 1 3 1:=⟨⟨_,_,Try.underlying28,rfl,rfl,rfl⟩,by kernel_rfl⟩
instance:FieldAt Try.prog 28 2 2 3 1:=⟨⟨_,_,Try.underlying28,rfl,rfl,rfl⟩,by kernel_rfl⟩
instance:FieldAt Try.prog 28 3 3 3 1:=⟨⟨_,_,Try.underlying28,rfl,rfl,rfl⟩,by kernel_rfl⟩
instance:IntStruct Try.prog 28 4:=⟨by kernel_rfl,by kernel_rfl,by kernel_rfl,by kernel_rfl⟩
instance:ElemTy Try.prog 28 4 32 [.int .i64 0, .int .i64 0, .int .i64 0, .int .i64 0]:=⟨by kernel_rfl,rfl⟩
instance:AggTy Try.prog 30 6:=⟨.inl ⟨_,Try.underlying30⟩,by kernel_rfl⟩
instance:StructTy Try.prog 30 [(0,1),(1,1),(2,4)] [.int .i64 0, .int .i64 0, .int .i64 0, .int .i64 0, .int .i64 0, .int .i64 0]:=⟨⟨_,Try.underlying30,by kernel_rfl⟩,by kernel_rfl⟩
instance:FieldAt Try.prog 30 0 0 3 1:=⟨⟨_,_,Try.underlying30,rfl,rfl,rfl⟩,by kernel_rfl⟩
instance:FieldAt Try.prog 30 1 1 3 1:=⟨⟨_,_,Try.underlying30,rfl,rfl,rfl⟩,by kernel_rfl⟩
instance:FieldAt Try.prog 30 2 2 28 4:=⟨⟨_,_,Try.underlying30,rfl,rfl,rfl⟩,by kernel_rfl⟩
instance:ElemTy Try.prog 30 6 48 [.int .i64 0, .int .i64 0, .int .i64 0, .int .i64 0, .int .i64 0, .int .i64 0]:=⟨by kernel_rfl,rfl⟩
instance:ScalarTy Try.prog 31:=⟨⟨_,Try.underlying31,(by intro _ h;cases h),(by intro _ _ h;cases h)⟩,by kernel_rfl⟩
instance:SliceTy Try.prog 31 50 3:=⟨Try.underlying31,by kernel_rfl⟩
instance:AggTy Try.prog 33 2:=⟨.inl ⟨_,Try.underlying33⟩,by kernel_rfl⟩
instance:StructTy Try.prog 33 [(0,1),(1,1)] [.int .i64 0, .slice none 0 0]:=⟨⟨_,Try.underlying33,by kernel_rfl⟩,by kernel_rfl⟩
instance:FieldAt Try.prog 33 0 0 3 1:=⟨⟨_,_,Try.underlying33,rfl,rfl,rfl⟩,by kernel_rfl⟩
instance:FieldAt Try.prog 33 1 1 31 1:=⟨⟨_,_,Try.underlying33,rfl,rfl,rfl⟩,by kernel_rfl⟩
instance:ElemTy Try.prog 33 2 32 [.int .i64 0, .slice none 0 0]:=⟨by kernel_rfl,rfl⟩
instance:SliceTy Try.prog 38 23 1:=⟨Try.underlying38,by kernel_rfl⟩
instance:AggTy Try.prog 50 3:=⟨.inl ⟨_,Try.underlying50⟩,by kernel_rfl⟩
instance:StructTy Try.prog 50 [(0,1),(1,1),(2,1)] [.int .i64 0, .int .i64 0, .int .i64 0]:=⟨⟨_,Try.underlying50,by kernel_rfl⟩,by kernel_rfl⟩
instance:FieldAt Try.prog 50 0 0 3 1:=⟨⟨_,_,Try.underlying50,rfl,rfl,rfl⟩,by kernel_rfl⟩
instance:FieldAt Try.prog 50 1 1 3 1:=⟨⟨_,_,Try.underlying50,rfl,rfl,rfl⟩,by kernel_rfl⟩
instance:FieldAt Try.prog 50 2 2 3 1:=⟨⟨_,_,Try.underlying50,rfl,rfl,rfl⟩,by kernel_rfl⟩
instance:ElemTy Try.prog 50 3 24 [.int .i64 0, .int .i64 0, .int .i64 0]:=⟨by kernel_rfl,rfl⟩
instance:ScalarTy Try.prog 52:=⟨⟨_,Try.underlying52,(by intro _ h;cases h),(by intro _ _ h;cases h)⟩,by kernel_rfl⟩
instance:SliceTy Try.prog 52 3 1:=⟨Try.underlying52,by kernel_rfl⟩
instance:SliceTy Try.prog 60 64 2:=⟨Try.underlying60,by kernel_rfl⟩
instance:AggTy Try.prog 64 2:=⟨.inl ⟨_,Try.underlying64⟩,by kernel_rfl⟩
instance:StructTy Try.prog 64 [(0,1),(1,1)] [.int .i64 0, .bool false]:=⟨⟨_,Try.underlying64,by kernel_rfl⟩,by kernel_rfl⟩
instance:FieldAt Try.prog 64 0 0 3 1:=⟨⟨_,_,Try.underlying64,rfl,rfl,rfl⟩,by kernel_rfl⟩
instance:FieldAt Try.prog 64 1 1 4 1:=⟨⟨_,_,Try.underlying64,rfl,rfl,rfl⟩,by kernel_rfl⟩
instance:ElemTy Try.prog 64 2 16 [.int .i64 0, .bool false]:=⟨by kernel_rfl,rfl⟩
instance:ScalarTy Try.prog 65:=⟨⟨_,Try.underlying65,(by intro _ h;cases h),(by intro _ _ h;cases h)⟩,by kernel_rfl⟩
instance:SliceTy Try.prog 65 28 4:=⟨Try.underlying65,by kernel_rfl⟩
instance:ElemTy Try.prog 65 1 24 [.slice none 0 0]:=⟨by kernel_rfl,rfl⟩
instance:AggTy Try.prog 73 4:=⟨.inr ⟨_,_,Try.underlying73⟩,by kernel_rfl⟩
instance:ArrTy Try.prog 73 4 3 1:=⟨Try.underlying73,by kernel_rfl⟩
instance:ElemTy Try.prog 73 4 32 [.int .i64 0, .int .i64 0, .int .i64 0, .int .i64 0]:=⟨by kernel_rfl,rfl⟩
instance:IntTy Try.prog 83 .u64:=⟨Try.underlying83⟩
instance:ScalarTy Try.prog 85:=⟨⟨_,Try.underlying85,(by intro _ h;cases h),(by intro _ _ h;cases h)⟩,by kernel_rfl⟩
instance:SliceTy Try.prog 85 4 1:=⟨Try.underlying85,by kernel_rfl⟩
instance:ElemTy Try.prog 85 1 24 [.slice none 0 0]:=⟨by kernel_rfl,rfl⟩
instance:ScalarTy Try.prog 88:=⟨⟨_,Try.underlying88,(by intro _ h;cases h),(by intro _ _ h;cases h)⟩,by kernel_rfl⟩
instance:ElemTy Try.prog 88 1 8 [.nilFunc]:=⟨by kernel_rfl,rfl⟩
instance:ScalarTy Try.prog 98:=⟨⟨_,Try.underlying98,(by intro _ h;cases h),(by intro _ _ h;cases h)⟩,by kernel_rfl⟩
instance:SliceTy Try.prog 98 113 1:=⟨Try.underlying98,by kernel_rfl⟩
instance:AggTy Try.prog 100 2:=⟨.inl ⟨_,Try.underlying100⟩,by kernel_rfl⟩
instance:StructTy Try.prog 100 [(0,1),(1,1)] [.bool false, .slice none 0 0]:=⟨⟨_,Try.underlying100,by kernel_rfl⟩,by kernel_rfl⟩
instance:FieldAt Try.prog 100 0 0 4 1:=⟨⟨_,_,Try.underlying100,rfl,rfl,rfl⟩,by kernel_rfl⟩
instance:FieldAt Try.prog 100 1 1 98 1:=⟨⟨_,_,Try.underlying100,rfl,rfl,rfl⟩,by kernel_rfl⟩
instance:ElemTy Try.prog 100 2 32 [.bool false, .slice none 0 0]:=⟨by kernel_rfl,rfl⟩
instance:AggTy Try.prog 102 8:=⟨.inr ⟨_,_,Try.underlying102⟩,by kernel_rfl⟩
instance:ArrTy Try.prog 102 4 100 2:=⟨Try.underlying102,by kernel_rfl⟩
instance:ElemTy Try.prog 102 8 128 [.bool false, .slice none 0 0, .bool false, .slice none 0 0, .bool false, .slice none 0 0, .bool false, .slice none 0 0]:=⟨by kernel_rfl,rfl⟩
instance:ScalarTy Try.prog 113:=⟨⟨_,Try.underlying113,(by intro _ h;cases h),(by intro _ _ h;cases h)⟩,by kernel_rfl⟩
instance:IntTy Try.prog 113 .u32:=⟨Try.underlying113⟩
instance:ElemTy Try.prog 113 1 4 [.int .u32 0]:=⟨by kernel_rfl,rfl⟩
instance:ScalarTy Try.prog 115:=⟨⟨_,Try.underlying115,(by intro _ h;cases h),(by intro _ _ h;cases h)⟩,by kernel_rfl⟩
instance:IntTy Try.prog 115 .u64:=⟨Try.underlying115⟩
instance:FnOk Try.prog 3:=⟨_,Try.func3,by kernel_rfl,by kernel_rfl⟩
instance:FnOk Try.prog 4:=⟨_,Try.func4,by kernel_rfl,by kernel_rfl⟩
instance:FnOk Try.prog 5:=⟨_,Try.func5,by kernel_rfl,by kernel_rfl⟩
instance:FnOk Try.prog 6:=⟨_,Try.func6,by kernel_rfl,by kernel_rfl⟩
instance:FnOk Try.prog 7:=⟨_,Try.func7,by kernel_rfl,by kernel_rfl⟩
instance:FnOk Try.prog 8:=⟨_,Try.func8,by kernel_rfl,by kernel_rfl⟩
instance:FnOk Try.prog 9:=⟨_,Try.func9,by kernel_rfl,by kernel_rfl⟩
instance:FnOk Try.prog 10:=⟨_,Try.func10,by kernel_rfl,by kernel_rfl⟩
instance:FnOk Try.prog 11:=⟨_,Try.func11,by kernel_rfl,by kernel_rfl⟩
instance:FnOk Try.prog 12:=⟨_,Try.func12,by kernel_rfl,by kernel_rfl⟩
instance:FnOk Try.prog 13:=⟨_,Try.func13,by kernel_rfl,by kernel_rfl⟩
instance:FnOk Try.prog 14:=⟨_,Try.func14,by kernel_rfl,by kernel_rfl⟩
instance:FnOk Try.prog 15:=⟨_,Try.func15,by kernel_rfl,by kernel_rfl⟩
instance:FnOk Try.prog 16:=⟨_,Try.func16,by kernel_rfl,by kernel_rfl⟩
instance:FnOk Try.prog 17:=⟨_,Try.func17,by kernel_rfl,by kernel_rfl⟩
instance:FnOk Try.prog 18:=⟨_,Try.func18,by kernel_rfl,by kernel_rfl⟩
instance:FnOk Try.prog 19:=⟨_,Try.func19,by kernel_rfl,by kernel_rfl⟩
instance:FnOk Try.prog 20:=⟨_,Try.func20,by kernel_rfl,by kernel_rfl⟩
instance:FnOk Try.prog 21:=⟨_,Try.func21,by kernel_rfl,by kernel_rfl⟩
instance:FnOk Try.prog 22:=⟨_,Try.func22,by kernel_rfl,by kernel_rfl⟩
instance:FnOk Try.prog 23:=⟨_,Try.func23,by kernel_rfl,by kernel_rfl⟩
instance:FnOk Try.prog 24:=⟨_,Try.func24,by kernel_rfl,by kernel_rfl⟩
instance:FnOk Try.prog 25:=⟨_,Try.func25,by kernel_rfl,by kernel_rfl⟩
instance:FnOk Try.prog 26:=⟨_,Try.func26,by kernel_rfl,by kernel_rfl⟩
instance:FnOk Try.prog 27:=⟨_,Try.func27,by kernel_rfl,by kernel_rfl⟩
instance:FnOk Try.prog 28:=⟨_,Try.func28,by kernel_rfl,by kernel_rfl⟩
instance:FnOk Try.prog 29:=⟨_,Try.func29,by kernel_rfl,by kernel_rfl⟩
instance:FnOk Try.prog 30:=⟨_,Try.func30,by kernel_rfl,by kernel_rfl⟩
instance:FnOk Try.prog 31:=⟨_,Try.func31,by kernel_rfl,by kernel_rfl⟩
instance:FnOk Try.prog 32:=⟨_,Try.func32,by kernel_rfl,by kernel_rfl⟩
instance:FnOk Try.prog 33:=⟨_,Try.func33,by kernel_rfl,by kernel_rfl⟩
instance:FnOk Try.prog 34:=⟨_,Try.func34,by kernel_rfl,by kernel_rfl⟩
instance:FnOk Try.prog 35:=⟨_,Try.func35,by kernel_rfl,by kernel_rfl⟩
instance:FnOk Try.prog 36:=⟨_,Try.func36,by kernel_rfl,by kernel_rfl⟩
instance:FnOk Try.prog 37:=⟨_,Try.func37,by kernel_rfl,by kernel_rfl⟩
instance:FnOk Try.prog 38:=⟨_,Try.func38,by kernel_rfl,by kernel_rfl⟩
instance:FnOk Try.prog 39:=⟨_,Try.func39,by kernel_rfl,by kernel_rfl⟩
instance:FnOk Try.prog 40:=⟨_,Try.func40,by kernel_rfl,by kernel_rfl⟩
instance:FnOk Try.prog 41:=⟨_,Try.func41,by kernel_rfl,by kernel_rfl⟩
instance:FnOk Try.prog 42:=⟨_,Try.func42,by kernel_rfl,by kernel_rfl⟩
instance:FnOk Try.prog 43:=⟨_,Try.func43,by kernel_rfl,by kernel_rfl⟩
instance:FnOk Try.prog 44:=⟨_,Try.func44,by kernel_rfl,by kernel_rfl⟩
instance:FnOk Try.prog 45:=⟨_,Try.func45,by kernel_rfl,by kernel_rfl⟩
instance:FnOk Try.prog 46:=⟨_,Try.func46,by kernel_rfl,by kernel_rfl⟩
instance:FnOk Try.prog 47:=⟨_,Try.func47,by kernel_rfl,by kernel_rfl⟩
instance:FnOk Try.prog 48:=⟨_,Try.func48,by kernel_rfl,by kernel_rfl⟩
instance:FnOk Try.prog 49:=⟨_,Try.func49,by kernel_rfl,by kernel_rfl⟩
instance:FnOk Try.prog 50:=⟨_,Try.func50,by kernel_rfl,by kernel_rfl⟩
instance:FnOk Try.prog 51:=⟨_,Try.func51,by kernel_rfl,by kernel_rfl⟩
instance:FnOk Try.prog 52:=⟨_,Try.func52,by kernel_rfl,by kernel_rfl⟩
instance:FnOk Try.prog 53:=⟨_,Try.func53,by kernel_rfl,by kernel_rfl⟩
instance:FnOk Try.prog 54:=⟨_,Try.func54,by kernel_rfl,by kernel_rfl⟩
instance:FnOk Try.prog 55:=⟨_,Try.func55,by kernel_rfl,by kernel_rfl⟩
instance:FnOk Try.prog 64:=⟨_,Try.func64,by kernel_rfl,by kernel_rfl⟩
instance:FnOk Try.prog 65:=⟨_,Try.func65,by kernel_rfl,by kernel_rfl⟩
instance:FnOk Try.prog 66:=⟨_,Try.func66,by kernel_rfl,by kernel_rfl⟩
instance:FnOk Try.prog 67:=⟨_,Try.func67,by kernel_rfl,by kernel_rfl⟩
instance:FnOk Try.prog 68:=⟨_,Try.func68,by kernel_rfl,by kernel_rfl⟩
instance:FnOk Try.prog 69:=⟨_,Try.func69,by kernel_rfl,by kernel_rfl⟩
instance:FnOk Try.prog 70:=⟨_,Try.func70,by kernel_rfl,by kernel_rfl⟩
instance:FnOk Try.prog 71:=⟨_,Try.func71,by kernel_rfl,by kernel_rfl⟩
instance:FnOk Try.prog 72:=⟨_,Try.func72,by kernel_rfl,by kernel_rfl⟩
instance:FnOk Try.prog 78:=⟨_,Try.func78,by kernel_rfl,by kernel_rfl⟩
instance:FnOk Try.prog 79:=⟨_,Try.func79,by kernel_rfl,by kernel_rfl⟩
instance:FnOk Try.prog 80:=⟨_,Try.func80,by kernel_rfl,by kernel_rfl⟩
instance:FnOk Try.prog 81:=⟨_,Try.func81,by kernel_rfl,by kernel_rfl⟩
instance:FnOk Try.prog 82:=⟨_,Try.func82,by kernel_rfl,by kernel_rfl⟩
instance:FnOk Try.prog 83:=⟨_,Try.func83,by kernel_rfl,by kernel_rfl⟩
instance:FnOk Try.prog 84:=⟨_,Try.func84,by kernel_rfl,by kernel_rfl⟩
instance:FnOk Try.prog 85:=⟨_,Try.func85,by kernel_rfl,by kernel_rfl⟩
instance:FnOk Try.prog 86:=⟨_,Try.func86,by kernel_rfl,by kernel_rfl⟩
instance:FnOk Try.prog 88:=⟨_,Try.func88,by kernel_rfl,by kernel_rfl⟩
instance:FnOk Try.prog 89:=⟨_,Try.func89,by kernel_rfl,by kernel_rfl⟩
instance:FnOk Try.prog 90:=⟨_,Try.func90,by kernel_rfl,by kernel_rfl⟩
instance:FnOk Try.prog 91:=⟨_,Try.func91,by kernel_rfl,by kernel_rfl⟩
instance:FnOk Try.prog 92:=⟨_,Try.func92,by kernel_rfl,by kernel_rfl⟩
instance:FnOk Try.prog 93:=⟨_,Try.func93,by kernel_rfl,by kernel_rfl⟩
instance:FnOk Try.prog 94:=⟨_,Try.func94,by kernel_rfl,by kernel_rfl⟩
instance:FnOk Try.prog 95:=⟨_,Try.func95,by kernel_rfl,by kernel_rfl⟩
instance:FnOk Try.prog 96:=⟨_,Try.func96,by kernel_rfl,by kernel_rfl⟩
instance:FnOk Try.prog 97:=⟨_,Try.func97,by kernel_rfl,by kernel_rfl⟩
instance:FnOk Try.prog 98:=⟨_,Try.func98,by kernel_rfl,by kernel_rfl⟩
instance:FnOk Try.prog 99:=⟨_,Try.func99,by kernel_rfl,by kernel_rfl⟩
instance:FnOk Try.prog 100:=⟨_,Try.func100,by kernel_rfl,by kernel_rfl⟩
theorem mixed:Try.prog.follows .mixedOrders=true:=by kernel_rfl
end Go.Proofs.Ytejbgkajdomgcaa
namespace Go.Fx
structure BoxP (g:Prop):Prop where
 out:g
section
variable {P:Program} {n:Nat} {Q:Exit→Act→World→Prop} {G:Env} {X:List Nat} {w0:World} {M:List Ent} {I:List aO} {ops l:List Oper} {m:Mode} {c:Code} {e:Exit}
structure Br (b:Bool) (p q:Prop):Prop where
 y:b=true→p
 n:b=false→q
theorem Br.dec {p:Prop} [Decidable p]:Br (B p) p (¬p):=⟨fun h=>Decidable.byContradiction (fun hn=>by rw [bQ hn] at h;cases h),fun h hp=>by rw [dX hp] at h;cases h⟩
theorem Br.raw {b:Bool}:Br b (b=true) (b=false):=⟨id,id⟩
theorem Br.lit:Br true True False:=⟨fun _=>True.intro,fun h=>by cases h⟩
theorem Br.lit2:Br false False True:=⟨fun h=>(by cases h),fun _=>True.intro⟩
theorem bG {c:Operand} {x y:Code} {b:Bool} {p q:Prop} (hc:ev G c=some (.bool b)) (h1:p→TD P n x Q G X w0 M I) (h2:q→TD P n y Q G X w0 M I) (hb:Br b p q:=by first|exact Br.dec|exact Br.raw|fail):TD P n (.cond c x y) Q G X w0 M I:=
 yY hc (fun e=>h1 (hb.y e)) (fun e=>h2 (hb.n e))
theorem bI {op:Op} {ty:TypeId} {pos:String} {af:Array Edge} {d:Option Nat} {b:Bool} {p q:Prop} {g:Nat × Bool} {t:Nat} (hj:lG ops g.1=some t) (hv:lk G t=some (.bool b))
  (h1:p→RD P n ops Q m (⟨d,op,ty,pos,af,some g⟩::l) ((t, .bool true)::G) X w0 M I) (h2:q→RD P n ops Q m (⟨d,op,ty,pos,af,some g⟩::l) ((t, .bool false)::G) X w0 M I) (hb:Br b p q:=by first|exact Br.dec|((fail_if_success exact Br.lit);(fail_if_success exact Br.lit2);exact Br.raw)|fail):
  RD P n ops Q m (⟨d,op,ty,pos,af,some g⟩::l) G X w0 M I:=zK hj hv (fun e=>h1 (hb.y e)) (fun e=>h2 (hb.n e))
end
end Go.Fx
namespace Go.Fx
theorem jY {p g:Prop} (h:g) (w:BoxP g→p:=by (intro hh;(first|refine aL ?_|refine dC ?_|refine jV ?_|refine gV ?_|refine dY ?_|refine dN ?_|refine gW ?_|refine eT ?_|refine eH ?_|refine eP ?_|refine jT ?_|refine jK ?_|refine jH ?_|refine jP rfl ?_|refine gG ?_|(refine fG ?_;first|refine fC rfl rfl rfl ?_|(refine fU rfl rfl ?_;refine dM rfl rfl rfl okJ ?_)|refine fF rfl rfl (by omega) ?_|refine fE rfl rfl (by omega) ?_)|(refine bD ?_;refine aC rfl (fun _=>bV rfl) rfl rfl ?_)|refine aC rfl (fun _=>aM rfl) rfl rfl ?_|(refine fV ?_;first|refine aC rfl (fun _=>aR rfl rfl w_) rfl rfl ?_|refine aC rfl (fun _=>aS rfl rfl w_) rfl rfl ?_|refine aC rfl (fun _=>cZ rfl rfl w_) rfl rfl ?_|refine aC rfl (fun _=>dB rfl rfl (by omega) q_) rfl rfl ?_|refine aC rfl (fun _=>dA rfl rfl (by omega) rfl) rfl rfl ?_|refine aC rfl (fun _=>bW rfl rfl) rfl rfl ?_|refine aC rfl (fun _=>dK rfl rfl) rfl rfl ?_|refine aC rfl (fun _=>dI rfl rfl) rfl rfl ?_)|(refine bD ?_;first|refine aC rfl (fun _=>bY rfl w_) rfl rfl ?_)|(refine fQ ?_;first|refine aC rfl (fun _=>bM rfl w_) rfl rfl ?_)|(refine fO ?_;first|refine aC rfl (fun _=>aQ rfl) rfl rfl ?_|refine aC rfl (fun _=>bS rfl rfl) rfl rfl ?_|refine aC rfl (fun _=>bT rfl rfl) rfl rfl ?_|refine aC rfl (fun _=>bX rfl rfl rfl) rfl rfl ?_)|(refine fP ?_;first|refine fB rfl (by decide) rfl rfl ?_|refine iN rfl (by decide) rfl rfl ?_)|(refine fJ ?_;first|refine aC rfl (fun _=>bH rfl) rfl rfl ?_)|(refine fH ?_;first|refine iR rfl rfl gP rfl rfl ?_|refine iP xB rfl rfl gP aH iX rfl rfl ?_|refine iO xB rfl rfl gP aH iX rfl rfl ?_|refine aC rfl (fun _=>bA rfl rfl gP) rfl rfl ?_)|(refine fT ?_;first|refine iU xB rfl aH nA rfl rfl ?_|refine iT xB rfl aH nA rfl rfl ?_|refine iA xB rfl aH nA rfl rfl ?_|refine fD xB rfl aH nA rfl rfl ?_|refine jN xB rfl aH gJ dE rfl rfl ?_|refine jX xB rfl aH gJ dE rfl rfl ?_|refine jS xB rfl aH gJ dE rfl rfl ?_|refine gY xB rfl aH gJ dE rfl rfl ?_)|(refine fK ?_;first|refine aC rfl (fun _=>bC rfl rfl) rfl rfl ?_|refine aC rfl (fun _=>bB rfl) rfl rfl ?_)|(refine gT ?_;first|refine lZ rfl rfl rfl mH stC rfl rfl ⟨okJ,?_⟩|refine iE rfl rfl dE rQ mH qW rfl rfl ⟨okJ,?_⟩)|(refine gU ?_;first|refine bK rfl ?_|refine bE rfl ?_|refine jM rfl (by omega) ?_|refine mO rfl (by omega) ?_));(repeat (first|refine aL ?_|refine dC ?_|refine jV ?_|refine gV ?_|refine dY ?_|refine dN ?_|refine gW ?_|refine eT ?_|refine eH ?_|refine eP ?_|refine jT ?_|refine jK ?_|refine jH ?_|refine jP rfl ?_|refine gG ?_|(refine fG ?_;first|refine fC rfl rfl rfl ?_|(refine fU rfl rfl ?_;refine dM rfl rfl rfl okJ ?_)|refine fF rfl rfl (by omega) ?_|refine fE rfl rfl (by omega) ?_)|(refine bD ?_;refine aC rfl (fun _=>bV rfl) rfl rfl ?_)|refine aC rfl (fun _=>aM rfl) rfl rfl ?_|(refine fV ?_;first|refine aC rfl (fun _=>aR rfl rfl w_) rfl rfl ?_|refine aC rfl (fun _=>aS rfl rfl w_) rfl rfl ?_|refine aC rfl (fun _=>cZ rfl rfl w_) rfl rfl ?_|refine aC rfl (fun _=>dB rfl rfl (by omega) q_) rfl rfl ?_|refine aC rfl (fun _=>dA rfl rfl (by omega) rfl) rfl rfl ?_|refine aC rfl (fun _=>bW rfl rfl) rfl rfl ?_|refine aC rfl (fun _=>dK rfl rfl) rfl rfl ?_|refine aC rfl (fun _=>dI rfl rfl) rfl rfl ?_)|(refine bD ?_;first|refine aC rfl (fun _=>bY rfl w_) rfl rfl ?_)|(refine fQ ?_;first|refine aC rfl (fun _=>bM rfl w_) rfl rfl ?_)|(refine fO ?_;first|refine aC rfl (fun _=>aQ rfl) rfl rfl ?_|refine aC rfl (fun _=>bS rfl rfl) rfl rfl ?_|refine aC rfl (fun _=>bT rfl rfl) rfl rfl ?_|refine aC rfl (fun _=>bX rfl rfl rfl) rfl rfl ?_)|(refine fP ?_;first|refine fB rfl (by decide) rfl rfl ?_|refine iN rfl (by decide) rfl rfl ?_)|(refine fJ ?_;first|refine aC rfl (fun _=>bH rfl) rfl rfl ?_)|(refine fH ?_;first|refine iR rfl rfl gP rfl rfl ?_|refine iP xB rfl rfl gP aH iX rfl rfl ?_|refine iO xB rfl rfl gP aH iX rfl rfl ?_|refine aC rfl (fun _=>bA rfl rfl gP) rfl rfl ?_)|(refine fT ?_;first|refine iU xB rfl aH nA rfl rfl ?_|refine iT xB rfl aH nA rfl rfl ?_|refine iA xB rfl aH nA rfl rfl ?_|refine fD xB rfl aH nA rfl rfl ?_|refine jN xB rfl aH gJ dE rfl rfl ?_|refine jX xB rfl aH gJ dE rfl rfl ?_|refine jS xB rfl aH gJ dE rfl rfl ?_|refine gY xB rfl aH gJ dE rfl rfl ?_)|(refine fK ?_;first|refine aC rfl (fun _=>bC rfl rfl) rfl rfl ?_|refine aC rfl (fun _=>bB rfl) rfl rfl ?_)|(refine gT ?_;first|refine lZ rfl rfl rfl mH stC rfl rfl ⟨okJ,?_⟩|refine iE rfl rfl dE rQ mH qW rfl rfl ⟨okJ,?_⟩)|(refine gU ?_;first|refine bK rfl ?_|refine bE rfl ?_|refine jM rfl (by omega) ?_|refine mO rfl (by omega) ?_)));exact hh.out)):p:=w ⟨h⟩
end Go.Fx
namespace Go.Proofs.Ytejbgkajdomgcaa
open Go Go.Fx
abbrev eG:Int→List Value:=eI .u32
theorem gtD (l:List Int) (i:Nat):gt l (i:Int)=l.getD i 0:=yX l i
theorem aLS {l:List Int} {i:Int} (h:(l.length:Int)≤i):gt l i=0:=by
 unfold gt
 simp [List.getD,show l.length≤i.toNat by omega]
theorem qQ (l:List Int) (i:Nat) (x:Int):st l (i:Int) x=l.set i x:=rfl
theorem Dig.gt {l:List Int} (h:Dig l) (i:Int):0≤gt l i∧gt l i < 1000000000:=h.getD i.toNat
section
variable {X:List Nat} {w0:World} {M0:List Ent} {I0:List aO}
theorem aEB {q:Option Addr} {l:List Int} {n c:Nat} {i:Int} (hn:n=l.length) (hi:0≤i) (hl:aN q (recs eG l)∈I0):
  CD Try.prog 92 [.slice q n c, .int .i64 i] X w0 M0 I0 (fun v M I=>M0=M∧I0=I∧v= .int .u32 (gt l i)):=by
 subst hn
 refine aX Try.func92 rfl Try.ntmps92 rfl ?_
 repeat' (first|refine jY ?_|refine bG rfl (fun h=>?_) (fun h=>?_)|refine bI rfl rfl (fun h=>?_) (fun h=>?_)|fail)
 ·refine bF (by first|exact .inl rfl|exact .inr rfl) rfl rfl _ _ aJ aI (⟨rfl,rfl,rfl⟩)
 ·refine bF (by first|exact .inl rfl|exact .inr rfl) rfl rfl _ _ aJ aI (⟨rfl,rfl,by rw [aLS (by omega)]⟩)
theorem oI {q:Option Addr} {l:List Int} {n c:Nat} (hn:n=l.length) (h63:n≤1000000000000) (hc:l.length≤c) (hl:aN q (recs eG l)∈I0):
  CD Try.prog 85 [.slice q n c] X w0 M0 I0 (fun v M I=>M0=M∧I=aN q (recs eG (dD l))::I0∧v= .slice q (dD l).length c):=by
 subst hn
 refine aX Try.func85 rfl Try.ntmps85 rfl ?_
 refine aKU (φ:=0 < l.length→Ok q) (fun w hw h=>(hw.sl hl).ok (by rw [fZ];omega)) (fun hq=>?_)
 repeat refine jY ?_
 refine aU [] rfl (fun k G M I=>∃m:Nat,m≤l.length∧k=m∧dD (l.take m)=dD l∧G=[(0, .slice q m c)]∧M0=M∧I0=I) (l.length) _ _ _ aT aJ aI (⟨l.length,by omega,rfl,by rw [List.take_length],rfl,rfl,rfl⟩) ?_
 rintro k G M I ⟨m,hm,rfl,ht,rfl,rfl,rfl⟩
 repeat' (first|refine jY ?_|refine bG rfl (fun h=>?_) (fun h=>?_)|refine bI rfl rfl (fun h=>?_) (fun h=>?_)|fail)
 ·obtain ⟨b,o,rfl⟩:=(hq (by omega)).cases
  refine aC rfl (fun _=>yM (k - 1) rfl rfl (by omega) (by omega)) rfl rfl ?_
  repeat refine jY ?_
  have h1:=h
  refine aK (k - 1) _ _ _ (by first|omega|(simp only [List.length_append,List.length_cons,List.length_nil];omega)) aT aJ aI (⟨k - 1,by omega,rfl,?_,rfl,rfl,rfl⟩)
  rw [←ht]
  obtain ⟨j,rfl⟩:∃j,k=j+1:=⟨k - 1,by omega⟩
  have hj:j < l.length:=by omega
  have e0:gt l (j:Int)=0:=by
   have e:((j+1:Nat):Int) - 1=j:=by omega
   rw [e] at h1
   exact h1
  rw [aP hj] at e0
  rw [List.take_succ_eq_append_getElem hj,e0,vU]
  rfl
 ·have h1:=h
  have htop:Top (l.take k):=by
   obtain ⟨j,rfl⟩:∃j,k=j+1:=⟨k - 1,by omega⟩
   have hj:j < l.length:=by omega
   rw [List.take_succ_eq_append_getElem hj,Top.snoc,←aP hj]
   have e:((j+1:Nat):Int) - 1=j:=by omega
   rw [e] at h1
   exact h1
  have e1:dD l=l.take k:=by rw [←ht,aAJ htop]
  refine zO (fun w hw=>hw.takeI (cs:=recs eG (dD l)) (tl:=recs eG (l.drop k)) (by rw [e1,←mM,List.take_append_drop];exact hl)) ?_
  refine bF (by first|exact .inl rfl|exact .inr rfl) rfl rfl _ _ aJ aI (⟨rfl,rfl,by rw [e1];simp;omega⟩)
 ·have h0:k=0:=by omega
  subst h0
  have e1:dD l=[]:=by rw [←ht];rfl
  rw [e1]
  refine rC q ?_
  refine bF (by first|exact .inl rfl|exact .inr rfl) rfl rfl _ _ aJ aI (⟨rfl,rfl,rfl⟩)
def GrP (n:Nat) (M0:List Ent) (I0:List aO) (v:Value) (M:List Ent) (I:List aO):Prop:=M0=M∧∃q c,v= .slice q (gr n).length c∧((gr n).length≤c∧(Ok q∨((gr n).length=0∧c=0)))∧I=aN q (recs eG (gr n))::I0
theorem aKQ {p q:Option Addr} {m n cp cq:Nat} (hm:(gr m).length≤100000000000) (hn:(gr n).length≤100000000000) (hp:aN p (recs eG (gr m))∈I0) (hq:aN q (recs eG (gr n))∈I0):
  CD Try.prog 82 [.slice p (gr m).length cp, .slice q (gr n).length cq] X w0 M0 I0 (GrP (m+n) M0 I0):=by
 have da:=dF m
 have db:=dF n
 have va:=dR m
 have vb:=dR n
 generalize ha:gr m=a at*
 generalize hb:gr n=b at*
 obtain ⟨N,hN⟩:∃N:Nat,N=max a.length b.length+1:=⟨_,rfl⟩
 refine aX Try.func82 rfl Try.ntmps82 rfl ?_
 repeat refine jY ?_
 (refine iW (N) rfl rfl (by omega) (by omega) (by omega) (by omega) (lT _ _) rfl rfl ?_;intro bo;refine ⟨okJ,?_⟩)
 repeat refine jY ?_
 refine aU [0,1,5,17] rfl (fun k G M I=>∃(i:Nat) (o:List Int) (cr:Int),i≤N∧k=N - i∧o.length=N∧Dig (o.take i)∧(0≤cr∧cr≤1)∧val (o.take i)+1000000000 ^ i*cr=val (a.take i)+val (b.take i)∧G=[(6, .int .u32 cr),(18, .int .i64 i)]∧M= .blk bo (recs eG o) 113::M0∧I0=I) (N) _ _ _ aT aJ aI (⟨0,_,0,by omega,by omega,by simp,by simp [Dig],by omega,by simp [val],rfl,rfl,rfl⟩) ?_
 rintro k G M I ⟨i,o,cr,hi,rfl,ho,hd,hcr,hv,rfl,rfl,rfl⟩
 repeat' (first|refine jY ?_|refine bG rfl (fun h=>?_) (fun h=>?_)|refine bI rfl rfl (fun h=>?_) (fun h=>?_)|fail)
 ·refine iM rfl (aEB (i:=i) rfl (by omega) hp) ?_
  have d1:=da.gt i
  have d2:=db.gt i
  repeat refine jY ?_
  refine iM rfl (aEB (i:=i) rfl (by omega) hq) ?_
  repeat' (first|refine jY ?_|refine bG rfl (fun h=>?_) (fun h=>?_)|refine bI rfl rfl (fun h=>?_) (fun h=>?_)|fail)
  ·refine aK (N - (i+1)) _ _ _ (by first|omega|(simp only [List.length_append,List.length_cons,List.length_nil];omega)) aT aJ aI (⟨i+1,_,1,by omega,rfl,by rw [aY];exact ho,?_,by omega,?_,rfl,rfl,rfl⟩)
   ·rw [qQ,dV _ _ _ (by omega)];exact hd.snoc (by omega)
   ·exact aAG hv (by omega) (s:=gt a i+gt b i+cr) rfl (by omega)
  ·refine aK (N - (i+1)) _ _ _ (by first|omega|(simp only [List.length_append,List.length_cons,List.length_nil];omega)) aT aJ aI (⟨i+1,_,0,by omega,rfl,by rw [aY];exact ho,?_,by omega,?_,rfl,rfl,rfl⟩)
   ·rw [qQ,dV _ _ _ (by omega)];exact hd.snoc (by omega)
   ·exact aAG hv (by omega) (s:=gt a i+gt b i+cr) rfl (by omega)
 ·have hiN:i=N:=by omega
  subst hiN
  rw [List.take_of_length_le (show o.length≤i by omega)] at hv hd
  rw [List.take_of_length_le (show a.length≤i by omega),List.take_of_length_le (show b.length≤i by omega),va,vb] at hv
  have hcr0:cr=0:=by
   have h1:=jZ da
   have h2:=jZ db
   have h3:=kQ (show a.length≤i - 1 by omega)
   have h4:=kQ (show b.length≤i - 1 by omega)
   have h5:(1000000000:Int) ^ i=1000000000 ^ (i - 1)*1000000000:=by
    rw [←Int.pow_succ];congr 1;omega
   have h6:=iB (i - 1)
   have h7:=aV hd
   by_cases c:cr=0
   ·exact c
   ·have:cr=1:=by omega
    subst this
    omega
  subst hcr0
  have hg:dD o=gr (m+n):=mG hd (by omega)
  refine aF uJ ?_
  (refine dS rfl (oI (l:=o) (c:=i) ho.symm (by omega) (by omega) aH) ?_;rintro _ _ _ ⟨rfl,rfl,rfl⟩;refine cK ?_)
  repeat refine jY ?_
  rw [hg]
  refine bF (by first|exact .inl rfl|exact .inr rfl) rfl rfl _ _ aJ aI (⟨rfl,_,_,rfl,⟨by rw [←hg];have:=pI o;obtain ⟨k,h1,h2,_⟩:=this;rw [h2];simp;omega, .inl (Ok.mk _ _)⟩,rfl⟩)
end
section
variable {X:List Nat} {w0:World} {M0:List Ent} {I0:List aO}
theorem uV {o:List Int}:(dD o).length≤o.length:=by
 obtain ⟨k,h1,h2,_⟩:=pI o
 rw [h2];simp;omega
theorem aJF {p q:Option Addr} {m n cp cq:Nat} (hm:(gr m).length≤100000000000) (hle:n≤m) (hp:aN p (recs eG (gr m))∈I0) (hq:aN q (recs eG (gr n))∈I0):
  CD Try.prog 83 [.slice p (gr m).length cp, .slice q (gr n).length cq] X w0 M0 I0 (GrP (m - n) M0 I0):=by
 have da:=dF m
 have db:=dF n
 have va:=dR m
 have vb:=dR n
 have hln:=jF hle
 generalize ha:gr m=a at*
 generalize hb:gr n=b at*
 refine aX Try.func83 rfl Try.ntmps83 rfl ?_
 repeat refine jY ?_
 (refine iW (a.length) rfl rfl (by omega) (by omega) (by omega) (by omega) (lT _ _) rfl rfl ?_;intro bo;refine ⟨okJ,?_⟩)
 repeat refine jY ?_
 refine aU [0,1,5,13] rfl (fun k G M I=>∃(i:Nat) (o:List Int) (cr:Int),i≤a.length∧k=a.length - i∧o.length=a.length∧Dig (o.take i)∧(0≤cr∧cr≤1)∧val (o.take i) - 1000000000 ^ i*cr=val (a.take i) - val (b.take i)∧G=[(6, .int .u32 cr),(14, .int .i64 i)]∧M= .blk bo (recs eG o) 113::M0∧I0=I) (a.length) _ _ _ aT aJ aI (⟨0,_,0,by omega,by omega,by simp,by simp [Dig],by omega,by simp [val],rfl,rfl,rfl⟩) ?_
 rintro k G M I ⟨i,o,cr,hi,rfl,ho,hd,hcr,hv,rfl,rfl,rfl⟩
 repeat' (first|refine jY ?_|refine bG rfl (fun h=>?_) (fun h=>?_)|refine bI rfl rfl (fun h=>?_) (fun h=>?_)|fail)
 ·refine iM rfl (aEB (i:=i) rfl (by omega) hq) ?_
  have d1:=da.gt i
  have d2:=db.gt i
  repeat' (first|refine jY ?_|refine bG rfl (fun h=>?_) (fun h=>?_)|refine bI rfl rfl (fun h=>?_) (fun h=>?_)|fail)
  ·refine aK (a.length - (i+1)) _ _ _ (by first|omega|(simp only [List.length_append,List.length_cons,List.length_nil];omega)) aT aJ aI (⟨i+1,_,1,by omega,rfl,by rw [aY];exact ho,?_,by omega,?_,rfl,rfl,rfl⟩)
   ·rw [qQ,dV _ _ _ (by omega)];exact hd.snoc (by omega)
   ·exact aAP hv (by omega) (show gt a i+1000000000 - (gt b i+cr) - 1000000000*1=gt a i - gt b i - cr by omega)
  ·refine aK (a.length - (i+1)) _ _ _ (by first|omega|(simp only [List.length_append,List.length_cons,List.length_nil];omega)) aT aJ aI (⟨i+1,_,0,by omega,rfl,by rw [aY];exact ho,?_,by omega,?_,rfl,rfl,rfl⟩)
   ·rw [qQ,dV _ _ _ (by omega)];exact hd.snoc (by omega)
   ·exact aAP hv (by omega) (show gt a i - (gt b i+cr) - 1000000000*0=gt a i - gt b i - cr by omega)
 ·have hiN:i=a.length:=by omega
  subst hiN
  rw [List.take_of_length_le (show o.length≤a.length by omega)] at hv hd
  rw [List.take_length,List.take_of_length_le hln,va,vb] at hv
  have hcr0:cr=0:=by
   have h1:=jZ hd
   have h7:=aV hd
   rw [ho] at h1
   by_cases c:cr=0
   ·exact c
   ·have:cr=1:=by omega
    subst this
    omega
  subst hcr0
  have hg:dD o=gr (m - n):=mG hd (by omega)
  refine aF uJ ?_
  (refine dS rfl (oI (l:=o) (c:=a.length) ho.symm (by omega) (by omega) aH) ?_;rintro _ _ _ ⟨rfl,rfl,rfl⟩;refine cK ?_)
  repeat refine jY ?_
  have hle2:=uV (o:=o)
  rw [hg] at hle2 ⊢
  refine bF (by first|exact .inl rfl|exact .inr rfl) rfl rfl _ _ aJ aI (⟨rfl,_,_,rfl,⟨by omega, .inl (Ok.mk _ _)⟩,rfl⟩)
theorem mZ {n:Nat} (hn:n≤18446744073709551615):CD Try.prog 71 [.int .u64 n] X w0 M0 I0 (GrP n M0 I0):=by
 refine aX Try.func71 rfl Try.ntmps71 rfl ?_
 repeat refine jY ?_
 refine pG 113 1 ?_
 refine aU [] rfl (fun k G M I=>∃(m:Nat) (a:Option Addr) (c':Nat) (xs:List Int),m≤n∧k=m∧(0 < m→xs.length≤2 - (gr m).length+1)∧xs++gr m=gr n∧xs.length≤3∧G=[(0, .int .u64 m),(3, .slice a xs.length c')]∧M= .row a xs.length c' (recs eG xs) 113 1::M0∧I0=I) (n) _ _ _ aT aJ aI (⟨n,none,0,[],by omega,rfl,by simp,by simp,by simp,rfl,rfl,rfl⟩) ?_
 rintro k G M I ⟨m,a,c',xs,hm,rfl,_,hxs,hx3,rfl,rfl,rfl⟩
 have h3:(gr n).length≤3:=pF (by omega)
 have h4:xs.length+(gr k).length≤3:=by rw [←hxs] at h3;simpa using h3
 repeat' (first|refine jY ?_|refine bG rfl (fun h=>?_) (fun h=>?_)|refine bI rfl rfl (fun h=>?_) (fun h=>?_)|fail)
 ·have hk:k≠0:=by omega
  have e1:((k:Int)).tmod 1000000000=((k % 1000000000:Nat):Int):=by rw [Int.tmod_eq_emod_of_nonneg (by omega)];omega
  have e2:((k:Int)).tdiv 1000000000=((k / 1000000000:Nat):Int):=by rw [Int.tdiv_eq_ediv_of_nonneg (by omega)];omega
  rw [e1]
  have hgk:=qI hk
  have h5:(gr k).length=(gr (k / 1000000000)).length+1:=by rw [hgk];simp
  repeat refine jY ?_
  refine uU (cs:=recs eG [((k % 1000000000:Nat):Int)]) ([.int .u32 ((k % 1000000000:Nat):Int)]) rfl (fun b2=>?_)
  (refine uS (ys:=[((k % 1000000000:Nat):Int)]) 1 rfl rfl rfl ?_ (by decide) rfl (by omega) (by omega) rfl rfl ?_;(· first|exact Src.blk aH|exact Src.row aH|exact Src.imm aH (by first|assumption|exact .inl (Ok.mk _ _)));intro a2 c2;refine cK ?_)
  repeat refine jY ?_
  rw [e2]
  refine aK (k / 1000000000) _ _ _ (by first|omega|(simp only [List.length_append,List.length_cons,List.length_nil];omega)) aT aJ aI (⟨k / 1000000000,a2,c2,_,by omega,rfl,by intro _;simp;omega,by rw [List.append_assoc];rw [hgk] at hxs;exact hxs,by simp;omega,rfl,rfl,rfl⟩)
 ·have h0:k=0:=by omega
  subst h0
  rw [eF,List.append_nil] at hxs
  subst hxs
  refine aLT (fun w hw=>And.intro (hw.rowLe (List.Mem.head _)) ((hw.rowS (List.Mem.head _)).2.imp id And.right)) (fun hc=>?_)
  refine mE uJ ?_
  refine bF (by first|exact .inl rfl|exact .inr rfl) rfl rfl _ _ aJ aI (⟨rfl,_,_,rfl,hc,rfl⟩)
end
end Go.Proofs.Ytejbgkajdomgcaa
namespace Go.Proofs.Ytejbgkajdomgcaa
open Go Go.Fx
theorem jC (l:List Int) (i j:Nat) (x:Int):st l ((i:Int)+(j:Int)) x=l.set (i+j) x:=by
 unfold st
 congr 1
theorem vD (l:List Int) (i j:Nat):gt l ((i:Int)+(j:Int))=l.getD (i+j) 0:=gtD l (i+j)
theorem rY {l:List Int} {i j:Nat} (x:Int) (h:i≠j):(l.set i x).getD j 0=l.getD j 0:=by
 simp [List.getD,List.getElem?_set_ne h]
section
variable {X:List Nat} {w0:World} {M0:List Ent} {I0:List aO}
end
end Go.Proofs.Ytejbgkajdomgcaa
namespace Go.Fx
def xE (P:Program) (tmps:Array Value) (w:World):List ResultVar→List Value→Prop
 |[],[]=>True
 | .tmp t::r,v::vs=>tmps.getD t undef=v∧xE P tmps w r vs
 | .cell a t::r,v::vs=>(do loadVar t (←asAddr (tmps.getD a undef)):Sem Value).run P w= .ok v w∧xE P tmps w r vs
 |_,_=>False
theorem rH (P:Program) (tmps:Array Value) (w:World):∀(rs:List ResultVar) (vs:List Value),xE P tmps w rs vs→(rs.toArray.mapM fun
  |ResultVar.tmp t=>(pure (tmps.getD t undef):Sem Value)
  |ResultVar.cell a t=>do loadVar t (←asAddr (tmps.getD a undef))).run P w=Result.ok vs.toArray w:=by
 intro rs vs h
 rw [List.mapM_toArray]
 simp only [Sem.run_map]
 have:∀(l:List ResultVar) (vs:List Value),xE P tmps w l vs→(List.mapM (m:=Sem) (fun
  |ResultVar.tmp t=>(pure (tmps.getD t undef):Sem Value)
  |ResultVar.cell a t=>do loadVar t (←asAddr (tmps.getD a undef))) l).run P w=Result.ok vs w:=by
  intro l
  induction l with
  |nil=>intro vs h;cases vs with
   |nil=>rfl
   |cons v vs=>exact h.elim
  |cons r l ih=>
   intro vs h
   cases vs with
   |nil=>cases r <;>exact h.elim
   |cons v vs=>
    cases r with
    |tmp t=>
     obtain ⟨h1,h2⟩:=h
     simp only [List.mapM_cons,Sem.run_bind,Sem.run_pure,Result.andThen_ok,ih vs h2,h1]
    |cell a t=>
     obtain ⟨h1,h2⟩:=h
     simp only [List.mapM_cons,Sem.run_bind] at h1 ⊢
     rw [h1]
     simp only [Result.andThen_ok,Sem.run_bind,ih vs h2,Sem.run_pure]
 rw [this rs vs h]
 rfl
theorem xR {P:Program} {a:Tmp} {t:TypeId} {tmps:Array Value} {w:World} {b:Nat} {v:Value} {e:TypeId} [ht:ScalarTy P t] (hb:tmps.getD a undef= .pointer (some ⟨b,0,none⟩)) (hB:Blk w b [v] e):
  (do loadVar t (←asAddr (tmps.getD a undef)):Sem Value).run P w= .ok v w:=by
 have hc:=hB.cell (o:=0) rfl
 have hb':tmps[a]?.getD undef= .pointer (some ⟨b,0,none⟩):=by simpa using hb
 simp [hb',asAddr,loadVar,gL,hc]
theorem aFA {P:Program} {a:Tmp} {t:TypeId} {sz:Nat} {tmps:Array Value} {w:World} {b:Nat} {cs:List Value} {e:TypeId} [ht:AggTy P t sz] (hb:tmps.getD a undef= .pointer (some ⟨b,0,none⟩)) (hB:Blk w b cs e) (hl:cs.length=sz):
  (do loadVar t (←asAddr (tmps.getD a undef)):Sem Value).run P w= .ok (.agg cs.toArray) w:=by
 have:=run_loadCellsFrom (P:=P) cs (hB.row0) sz 0 #[] (by omega) rfl
 have hb':tmps[a]?.getD undef= .pointer (some ⟨b,0,none⟩):=by simpa using hb
 simp [hb',asAddr,loadVar,iZ,run_sizeOf ht.size,loadCells,this]
section
variable {P:Program} {n:Nat} {G:Env} {X:List Nat} {w0:World} {M M':List Ent} {I I':List aO}
inductive RsD (P:Program) (G:Env) (M:List Ent):List ResultVar→List Value→Prop
 |nil:RsD P G M [] []
 |tmp {t:Nat} {v:Value} {r:List ResultVar} {vs:List Value} (h:lk G t=some v) (k:RsD P G M r vs):RsD P G M (.tmp t::r) (v::vs)
 |cell {a:Nat} {t:TypeId} {b:Nat} {v:Value} {e:TypeId} {r:List ResultVar} {vs:List Value} (ht:ScalarTy P t) (h:lk G a=some (.pointer (some ⟨b,0,none⟩))) (hm: .blk b [v] e∈M) (k:RsD P G M r vs):RsD P G M (.cell a t::r) (v::vs)
 |cellN {a:Nat} {t:TypeId} {sz b:Nat} {cs:List Value} {e:TypeId} {r:List ResultVar} {vs:List Value} (ht:AggTy P t sz) (h:lk G a=some (.pointer (some ⟨b,0,none⟩))) (hm: .blk b cs e∈M) (hl:cs.length=sz) (k:RsD P G M r vs):RsD P G M (.cell a t::r) (.agg cs.toArray::vs)
theorem RsD.ok {a:Act} {w:World} (ha:Has n G a) (hw:Mem X w0 M I w) {rs:List ResultVar} {vs:List Value} (h:RsD P G M rs vs):xE P a.tmps w rs vs:=by
 induction h with
 |nil=>trivial
 |tmp h _ ih=>exact ⟨by simp [ha.get _ _ h],ih⟩
 |cell ht h hm _ ih=>exact ⟨xR (by simp [ha.get _ _ h]) (hw.blk hm),ih⟩
 |cellN ht h hm hl _ ih=>exact ⟨aFA (by simp [ha.get _ _ h]) (hw.blk hm) hl,ih⟩
theorem eD {fn:Func} {K:Value→List Ent→List aO→Prop} {rs:List ResultVar} {vs:List Value} {ex:Exit} (he:ex= .ret∨ex= .normal) (hr:fn.results=rs.toArray) (hv:RsD P G M rs vs) (hl:Nat.beq vs.length 1=false) (M':List Ent) (I':List aO) (hM:SubP M M') (hI:Inc I I') (h:K (.tuple vs.toArray) M' I'):
  ND n (Body P fn (KB K X w0)) ex G X w0 M I:=⟨fun w hw=>⟨fun a ha=>by
 unfold Body
 have e1:=rH P a.tmps w rs vs (hv.ok ha hw)
 have e2:(results fn a.tmps).run P w= .ok (.tuple vs.toArray) w:=by
  have hne:¬vs.length=1:=by intro e;simp [e] at hl
  unfold results
  rw [hr,Sem.run_bind]
  refine (congrArg (fun r=>Result.andThen r fun a w'=>Sem.run P (pure (if h:a.size=1 then a[0] else Value.tuple a)) w') e1).trans ?_
  simp [hne]
 rcases he with rfl|rfl <;>exact ⟨ha.defers,_,e2,_,rfl,M',I',h,hw.weak hM hI⟩⟩⟩
theorem aMZ {fn:Func} {K:Value→List Ent→List aO→Prop} {ex:Exit} {a:Tmp} {t:TypeId} {b:Nat} {v:Value} {e:TypeId} [ScalarTy P t] (he:ex= .ret∨ex= .normal) (hr:fn.results=#[.cell a t]) (hv:lk G a=some (.pointer (some ⟨b,0,none⟩))) (hm: .blk b [v] e∈M) (M':List Ent) (I':List aO) (hM:SubP M M') (hI:Inc I I') (h:K v M' I'):
  ND n (Body P fn (KB K X w0)) ex G X w0 M I:=⟨fun w hw=>⟨fun act ha=>by
 unfold Body
 have e1:act.tmps.getD a undef= .pointer (some ⟨b,0,none⟩):=by simp [ha.get a _ hv]
 have e2:=wV (P:=P) (t:=t) hr e1 (hw.blk hm)
 rcases he with rfl|rfl <;>exact ⟨ha.defers,_,e2,_,rfl,M',I',h,hw.weak hM hI⟩⟩⟩
end
end Go.Fx
