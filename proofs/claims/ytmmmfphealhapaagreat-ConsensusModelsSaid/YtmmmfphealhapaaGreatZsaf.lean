/- The symbolic heap, continued: parts of what is read, xor. -/
import Derived.Test.YtmmmfphealhapaaGreatZsae
import Derived.Test.YtmmmfphealhapaaGreatProg
import Derived.Test.YtmmmfphealhapaaGreatZsac
import Derived.KernelRfl
set_option linter.unusedSimpArgs false
set_option linter.unusedVariables false
set_option maxRecDepth 100000
set_option maxHeartbeats 4000000
namespace Go.Fx
section
variable {α:Type} {enc:α→List Value} {sz:Nat}
theorem aBL [h:Sized enc sz]:∀(ms:List α) (l:Nat),recs enc (ms.drop l)=(recs enc ms).drop (l*sz)
 |ms,0=>by simp
 |[],l+1=>by simp [recs]
 |m::r,l+1=>by
  have e:recs enc (m::r)=enc m++recs enc r:=rfl
  have h1:(l+1)*sz=(enc m).length+l*sz:=by rw [h.len,Nat.add_mul];omega
  rw [List.drop_succ_cons,aBL r l,e,h1,List.drop_append,List.drop_of_length_le (show (enc m).length≤(enc m).length+l*sz by omega)]
  simp
theorem aBB [h:Sized enc sz]:∀(ms:List α) (l:Nat),recs enc (ms.take l)=(recs enc ms).take (l*sz)
 |ms,0=>by simp [recs]
 |[],l+1=>by simp [recs]
 |m::r,l+1=>by
  have e:recs enc (m::r)=enc m++recs enc r:=rfl
  have e2:recs enc ((m::r).take (l+1))=enc m++recs enc (r.take l):=rfl
  have h1:(l+1)*sz=(enc m).length+l*sz:=by rw [h.len,Nat.add_mul];omega
  rw [e2,aBB r l,e,h1,List.take_append,List.take_of_length_le (show (enc m).length≤(enc m).length+l*sz by omega)]
  simp
end
section
variable {P:Program} {n:Nat} {Q Q':Exit→Act→World→Prop} {G:Env} {X:List Nat} {w0:World} {M M' M1:List Ent} {I I' I1:List aM}
theorem Mem.cutI {α:Type} {enc:α→List Value} {sz:Nat} [hz:Sized enc sz] {w:World} {a:Option Addr} {ms:List α} (c l m:Nat) (h:Mem X w0 M I w) (hm:aH a (recs enc ms)∈I) (hc:ms.length≤c):Mem X w0 M (aH (wL a c l sz) (recs enc ((ms.take m).drop l))::I) w:=
 h.add (φ:=aH _ _) ⟨by
  rw [aBL,aBB]
  exact (h.sl hm).cut c l (m*sz) sz (by rw [fH];exact Nat.mul_le_mul_right _ hc)⟩
theorem bAJ {α:Type} {enc:α→List Value} {sz:Nat} [hz:Sized enc sz] {ops l:List Oper} {m:Mode} {a:Option Addr} {ms:List α} (c lo hi:Nat) (hm:aH a (recs enc ms)∈I) (hc:ms.length≤c) (h:RD P n ops Q m l G X w0 M (aH (wL a c lo sz) (recs enc ((ms.take hi).drop lo))::I)):RD P n ops Q m l G X w0 M I:=vX (fun _ hw=>hw.cutI c lo hi hm hc) h
theorem pU {C:World→Prop} {ty t e:TypeId} {sz:Nat} {x:Operand} {lo hi:Option Operand} {a:Option Addr} {len c:Nat} (l h k:Nat) [ht:SliceTy P t e sz] (hx:ev G x=some (.slice a len c))
  (hl:(lo=none∧l=0)∨∃y k i,lo=some y∧ev G y=some (.int k i)∧i=(l:Int)) (hh:(hi=none∧h=len)∨∃y k i,hi=some y∧ev G y=some (.int k i)∧i=(h:Int)) (h1:l≤h) (h2:h≤c) (hk:h - l=k):
  Const P n G (.slice t x lo hi none) ty C (.slice (wL a c l sz) k (c - l)):=by
 subst hk
 exact aLE hx (hl.imp id (fun ⟨y,k,i,h1,h2,h3⟩=>⟨y,k,h1,by rw [←h3];exact h2⟩)) (hh.imp id (fun ⟨y,k,i,h1,h2,h3⟩=>⟨y,k,h1,by rw [←h3];exact h2⟩)) h1 h2
theorem aGR {ex:Exit} {a:Option Addr} {mm c:Nat} {cs:List Value} {e:TypeId} {sz:Nat} (h0:a=none→mm=0→cs=[]→ND n Q ex G X w0 (.row a mm c cs e sz::M) I) (h1:∀b tl,a=some ⟨b,0,none⟩→mm≤c→ND n Q ex G X w0 (.blk b (cs++tl) e::M) I):ND n Q ex G X w0 (.row a mm c cs e sz::M) I:=
 ⟨fun w hw=>by
  rcases hw.rowBlk with ⟨e1,e2,e3⟩|⟨b,tl,e1,e2,hm⟩
  ·exact (h0 e1 e2 e3).go w hw
  ·exact (h1 b tl e1 e2).go w hm⟩
theorem bAL {ex:Exit} (e:TypeId) (sz:Nat) (h:ND n Q ex G X w0 (.row none 0 0 [] e sz::M) I):ND n Q ex G X w0 M I:=yK (fun _ hw=>hw.row0 e sz) h
theorem gF {ops l:List Oper} {m:Mode} {b mm:Nat} {cs:List Value} {e:TypeId} (sz:Nat) (hr:Rep (.blk b cs e) (.row (some ⟨b,0,none⟩) mm mm cs e sz) M M') (hl:cs.length=mm*sz) (hm:mm≤9223372036854775807) (h:RD P n ops Q m l G X w0 M' I):RD P n ops Q m l G X w0 M I:=vX (fun _ hw=>hw.toRow sz hr hl hm) h
theorem CD.post {f:FuncId} {vs:List Value} {K K':Value→List Ent→List aM→Prop} (h:CD P f vs X w0 M I K) (hk:∀v M1 I1 w,K v M1 I1→Mem X w0 M1 I1 w→∃M2 I2,K' v M2 I2∧Mem X w0 M2 I2 w):CD P f vs X w0 M I K':=
 ⟨fun w hw=>(h.go w hw).mono (fun _ _ ⟨_,_,h1,h2⟩=>hk _ _ _ _ h1 h2)⟩
theorem CD.pre {f:FuncId} {vs:List Value} {K:Value→List Ent→List aM→Prop} (hM:∀w,Mem X w0 M I w→Mem X w0 M' I' w) (h:CD P f vs X w0 M' I' K):CD P f vs X w0 M I K:=⟨fun w hw=>h.go w (hM w hw)⟩
/- two operations that change the world, in either order -/
theorem gK {C:World→Prop} {ty t t':TypeId} {x y:Operand} {p q:Prop} [Decidable p] [Decidable q] [ht:BoolTy P t] (hx:ev G x=some (.bool (B p))) (hy:ev G y=some (.bool (B q))):
  Const P n G (.binOp .neq t x y t') ty C (.bool (B (¬(p↔q)))):=by
 refine ⟨?_⟩
 intro s ha dst pos after guard w _
 have h:(!(B p==B q))=B (¬(p↔q)):=by
  rw [sZ,sZ,sZ]
  by_cases hp:p <;>by_cases hq:q <;>simp [hp,hq]
 have e1:(eqGuard .neq t x y (.bool (B p)) (.bool (B q))).run P w= .ok () w:=rfl
 simp only [execOp,ha.ev hx,ha.ev hy,Sem.run_bind,e1,Result.andThen_ok,run_neq_bool _ t (B p) (B q) ht.und,Sem.run_pure,h]
theorem Mem.rowLe {w:World} {a:Option Addr} {m c:Nat} {cs:List Value} {e:TypeId} {sz:Nat} (h:Mem X w0 M I w) (hm: .row a m c cs e sz∈M):m≤c:=by
 have ho:w.ownsRow 0 e sz (.slice a m c) m cs:=h.ent _ hm
 obtain ⟨a',c',hv,_,_,hle⟩:=aDX ho
 injection hv with e1 e2 e3
 subst e3
 exact hle
end
end Go.Fx
namespace Go.Proofs.YtmmmfphealhapaaGreat
open Go Go.Fx
instance:IntTy Tryz.prog 2 .i64:=⟨Tryz.underlying2⟩
instance:ScalarTy Tryz.prog 3:=⟨⟨_,Tryz.underlying3,(by intro _ h;cases h),(by intro _ _ h;cases h)⟩,by kernel_rfl⟩
instance:IntTy Tryz.prog 3 .i64:=⟨Tryz.underlying3⟩
instance:ElemTy Tryz.prog 3 1 8 [.int .i64 0]:=⟨by kernel_rfl,rfl⟩
instance:ScalarTy Tryz.prog 4:=⟨⟨_,Tryz.underlying4,(by intro _ h;cases h),(by intro _ _ h;cases h)⟩,by kernel_rfl⟩
instance:BoolTy Tryz.prog 4:=⟨Tryz.underlying4⟩
instance:IntTy Tryz.prog 5 .u8:=⟨Tryz.underlying5⟩
instance:StrTy Tryz.prog 9:=⟨Tryz.underlying9⟩
instance:ScalarTy Tryz.prog 22:=⟨⟨_,Tryz.underlying22,(by intro _ h;cases h),(by intro _ _ h;cases h)⟩,by kernel_rfl⟩
instance:SliceTy Tryz.prog 22 30 4:=⟨Tryz.underlying22,by kernel_rfl⟩
instance:AggTy Tryz.prog 28 2:=⟨.inl ⟨_,Tryz.underlying28⟩,by kernel_rfl⟩
instance:StructTy Tryz.prog 28 [(0,1),(1,1)] [.int .i64 0, .int .i64 0]:=⟨⟨_,Tryz.underlying28,by kernel_rfl⟩,by kernel_rfl⟩
instance:FieldAt Tryz.prog 28 0 0 3 1:=⟨⟨_,_,Tryz.underlying28,rfl,rfl,rfl⟩,by kernel_rfl⟩
instance:FieldAt Tryz.prog 28 1 1 3 1:=⟨⟨_,_,Tryz.underlying28,rfl,rfl,rfl⟩,by kernel_rfl⟩
instance:IntStruct Tryz.prog 28 2:=⟨by kernel_rfl,by kernel_rfl,by kernel_rfl,by kernel_rfl⟩
instance:ElemTy Tryz.prog 28 2 16 [.int .i64 0, .int .i64 0]:=⟨by kernel_rfl,rfl⟩
instance:AggTy Tryz.prog 30 4:=⟨.inl ⟨_,Tryz.underlying30⟩,by kernel_rfl⟩
instance:StructTy Tryz.prog 30 [(0,2),(2,2)] [.int .i64 0, .int .i64 0, .int .i64 0, .int .i64 0]:=⟨⟨_,Tryz.underlying30,by kernel_rfl⟩,by kernel_rfl⟩
instance:FieldAt Tryz.prog 30 0 0 28 2:=⟨⟨_,_,Tryz.underlying30,rfl,rfl,rfl⟩,by kernel_rfl⟩
instance:FieldAt Tryz.prog 30 1 2 28 2:=⟨⟨_,_,Tryz.underlying30,rfl,rfl,rfl⟩,by kernel_rfl⟩
instance:ElemTy Tryz.prog 30 4 32 [.int .i64 0, .int .i64 0, .int .i64 0, .int .i64 0]:=⟨by kernel_rfl,rfl⟩
instance:ScalarTy Tryz.prog 31:=⟨⟨_,Tryz.underlying31,(by intro _ h;cases h),(by intro _ _ h;cases h)⟩,by kernel_rfl⟩
instance:SliceTy Tryz.prog 31 3 1:=⟨Tryz.underlying31,by kernel_rfl⟩
instance:ElemTy Tryz.prog 31 1 24 [.slice none 0 0]:=⟨by kernel_rfl,rfl⟩
instance:ScalarTy Tryz.prog 32:=⟨⟨_,Tryz.underlying32,(by intro _ h;cases h),(by intro _ _ h;cases h)⟩,by kernel_rfl⟩
instance:SliceTy Tryz.prog 33 70 1:=⟨Tryz.underlying33,by kernel_rfl⟩
instance:ScalarTy Tryz.prog 34:=⟨⟨_,Tryz.underlying34,(by intro _ h;cases h),(by intro _ _ h;cases h)⟩,by kernel_rfl⟩
instance:SliceTy Tryz.prog 34 70 1:=⟨Tryz.underlying34,by kernel_rfl⟩
instance:ElemTy Tryz.prog 34 1 24 [.slice none 0 0]:=⟨by kernel_rfl,rfl⟩
instance:AggTy Tryz.prog 36 4:=⟨.inl ⟨_,Tryz.underlying36⟩,by kernel_rfl⟩
instance:StructTy Tryz.prog 36 [(0,1),(1,1),(2,1),(3,1)] [.int .i64 0, .slice none 0 0, .slice none 0 0, .slice none 0 0]:=⟨⟨_,Tryz.underlying36,by kernel_rfl⟩,by kernel_rfl⟩
instance:FieldAt Tryz.prog 36 1 1 31 1:=⟨⟨_,_,Tryz.underlying36,rfl,rfl,rfl⟩,by kernel_rfl⟩
instance:FieldAt Tryz.prog 36 2 2 31 1:=⟨⟨_,_,Tryz.underlying36,rfl,rfl,rfl⟩,by kernel_rfl⟩
instance:FieldAt Tryz.prog 36 3 3 34 1:=⟨⟨_,_,Tryz.underlying36,rfl,rfl,rfl⟩,by kernel_rfl⟩
instance:ElemTy Tryz.prog 36 4 80 [.int .i64 0, .slice none 0 0, .slice none 0 0, .slice none 0 0]:=⟨by kernel_rfl,rfl⟩
instance:AggTy Tryz.prog 39 16:=⟨.inr ⟨_,_,Tryz.underlying39⟩,by kernel_rfl⟩
instance:ArrTy Tryz.prog 39 4 30 4:=⟨Tryz.underlying39,by kernel_rfl⟩
instance:ScalarTy Tryz.prog 40:=⟨⟨_,Tryz.underlying40,(by intro _ h;cases h),(by intro _ _ h;cases h)⟩,by kernel_rfl⟩
instance:SliceTy Tryz.prog 40 121 1:=⟨Tryz.underlying40,by kernel_rfl⟩
instance:AggTy Tryz.prog 42 2:=⟨.inl ⟨_,Tryz.underlying42⟩,by kernel_rfl⟩
instance:StructTy Tryz.prog 42 [(0,1),(1,1)] [.bool false, .slice none 0 0]:=⟨⟨_,Tryz.underlying42,by kernel_rfl⟩,by kernel_rfl⟩
instance:FieldAt Tryz.prog 42 0 0 4 1:=⟨⟨_,_,Tryz.underlying42,rfl,rfl,rfl⟩,by kernel_rfl⟩
instance:FieldAt Tryz.prog 42 1 1 40 1:=⟨⟨_,_,Tryz.underlying42,rfl,rfl,rfl⟩,by kernel_rfl⟩
instance:ElemTy Tryz.prog 42 2 32 [.bool false, .slice none 0 0]:=⟨by kernel_rfl,rfl⟩
instance:AggTy Tryz.prog 44 18:=⟨.inr ⟨_,_,Tryz.underlying44⟩,by kernel_rfl⟩
instance:ArrTy Tryz.prog 44 9 42 2:=⟨Tryz.underlying44,by kernel_rfl⟩
instance:ElemTy Tryz.prog 44 18 288 [.bool false, .slice none 0 0, .bool false, .slice none 0 0, .bool false, .slice none 0 0, .bool false, .slice none 0 0, .bool false, .slice none 0 0, .bool false, .slice none 0 0, .bool false, .slice none 0 0, .bool false, .slice none 0 0, .bool false, .slice none 0 0]:=⟨by kernel_rfl,rfl⟩
instance:ScalarTy Tryz.prog 70:=⟨⟨_,Tryz.underlying70,(by intro _ h;cases h),(by intro _ _ h;cases h)⟩,by kernel_rfl⟩
instance:SliceTy Tryz.prog 70 77 4:=⟨Tryz.underlying70,by kernel_rfl⟩
instance:ElemTy Tryz.prog 70 1 24 [.slice none 0 0]:=⟨by kernel_rfl,rfl⟩
instance:AggTy Tryz.prog 77 4:=⟨.inl ⟨_,Tryz.underlying77⟩,by kernel_rfl⟩
instance:StructTy Tryz.prog 77 [(0,2),(2,2)] [.bool false, .slice none 0 0, .bool false, .slice none 0 0]:=⟨⟨_,Tryz.underlying77,by kernel_rfl⟩,by kernel_rfl⟩
instance:FieldAt Tryz.prog 77 0 0 42 2:=⟨⟨_,_,Tryz.underlying77,rfl,rfl,rfl⟩,by kernel_rfl⟩
instance:FieldAt Tryz.prog 77 1 2 42 2:=⟨⟨_,_,Tryz.underlying77,rfl,rfl,rfl⟩,by kernel_rfl⟩
instance:ElemTy Tryz.prog 77 4 64 [.bool false, .slice none 0 0, .bool false, .slice none 0 0]:=⟨by kernel_rfl,rfl⟩
instance:ScalarTy Tryz.prog 98:=⟨⟨_,Tryz.underlying98,(by intro _ h;cases h),(by intro _ _ h;cases h)⟩,by kernel_rfl⟩
instance:AggTy Tryz.prog 100 6:=⟨.inr ⟨_,_,Tryz.underlying100⟩,by kernel_rfl⟩
instance:ArrTy Tryz.prog 100 3 42 2:=⟨Tryz.underlying100,by kernel_rfl⟩
instance:ElemTy Tryz.prog 100 6 96 [.bool false, .slice none 0 0, .bool false, .slice none 0 0, .bool false, .slice none 0 0]:=⟨by kernel_rfl,rfl⟩
instance:AggTy Tryz.prog 101 24:=⟨.inr ⟨_,_,Tryz.underlying101⟩,by kernel_rfl⟩
instance:ArrTy Tryz.prog 101 4 100 6:=⟨Tryz.underlying101,by kernel_rfl⟩
instance:ElemTy Tryz.prog 101 24 384 [.bool false, .slice none 0 0, .bool false, .slice none 0 0, .bool false, .slice none 0 0, .bool false, .slice none 0 0, .bool false, .slice none 0 0, .bool false, .slice none 0 0, .bool false, .slice none 0 0, .bool false, .slice none 0 0, .bool false, .slice none 0 0, .bool false, .slice none 0 0, .bool false, .slice none 0 0, .bool false, .slice none 0 0]:=⟨by kernel_rfl,rfl⟩
instance:ScalarTy Tryz.prog 121:=⟨⟨_,Tryz.underlying121,(by intro _ h;cases h),(by intro _ _ h;cases h)⟩,by kernel_rfl⟩
instance:IntTy Tryz.prog 121 .u32:=⟨Tryz.underlying121⟩
instance:ElemTy Tryz.prog 121 1 4 [.int .u32 0]:=⟨by kernel_rfl,rfl⟩
instance:ScalarTy Tryz.prog 156:=⟨⟨_,Tryz.underlying156,(by intro _ h;cases h),(by intro _ _ h;cases h)⟩,by kernel_rfl⟩
instance:ElemTy Tryz.prog 156 1 8 [.nilFunc]:=⟨by kernel_rfl,rfl⟩
instance:SliceTy Tryz.prog 159 42 2:=⟨Tryz.underlying159,by kernel_rfl⟩
instance:AggTy Tryz.prog 163 8:=⟨.inr ⟨_,_,Tryz.underlying163⟩,by kernel_rfl⟩
instance:ArrTy Tryz.prog 163 4 42 2:=⟨Tryz.underlying163,by kernel_rfl⟩
instance:ElemTy Tryz.prog 163 8 128 [.bool false, .slice none 0 0, .bool false, .slice none 0 0, .bool false, .slice none 0 0, .bool false, .slice none 0 0]:=⟨by kernel_rfl,rfl⟩
instance:ArrTy Tryz.prog 164 3 100 6:=⟨Tryz.underlying164,by kernel_rfl⟩
instance:ElemTy Tryz.prog 164 18 288 [.bool false, .slice none 0 0, .bool false, .slice none 0 0, .bool false, .slice none 0 0, .bool false, .slice none 0 0, .bool false, .slice none 0 0, .bool false, .slice none 0 0, .bool false, .slice none 0 0, .bool false, .slice none 0 0, .bool false, .slice none 0 0]:=⟨by kernel_rfl,rfl⟩
instance:ScalarTy Tryz.prog 176:=⟨⟨_,Tryz.underlying176,(by intro _ h;cases h),(by intro _ _ h;cases h)⟩,by kernel_rfl⟩
instance:IntTy Tryz.prog 176 .u64:=⟨Tryz.underlying176⟩
instance:AggTy Tryz.prog 192 8:=⟨.inr ⟨_,_,Tryz.underlying192⟩,by kernel_rfl⟩
instance:ArrTy Tryz.prog 192 4 28 2:=⟨Tryz.underlying192,by kernel_rfl⟩
instance:ElemTy Tryz.prog 192 8 64 [.int .i64 0, .int .i64 0, .int .i64 0, .int .i64 0, .int .i64 0, .int .i64 0, .int .i64 0, .int .i64 0]:=⟨by kernel_rfl,rfl⟩
instance:SliceTy Tryz.prog 193 31 1:=⟨Tryz.underlying193,by kernel_rfl⟩
instance:AggTy Tryz.prog 196 2:=⟨.inr ⟨_,_,Tryz.underlying196⟩,by kernel_rfl⟩
instance:ArrTy Tryz.prog 196 2 31 1:=⟨Tryz.underlying196,by kernel_rfl⟩
instance:ElemTy Tryz.prog 196 2 48 [.slice none 0 0, .slice none 0 0]:=⟨by kernel_rfl,rfl⟩
instance:AggTy Tryz.prog 197 2:=⟨.inr ⟨_,_,Tryz.underlying197⟩,by kernel_rfl⟩
instance:ArrTy Tryz.prog 197 2 3 1:=⟨Tryz.underlying197,by kernel_rfl⟩
instance:ElemTy Tryz.prog 197 2 16 [.int .i64 0, .int .i64 0]:=⟨by kernel_rfl,rfl⟩
instance:ArrTy Tryz.prog 261 3 77 4:=⟨Tryz.underlying261,by kernel_rfl⟩
instance:ElemTy Tryz.prog 261 12 192 [.bool false, .slice none 0 0, .bool false, .slice none 0 0, .bool false, .slice none 0 0, .bool false, .slice none 0 0, .bool false, .slice none 0 0, .bool false, .slice none 0 0]:=⟨by kernel_rfl,rfl⟩
instance:IntTy Tryz.prog 271 .u64:=⟨Tryz.underlying271⟩
instance:SliceTy Tryz.prog 273 28 2:=⟨Tryz.underlying273,by kernel_rfl⟩
instance:FnOk Tryz.prog 4:=⟨_,Tryz.func4,by kernel_rfl,by kernel_rfl⟩
instance:FnOk Tryz.prog 8:=⟨_,Tryz.func8,by kernel_rfl,by kernel_rfl⟩
instance:FnOk Tryz.prog 9:=⟨_,Tryz.func9,by kernel_rfl,by kernel_rfl⟩
instance:FnOk Tryz.prog 10:=⟨_,Tryz.func10,by kernel_rfl,by kernel_rfl⟩
instance:FnOk Tryz.prog 14:=⟨_,Tryz.func14,by kernel_rfl,by kernel_rfl⟩
instance:FnOk Tryz.prog 15:=⟨_,Tryz.func15,by kernel_rfl,by kernel_rfl⟩
instance:FnOk Tryz.prog 16:=⟨_,Tryz.func16,by kernel_rfl,by kernel_rfl⟩
instance:FnOk Tryz.prog 17:=⟨_,Tryz.func17,by kernel_rfl,by kernel_rfl⟩
instance:FnOk Tryz.prog 18:=⟨_,Tryz.func18,by kernel_rfl,by kernel_rfl⟩
instance:FnOk Tryz.prog 19:=⟨_,Tryz.func19,by kernel_rfl,by kernel_rfl⟩
instance:FnOk Tryz.prog 20:=⟨_,Tryz.func20,by kernel_rfl,by kernel_rfl⟩
instance:FnOk Tryz.prog 21:=⟨_,Tryz.func21,by kernel_rfl,by kernel_rfl⟩
instance:FnOk Tryz.prog 22:=⟨_,Tryz.func22,by kernel_rfl,by kernel_rfl⟩
instance:FnOk Tryz.prog 23:=⟨_,Tryz.func23,by kernel_rfl,by kernel_rfl⟩
instance:FnOk Tryz.prog 24:=⟨_,Tryz.func24,by kernel_rfl,by kernel_rfl⟩
instance:FnOk Tryz.prog 29:=⟨_,Tryz.func29,by kernel_rfl,by kernel_rfl⟩
instance:FnOk Tryz.prog 33:=⟨_,Tryz.func33,by kernel_rfl,by kernel_rfl⟩
instance:FnOk Tryz.prog 34:=⟨_,Tryz.func34,by kernel_rfl,by kernel_rfl⟩
instance:FnOk Tryz.prog 37:=⟨_,Tryz.func37,by kernel_rfl,by kernel_rfl⟩
instance:FnOk Tryz.prog 38:=⟨_,Tryz.func38,by kernel_rfl,by kernel_rfl⟩
instance:FnOk Tryz.prog 39:=⟨_,Tryz.func39,by kernel_rfl,by kernel_rfl⟩
instance:FnOk Tryz.prog 40:=⟨_,Tryz.func40,by kernel_rfl,by kernel_rfl⟩
instance:FnOk Tryz.prog 41:=⟨_,Tryz.func41,by kernel_rfl,by kernel_rfl⟩
instance:FnOk Tryz.prog 42:=⟨_,Tryz.func42,by kernel_rfl,by kernel_rfl⟩
instance:FnOk Tryz.prog 43:=⟨_,Tryz.func43,by kernel_rfl,by kernel_rfl⟩
instance:FnOk Tryz.prog 44:=⟨_,Tryz.func44,by kernel_rfl,by kernel_rfl⟩
instance:FnOk Tryz.prog 45:=⟨_,Tryz.func45,by kernel_rfl,by kernel_rfl⟩
instance:FnOk Tryz.prog 46:=⟨_,Tryz.func46,by kernel_rfl,by kernel_rfl⟩
instance:FnOk Tryz.prog 47:=⟨_,Tryz.func47,by kernel_rfl,by kernel_rfl⟩
instance:FnOk Tryz.prog 48:=⟨_,Tryz.func48,by kernel_rfl,by kernel_rfl⟩
instance:FnOk Tryz.prog 49:=⟨_,Tryz.func49,by kernel_rfl,by kernel_rfl⟩
instance:FnOk Tryz.prog 50:=⟨_,Tryz.func50,by kernel_rfl,by kernel_rfl⟩
instance:FnOk Tryz.prog 51:=⟨_,Tryz.func51,by kernel_rfl,by kernel_rfl⟩
instance:FnOk Tryz.prog 52:=⟨_,Tryz.func52,by kernel_rfl,by kernel_rfl⟩
instance:FnOk Tryz.prog 53:=⟨_,Tryz.func53,by kernel_rfl,by kernel_rfl⟩
instance:FnOk Tryz.prog 54:=⟨_,Tryz.func54,by kernel_rfl,by kernel_rfl⟩
instance:FnOk Tryz.prog 56:=⟨_,Tryz.func56,by kernel_rfl,by kernel_rfl⟩
instance:FnOk Tryz.prog 57:=⟨_,Tryz.func57,by kernel_rfl,by kernel_rfl⟩
instance:FnOk Tryz.prog 58:=⟨_,Tryz.func58,by kernel_rfl,by kernel_rfl⟩
instance:FnOk Tryz.prog 59:=⟨_,Tryz.func59,by kernel_rfl,by kernel_rfl⟩
instance:FnOk Tryz.prog 60:=⟨_,Tryz.func60,by kernel_rfl,by kernel_rfl⟩
instance:FnOk Tryz.prog 61:=⟨_,Tryz.func61,by kernel_rfl,by kernel_rfl⟩
instance:FnOk Tryz.prog 62:=⟨_,Tryz.func62,by kernel_rfl,by kernel_rfl⟩
instance:FnOk Tryz.prog 63:=⟨_,Tryz.func63,by kernel_rfl,by kernel_rfl⟩
instance:FnOk Tryz.prog 65:=⟨_,Tryz.func65,by kernel_rfl,by kernel_rfl⟩
instance:FnOk Tryz.prog 66:=⟨_,Tryz.func66,by kernel_rfl,by kernel_rfl⟩
instance:FnOk Tryz.prog 67:=⟨_,Tryz.func67,by kernel_rfl,by kernel_rfl⟩
instance:FnOk Tryz.prog 68:=⟨_,Tryz.func68,by kernel_rfl,by kernel_rfl⟩
instance:FnOk Tryz.prog 69:=⟨_,Tryz.func69,by kernel_rfl,by kernel_rfl⟩
instance:FnOk Tryz.prog 70:=⟨_,Tryz.func70,by kernel_rfl,by kernel_rfl⟩
instance:FnOk Tryz.prog 71:=⟨_,Tryz.func71,by kernel_rfl,by kernel_rfl⟩
instance:FnOk Tryz.prog 72:=⟨_,Tryz.func72,by kernel_rfl,by kernel_rfl⟩
instance:FnOk Tryz.prog 73:=⟨_,Tryz.func73,by kernel_rfl,by kernel_rfl⟩
instance:FnOk Tryz.prog 74:=⟨_,Tryz.func74,by kernel_rfl,by kernel_rfl⟩
instance:FnOk Tryz.prog 75:=⟨_,Tryz.func75,by kernel_rfl,by kernel_rfl⟩
instance:FnOk Tryz.prog 76:=⟨_,Tryz.func76,by kernel_rfl,by kernel_rfl⟩
instance:FnOk Tryz.prog 86:=⟨_,Tryz.func86,by kernel_rfl,by kernel_rfl⟩
instance:FnOk Tryz.prog 89:=⟨_,Tryz.func89,by kernel_rfl,by kernel_rfl⟩
instance:FnOk Tryz.prog 92:=⟨_,Tryz.func92,by kernel_rfl,by kernel_rfl⟩
instance:FnOk Tryz.prog 93:=⟨_,Tryz.func93,by kernel_rfl,by kernel_rfl⟩
instance:FnOk Tryz.prog 94:=⟨_,Tryz.func94,by kernel_rfl,by kernel_rfl⟩
instance:FnOk Tryz.prog 96:=⟨_,Tryz.func96,by kernel_rfl,by kernel_rfl⟩
instance:FnOk Tryz.prog 101:=⟨_,Tryz.func101,by kernel_rfl,by kernel_rfl⟩
instance:FnOk Tryz.prog 102:=⟨_,Tryz.func102,by kernel_rfl,by kernel_rfl⟩
instance:FnOk Tryz.prog 104:=⟨_,Tryz.func104,by kernel_rfl,by kernel_rfl⟩
instance:FnOk Tryz.prog 105:=⟨_,Tryz.func105,by kernel_rfl,by kernel_rfl⟩
instance:FnOk Tryz.prog 106:=⟨_,Tryz.func106,by kernel_rfl,by kernel_rfl⟩
instance:FnOk Tryz.prog 107:=⟨_,Tryz.func107,by kernel_rfl,by kernel_rfl⟩
instance:FnOk Tryz.prog 108:=⟨_,Tryz.func108,by kernel_rfl,by kernel_rfl⟩
instance:FnOk Tryz.prog 109:=⟨_,Tryz.func109,by kernel_rfl,by kernel_rfl⟩
instance:FnOk Tryz.prog 110:=⟨_,Tryz.func110,by kernel_rfl,by kernel_rfl⟩
instance:FnOk Tryz.prog 111:=⟨_,Tryz.func111,by kernel_rfl,by kernel_rfl⟩
instance:FnOk Tryz.prog 112:=⟨_,Tryz.func112,by kernel_rfl,by kernel_rfl⟩
instance:FnOk Tryz.prog 113:=⟨_,Tryz.func113,by kernel_rfl,by kernel_rfl⟩
instance:FnOk Tryz.prog 114:=⟨_,Tryz.func114,by kernel_rfl,by kernel_rfl⟩
instance:FnOk Tryz.prog 115:=⟨_,Tryz.func115,by kernel_rfl,by kernel_rfl⟩
instance:FnOk Tryz.prog 116:=⟨_,Tryz.func116,by kernel_rfl,by kernel_rfl⟩
instance:FnOk Tryz.prog 118:=⟨_,Tryz.func118,by kernel_rfl,by kernel_rfl⟩
instance:FnOk Tryz.prog 119:=⟨_,Tryz.func119,by kernel_rfl,by kernel_rfl⟩
instance:FnOk Tryz.prog 120:=⟨_,Tryz.func120,by kernel_rfl,by kernel_rfl⟩
instance:FnOk Tryz.prog 121:=⟨_,Tryz.func121,by kernel_rfl,by kernel_rfl⟩
instance:FnOk Tryz.prog 122:=⟨_,Tryz.func122,by kernel_rfl,by kernel_rfl⟩
instance:FnOk Tryz.prog 123:=⟨_,Tryz.func123,by kernel_rfl,by kernel_rfl⟩
instance:FnOk Tryz.prog 124:=⟨_,Tryz.func124,by kernel_rfl,by kernel_rfl⟩
instance:FnOk Tryz.prog 125:=⟨_,Tryz.func125,by kernel_rfl,by kernel_rfl⟩
instance:FnOk Tryz.prog 126:=⟨_,Tryz.func126,by kernel_rfl,by kernel_rfl⟩
instance:FnOk Tryz.prog 127:=⟨_,Tryz.func127,by kernel_rfl,by kernel_rfl⟩
instance:FnOk Tryz.prog 128:=⟨_,Tryz.func128,by kernel_rfl,by kernel_rfl⟩
instance:FnOk Tryz.prog 129:=⟨_,Tryz.func129,by kernel_rfl,by kernel_rfl⟩
instance:FnOk Tryz.prog 130:=⟨_,Tryz.func130,by kernel_rfl,by kernel_rfl⟩
instance:FnOk Tryz.prog 131:=⟨_,Tryz.func131,by kernel_rfl,by kernel_rfl⟩
instance:FnOk Tryz.prog 132:=⟨_,Tryz.func132,by kernel_rfl,by kernel_rfl⟩
instance:FnOk Tryz.prog 133:=⟨_,Tryz.func133,by kernel_rfl,by kernel_rfl⟩
instance:FnOk Tryz.prog 134:=⟨_,Tryz.func134,by kernel_rfl,by kernel_rfl⟩
instance:FnOk Tryz.prog 135:=⟨_,Tryz.func135,by kernel_rfl,by kernel_rfl⟩
instance:FnOk Tryz.prog 136:=⟨_,Tryz.func136,by kernel_rfl,by kernel_rfl⟩
instance:FnOk Tryz.prog 137:=⟨_,Tryz.func137,by kernel_rfl,by kernel_rfl⟩
instance:FnOk Tryz.prog 138:=⟨_,Tryz.func138,by kernel_rfl,by kernel_rfl⟩
instance:FnOk Tryz.prog 139:=⟨_,Tryz.func139,by kernel_rfl,by kernel_rfl⟩
instance:FnOk Tryz.prog 140:=⟨_,Tryz.func140,by kernel_rfl,by kernel_rfl⟩
instance:FnOk Tryz.prog 141:=⟨_,Tryz.func141,by kernel_rfl,by kernel_rfl⟩
instance:FnOk Tryz.prog 142:=⟨_,Tryz.func142,by kernel_rfl,by kernel_rfl⟩
instance:FnOk Tryz.prog 143:=⟨_,Tryz.func143,by kernel_rfl,by kernel_rfl⟩
instance:FnOk Tryz.prog 144:=⟨_,Tryz.func144,by kernel_rfl,by kernel_rfl⟩
instance:FnOk Tryz.prog 145:=⟨_,Tryz.func145,by kernel_rfl,by kernel_rfl⟩
instance:FnOk Tryz.prog 146:=⟨_,Tryz.func146,by kernel_rfl,by kernel_rfl⟩
instance:FnOk Tryz.prog 147:=⟨_,Tryz.func147,by kernel_rfl,by kernel_rfl⟩
instance:FnOk Tryz.prog 148:=⟨_,Tryz.func148,by kernel_rfl,by kernel_rfl⟩
instance:FnOk Tryz.prog 149:=⟨_,Tryz.func149,by kernel_rfl,by kernel_rfl⟩
instance:FnOk Tryz.prog 150:=⟨_,Tryz.func150,by kernel_rfl,by kernel_rfl⟩
instance:FnOk Tryz.prog 151:=⟨_,Tryz.func151,by kernel_rfl,by kernel_rfl⟩
instance:FnOk Tryz.prog 152:=⟨_,Tryz.func152,by kernel_rfl,by kernel_rfl⟩
instance:FnOk Tryz.prog 153:=⟨_,Tryz.func153,by kernel_rfl,by kernel_rfl⟩
instance:FnOk Tryz.prog 163:=⟨_,Tryz.func163,by kernel_rfl,by kernel_rfl⟩
instance:FnOk Tryz.prog 165:=⟨_,Tryz.func165,by kernel_rfl,by kernel_rfl⟩
instance:FnOk Tryz.prog 166:=⟨_,Tryz.func166,by kernel_rfl,by kernel_rfl⟩
instance:FnOk Tryz.prog 167:=⟨_,Tryz.func167,by kernel_rfl,by kernel_rfl⟩
instance:FnOk Tryz.prog 168:=⟨_,Tryz.func168,by kernel_rfl,by kernel_rfl⟩
instance:FnOk Tryz.prog 177:=⟨_,Tryz.func177,by kernel_rfl,by kernel_rfl⟩
instance:FnOk Tryz.prog 178:=⟨_,Tryz.func178,by kernel_rfl,by kernel_rfl⟩
instance:FnOk Tryz.prog 182:=⟨_,Tryz.func182,by kernel_rfl,by kernel_rfl⟩
instance:FnOk Tryz.prog 183:=⟨_,Tryz.func183,by kernel_rfl,by kernel_rfl⟩
instance:FnOk Tryz.prog 184:=⟨_,Tryz.func184,by kernel_rfl,by kernel_rfl⟩
instance:FnOk Tryz.prog 186:=⟨_,Tryz.func186,by kernel_rfl,by kernel_rfl⟩
instance:FnOk Tryz.prog 187:=⟨_,Tryz.func187,by kernel_rfl,by kernel_rfl⟩
instance:FnOk Tryz.prog 188:=⟨_,Tryz.func188,by kernel_rfl,by kernel_rfl⟩
instance:FnOk Tryz.prog 189:=⟨_,Tryz.func189,by kernel_rfl,by kernel_rfl⟩
instance:FnOk Tryz.prog 190:=⟨_,Tryz.func190,by kernel_rfl,by kernel_rfl⟩
instance:FnOk Tryz.prog 191:=⟨_,Tryz.func191,by kernel_rfl,by kernel_rfl⟩
instance:FnOk Tryz.prog 192:=⟨_,Tryz.func192,by kernel_rfl,by kernel_rfl⟩
instance:FnOk Tryz.prog 193:=⟨_,Tryz.func193,by kernel_rfl,by kernel_rfl⟩
instance:FnOk Tryz.prog 194:=⟨_,Tryz.func194,by kernel_rfl,by kernel_rfl⟩
instance:FnOk Tryz.prog 195:=⟨_,Tryz.func195,by kernel_rfl,by kernel_rfl⟩
instance:FnOk Tryz.prog 196:=⟨_,Tryz.func196,by kernel_rfl,by kernel_rfl⟩
instance:FnOk Tryz.prog 197:=⟨_,Tryz.func197,by kernel_rfl,by kernel_rfl⟩
instance:FnOk Tryz.prog 198:=⟨_,Tryz.func198,by kernel_rfl,by kernel_rfl⟩
instance:FnOk Tryz.prog 199:=⟨_,Tryz.func199,by kernel_rfl,by kernel_rfl⟩
instance:FnOk Tryz.prog 200:=⟨_,Tryz.func200,by kernel_rfl,by kernel_rfl⟩
instance:FnOk Tryz.prog 201:=⟨_,Tryz.func201,by kernel_rfl,by kernel_rfl⟩
instance:FnOk Tryz.prog 202:=⟨_,Tryz.func202,by kernel_rfl,by kernel_rfl⟩
instance:FnOk Tryz.prog 203:=⟨_,Tryz.func203,by kernel_rfl,by kernel_rfl⟩
instance:FnOk Tryz.prog 204:=⟨_,Tryz.func204,by kernel_rfl,by kernel_rfl⟩
instance:FnOk Tryz.prog 205:=⟨_,Tryz.func205,by kernel_rfl,by kernel_rfl⟩
instance:FnOk Tryz.prog 206:=⟨_,Tryz.func206,by kernel_rfl,by kernel_rfl⟩
instance:FnOk Tryz.prog 207:=⟨_,Tryz.func207,by kernel_rfl,by kernel_rfl⟩
instance:FnOk Tryz.prog 208:=⟨_,Tryz.func208,by kernel_rfl,by kernel_rfl⟩
instance:FnOk Tryz.prog 209:=⟨_,Tryz.func209,by kernel_rfl,by kernel_rfl⟩
instance:FnOk Tryz.prog 210:=⟨_,Tryz.func210,by kernel_rfl,by kernel_rfl⟩
instance:FnOk Tryz.prog 211:=⟨_,Tryz.func211,by kernel_rfl,by kernel_rfl⟩
instance:FnOk Tryz.prog 212:=⟨_,Tryz.func212,by kernel_rfl,by kernel_rfl⟩
instance:FnOk Tryz.prog 213:=⟨_,Tryz.func213,by kernel_rfl,by kernel_rfl⟩
instance:FnOk Tryz.prog 214:=⟨_,Tryz.func214,by kernel_rfl,by kernel_rfl⟩
instance:FnOk Tryz.prog 215:=⟨_,Tryz.func215,by kernel_rfl,by kernel_rfl⟩
instance:FnOk Tryz.prog 216:=⟨_,Tryz.func216,by kernel_rfl,by kernel_rfl⟩
instance:FnOk Tryz.prog 226:=⟨_,Tryz.func226,by kernel_rfl,by kernel_rfl⟩
instance:FnOk Tryz.prog 227:=⟨_,Tryz.func227,by kernel_rfl,by kernel_rfl⟩
instance:FnOk Tryz.prog 228:=⟨_,Tryz.func228,by kernel_rfl,by kernel_rfl⟩
instance:FnOk Tryz.prog 229:=⟨_,Tryz.func229,by kernel_rfl,by kernel_rfl⟩
instance:FnOk Tryz.prog 231:=⟨_,Tryz.func231,by kernel_rfl,by kernel_rfl⟩
instance:FnOk Tryz.prog 233:=⟨_,Tryz.func233,by kernel_rfl,by kernel_rfl⟩
instance:FnOk Tryz.prog 235:=⟨_,Tryz.func235,by kernel_rfl,by kernel_rfl⟩
instance:FnOk Tryz.prog 236:=⟨_,Tryz.func236,by kernel_rfl,by kernel_rfl⟩
instance:FnOk Tryz.prog 237:=⟨_,Tryz.func237,by kernel_rfl,by kernel_rfl⟩
instance:FnOk Tryz.prog 238:=⟨_,Tryz.func238,by kernel_rfl,by kernel_rfl⟩
instance:FnOk Tryz.prog 239:=⟨_,Tryz.func239,by kernel_rfl,by kernel_rfl⟩
instance:FnOk Tryz.prog 240:=⟨_,Tryz.func240,by kernel_rfl,by kernel_rfl⟩
instance:FnOk Tryz.prog 241:=⟨_,Tryz.func241,by kernel_rfl,by kernel_rfl⟩
instance:FnOk Tryz.prog 244:=⟨_,Tryz.func244,by kernel_rfl,by kernel_rfl⟩
instance:FnOk Tryz.prog 245:=⟨_,Tryz.func245,by kernel_rfl,by kernel_rfl⟩
instance:FnOk Tryz.prog 246:=⟨_,Tryz.func246,by kernel_rfl,by kernel_rfl⟩
instance:FnOk Tryz.prog 247:=⟨_,Tryz.func247,by kernel_rfl,by kernel_rfl⟩
instance:FnOk Tryz.prog 248:=⟨_,Tryz.func248,by kernel_rfl,by kernel_rfl⟩
instance:FnOk Tryz.prog 249:=⟨_,Tryz.func249,by kernel_rfl,by kernel_rfl⟩
instance:FnOk Tryz.prog 250:=⟨_,Tryz.func250,by kernel_rfl,by kernel_rfl⟩
instance:FnOk Tryz.prog 251:=⟨_,Tryz.func251,by kernel_rfl,by kernel_rfl⟩
instance:FnOk Tryz.prog 252:=⟨_,Tryz.func252,by kernel_rfl,by kernel_rfl⟩
instance:FnOk Tryz.prog 253:=⟨_,Tryz.func253,by kernel_rfl,by kernel_rfl⟩
instance:FnOk Tryz.prog 254:=⟨_,Tryz.func254,by kernel_rfl,by kernel_rfl⟩
instance:FnOk Tryz.prog 255:=⟨_,Tryz.func255,by kernel_rfl,by kernel_rfl⟩
instance:FnOk Tryz.prog 256:=⟨_,Tryz.func256,by kernel_rfl,by kernel_rfl⟩
instance:FnOk Tryz.prog 257:=⟨_,Tryz.func257,by kernel_rfl,by kernel_rfl⟩
instance:FnOk Tryz.prog 258:=⟨_,Tryz.func258,by kernel_rfl,by kernel_rfl⟩
instance:FnOk Tryz.prog 259:=⟨_,Tryz.func259,by kernel_rfl,by kernel_rfl⟩
instance:FnOk Tryz.prog 260:=⟨_,Tryz.func260,by kernel_rfl,by kernel_rfl⟩
instance:FnOk Tryz.prog 261:=⟨_,Tryz.func261,by kernel_rfl,by kernel_rfl⟩
instance:FnOk Tryz.prog 262:=⟨_,Tryz.func262,by kernel_rfl,by kernel_rfl⟩
instance:FnOk Tryz.prog 267:=⟨_,Tryz.func267,by kernel_rfl,by kernel_rfl⟩
instance:FnOk Tryz.prog 268:=⟨_,Tryz.func268,by kernel_rfl,by kernel_rfl⟩
instance:FnOk Tryz.prog 269:=⟨_,Tryz.func269,by kernel_rfl,by kernel_rfl⟩
instance:FnOk Tryz.prog 270:=⟨_,Tryz.func270,by kernel_rfl,by kernel_rfl⟩
instance:FnOk Tryz.prog 272:=⟨_,Tryz.func272,by kernel_rfl,by kernel_rfl⟩
instance:FnOk Tryz.prog 273:=⟨_,Tryz.func273,by kernel_rfl,by kernel_rfl⟩
instance:FnOk Tryz.prog 274:=⟨_,Tryz.func274,by kernel_rfl,by kernel_rfl⟩
instance:FnOk Tryz.prog 275:=⟨_,Tryz.func275,by kernel_rfl,by kernel_rfl⟩
instance:FnOk Tryz.prog 276:=⟨_,Tryz.func276,by kernel_rfl,by kernel_rfl⟩
instance:FnOk Tryz.prog 277:=⟨_,Tryz.func277,by kernel_rfl,by kernel_rfl⟩
instance:FnOk Tryz.prog 278:=⟨_,Tryz.func278,by kernel_rfl,by kernel_rfl⟩
instance:FnOk Tryz.prog 279:=⟨_,Tryz.func279,by kernel_rfl,by kernel_rfl⟩
instance:FnOk Tryz.prog 280:=⟨_,Tryz.func280,by kernel_rfl,by kernel_rfl⟩
instance:FnOk Tryz.prog 281:=⟨_,Tryz.func281,by kernel_rfl,by kernel_rfl⟩
instance:FnOk Tryz.prog 287:=⟨_,Tryz.func287,by kernel_rfl,by kernel_rfl⟩
instance:FnOk Tryz.prog 291:=⟨_,Tryz.func291,by kernel_rfl,by kernel_rfl⟩
instance:FnOk Tryz.prog 292:=⟨_,Tryz.func292,by kernel_rfl,by kernel_rfl⟩
instance:FnOk Tryz.prog 294:=⟨_,Tryz.func294,by kernel_rfl,by kernel_rfl⟩
instance:FnOk Tryz.prog 295:=⟨_,Tryz.func295,by kernel_rfl,by kernel_rfl⟩
instance:FnOk Tryz.prog 296:=⟨_,Tryz.func296,by kernel_rfl,by kernel_rfl⟩
instance:FnOk Tryz.prog 297:=⟨_,Tryz.func297,by kernel_rfl,by kernel_rfl⟩
instance:FnOk Tryz.prog 305:=⟨_,Tryz.func305,by kernel_rfl,by kernel_rfl⟩
theorem mixed:Tryz.prog.follows .mixedOrders=true:=by kernel_rfl
end Go.Proofs.YtmmmfphealhapaaGreat
namespace Go.Fx
structure BoxP (g:Prop):Prop where
 out:g
section
variable {P:Program} {n:Nat} {Q:Exit→Act→World→Prop} {G:Env} {X:List Nat} {w0:World} {M:List Ent} {I:List aM} {ops l:List Oper} {m:Mode} {c:Code} {e:Exit}
structure Br (b:Bool) (p q:Prop):Prop where
 y:b=true→p
 n:b=false→q
theorem Br.dec {p:Prop} [Decidable p]:Br (B p) p (¬p):=⟨fun h=>Decidable.byContradiction (fun hn=>by rw [bE hn] at h;cases h),fun h hp=>by rw [bJ hp] at h;cases h⟩
theorem Br.raw {b:Bool}:Br b (b=true) (b=false):=⟨id,id⟩
theorem Br.lit:Br true True False:=⟨fun _=>True.intro,fun h=>by cases h⟩
theorem Br.lit2:Br false False True:=⟨fun h=>(by cases h),fun _=>True.intro⟩
theorem aK {c:Operand} {x y:Code} {b:Bool} {p q:Prop} (hc:ev G c=some (.bool b)) (h1:p→TD P n x Q G X w0 M I) (h2:q→TD P n y Q G X w0 M I) (hb:Br b p q:=by first|exact Br.dec|exact Br.raw|fail):TD P n (.cond c x y) Q G X w0 M I:=
 bBN hc (fun e=>h1 (hb.y e)) (fun e=>h2 (hb.n e))
theorem aJ {op:Op} {ty:TypeId} {pos:String} {af:Array Edge} {d:Option Nat} {b:Bool} {p q:Prop} {g:Nat × Bool} {t:Nat} (hj:qM ops g.1=some t) (hv:lk G t=some (.bool b))
  (h1:p→RD P n ops Q m (⟨d,op,ty,pos,af,some g⟩::l) ((t, .bool true)::G) X w0 M I) (h2:q→RD P n ops Q m (⟨d,op,ty,pos,af,some g⟩::l) ((t, .bool false)::G) X w0 M I) (hb:Br b p q:=by first|exact Br.dec|((fail_if_success exact Br.lit);(fail_if_success exact Br.lit2);exact Br.raw)|fail):
  RD P n ops Q m (⟨d,op,ty,pos,af,some g⟩::l) G X w0 M I:=bBT hj hv (fun e=>h1 (hb.y e)) (fun e=>h2 (hb.n e))
end
end Go.Fx
namespace Go.Fx
theorem lK {p g:Prop} (h:g) (w:BoxP g→p:=by (intro hh;(first|refine aG ?_|refine dB ?_|refine oN ?_|refine lL ?_|refine jK ?_|refine jB ?_|refine lI ?_|refine kV ?_|refine jP ?_|refine jO ?_|refine oJ ?_|refine oI ?_|refine oU ?_|refine nZ rfl ?_|refine bK ?_|(refine jU ?_;first|refine kD rfl rfl rfl ?_|(refine jT rfl rfl ?_;refine iT rfl rfl rfl qL ?_)|refine jZ rfl rfl (by omega) ?_|refine jX rfl rfl (by omega) ?_)|(refine eO ?_;refine aC rfl (fun _=>fM rfl) rfl rfl ?_)|refine aC rfl (fun _=>bN rfl) rfl rfl ?_|(refine jY ?_;first|refine aC rfl (fun _=>dD rfl rfl w_) rfl rfl ?_|refine aC rfl (fun _=>dC rfl rfl w_) rfl rfl ?_|refine aC rfl (fun _=>gQ rfl rfl w_) rfl rfl ?_|refine aC rfl (fun _=>gT rfl rfl (by omega) q_) rfl rfl ?_|refine aC rfl (fun _=>gP rfl rfl (by omega) rfl) rfl rfl ?_|refine aC rfl (fun _=>fJ rfl rfl) rfl rfl ?_|refine aC rfl (fun _=>gM rfl rfl) rfl rfl ?_|refine aC rfl (fun _=>gK rfl rfl) rfl rfl ?_)|(refine eO ?_;first|refine aC rfl (fun _=>gD rfl w_) rfl rfl ?_)|(refine jW ?_;first|refine aC rfl (fun _=>fD rfl w_) rfl rfl ?_)|(refine jV ?_;first|refine aC rfl (fun _=>cZ rfl) rfl rfl ?_|refine aC rfl (fun _=>fK rfl rfl) rfl rfl ?_|refine aC rfl (fun _=>fP rfl rfl) rfl rfl ?_|refine aC rfl (fun _=>fQ rfl rfl rfl) rfl rfl ?_)|(refine kG ?_;first|refine kI rfl (by decide) rfl rfl ?_|refine mM rfl (by decide) rfl rfl ?_)|(refine kH ?_;first|refine aC rfl (fun _=>fC rfl) rfl rfl ?_)|(refine kL ?_;first|refine mQ rfl rfl iC rfl rfl ?_|refine mO vwJ rfl rfl iC aZ mU rfl rfl ?_|refine mJ vwJ rfl rfl iC aZ mU rfl rfl ?_|refine aC rfl (fun _=>dZ rfl rfl iC) rfl rfl ?_)|(refine bM ?_;first|refine mK vwJ rfl aZ xX rfl rfl ?_|refine mP vwJ rfl aZ xX rfl rfl ?_|refine gI vwJ rfl aZ xX rfl rfl ?_|refine kK vwJ rfl aZ xX rfl rfl ?_|refine qV vwJ rfl aZ nE jN rfl rfl ?_|refine rA vwJ rfl aZ nE jN rfl rfl ?_|refine qX vwJ rfl aZ nE jN rfl rfl ?_|refine nX vwJ rfl aZ nE jN rfl rfl ?_)|(refine kF ?_;first|refine aC rfl (fun _=>dY rfl rfl) rfl rfl ?_|refine aC rfl (fun _=>dG rfl) rfl rfl ?_)|(refine nI ?_;first|refine mX rfl rfl rfl tJ stC rfl rfl ⟨qL,?_⟩|refine fO rfl rfl jN aCG tJ aCL rfl rfl ⟨qL,?_⟩)|(refine lH ?_;first|refine fG rfl ?_|refine eF rfl ?_|refine oK rfl (by omega) ?_|refine sP rfl (by omega) ?_));(repeat (first|refine aG ?_|refine dB ?_|refine oN ?_|refine lL ?_|refine jK ?_|refine jB ?_|refine lI ?_|refine kV ?_|refine jP ?_|refine jO ?_|refine oJ ?_|refine oI ?_|refine oU ?_|refine nZ rfl ?_|refine bK ?_|(refine jU ?_;first|refine kD rfl rfl rfl ?_|(refine jT rfl rfl ?_;refine iT rfl rfl rfl qL ?_)|refine jZ rfl rfl (by omega) ?_|refine jX rfl rfl (by omega) ?_)|(refine eO ?_;refine aC rfl (fun _=>fM rfl) rfl rfl ?_)|refine aC rfl (fun _=>bN rfl) rfl rfl ?_|(refine jY ?_;first|refine aC rfl (fun _=>dD rfl rfl w_) rfl rfl ?_|refine aC rfl (fun _=>dC rfl rfl w_) rfl rfl ?_|refine aC rfl (fun _=>gQ rfl rfl w_) rfl rfl ?_|refine aC rfl (fun _=>gT rfl rfl (by omega) q_) rfl rfl ?_|refine aC rfl (fun _=>gP rfl rfl (by omega) rfl) rfl rfl ?_|refine aC rfl (fun _=>fJ rfl rfl) rfl rfl ?_|refine aC rfl (fun _=>gM rfl rfl) rfl rfl ?_|refine aC rfl (fun _=>gK rfl rfl) rfl rfl ?_)|(refine eO ?_;first|refine aC rfl (fun _=>gD rfl w_) rfl rfl ?_)|(refine jW ?_;first|refine aC rfl (fun _=>fD rfl w_) rfl rfl ?_)|(refine jV ?_;first|refine aC rfl (fun _=>cZ rfl) rfl rfl ?_|refine aC rfl (fun _=>fK rfl rfl) rfl rfl ?_|refine aC rfl (fun _=>fP rfl rfl) rfl rfl ?_|refine aC rfl (fun _=>fQ rfl rfl rfl) rfl rfl ?_)|(refine kG ?_;first|refine kI rfl (by decide) rfl rfl ?_|refine mM rfl (by decide) rfl rfl ?_)|(refine kH ?_;first|refine aC rfl (fun _=>fC rfl) rfl rfl ?_)|(refine kL ?_;first|refine mQ rfl rfl iC rfl rfl ?_|refine mO vwJ rfl rfl iC aZ mU rfl rfl ?_|refine mJ vwJ rfl rfl iC aZ mU rfl rfl ?_|refine aC rfl (fun _=>dZ rfl rfl iC) rfl rfl ?_)|(refine bM ?_;first|refine mK vwJ rfl aZ xX rfl rfl ?_|refine mP vwJ rfl aZ xX rfl rfl ?_|refine gI vwJ rfl aZ xX rfl rfl ?_|refine kK vwJ rfl aZ xX rfl rfl ?_|refine qV vwJ rfl aZ nE jN rfl rfl ?_|refine rA vwJ rfl aZ nE jN rfl rfl ?_|refine qX vwJ rfl aZ nE jN rfl rfl ?_|refine nX vwJ rfl aZ nE jN rfl rfl ?_)|(refine kF ?_;first|refine aC rfl (fun _=>dY rfl rfl) rfl rfl ?_|refine aC rfl (fun _=>dG rfl) rfl rfl ?_)|(refine nI ?_;first|refine mX rfl rfl rfl tJ stC rfl rfl ⟨qL,?_⟩|refine fO rfl rfl jN aCG tJ aCL rfl rfl ⟨qL,?_⟩)|(refine lH ?_;first|refine fG rfl ?_|refine eF rfl ?_|refine oK rfl (by omega) ?_|refine sP rfl (by omega) ?_)));exact hh.out)):p:=w ⟨h⟩
end Go.Fx
namespace Go.Proofs.YtmmmfphealhapaaGreat
open Go Go.Fx
abbrev eG:Int→List Value:=eI .u32
theorem xV (l:List Int) (i:Nat):gt l (i:Int)=l.getD i 0:=aIE l i
theorem aPY {l:List Int} {i:Int} (h:(l.length:Int)≤i):gt l i=0:=by
 unfold gt
 simp [List.getD,show l.length≤i.toNat by omega]
theorem rU (l:List Int) (i:Nat) (x:Int):st l (i:Int) x=l.set i x:=rfl
theorem Dig.gt {l:List Int} (h:Dig l) (i:Int):0≤gt l i∧gt l i < 1000000000:=h.getD i.toNat
section
variable {X:List Nat} {w0:World} {M0:List Ent} {I0:List aM}
theorem aPA {q:Option Addr} {l:List Int} {n c:Nat} {i:Int} (hn:n=l.length) (hi:0≤i) (hl:aH q (recs eG l)∈I0):
  CD Tryz.prog 203 [.slice q n c, .int .i64 i] X w0 M0 I0 (fun v M I=>M0=M∧I0=I∧v= .int .u32 (gt l i)):=by
 subst hn
 refine dV Tryz.func203 rfl Tryz.ntmps203 rfl ?_
 repeat' (first|refine lK ?_|refine aK rfl (fun h=>?_) (fun h=>?_)|refine aJ rfl rfl (fun h=>?_) (fun h=>?_)|fail)
 ·refine aP (by first|exact .inl rfl|exact .inr rfl) rfl rfl _ _ bQ bP (⟨rfl,rfl,rfl⟩)
 ·refine aP (by first|exact .inl rfl|exact .inr rfl) rfl rfl _ _ bQ bP (⟨rfl,rfl,by rw [aPY (by omega)]⟩)
theorem sN {q:Option Addr} {l:List Int} {n c:Nat} (hn:n=l.length) (h63:n≤1000000000000) (hc:l.length≤c) (hl:aH q (recs eG l)∈I0):
  CD Tryz.prog 200 [.slice q n c] X w0 M0 I0 (fun v M I=>M0=M∧I=aH q (recs eG (fZ l))::I0∧v= .slice q (fZ l).length c):=by
 subst hn
 refine dV Tryz.func200 rfl Tryz.ntmps200 rfl ?_
 refine aCV (φ:=0 < l.length→Ok q) (fun w hw h=>(hw.sl hl).ok (by rw [fH];omega)) (fun hq=>?_)
 repeat (refine lK ?_)
 refine bX [] rfl (fun k G M I=>∃m:Nat,m≤l.length∧k=m∧fZ (l.take m)=fZ l∧G=[(0, .slice q m c)]∧M0=M∧I0=I) (l.length) _ _ _ dE bQ bP (⟨l.length,by omega,rfl,by rw [List.take_length],rfl,rfl,rfl⟩) ?_
 rintro k G M I ⟨m,hm,rfl,ht,rfl,rfl,rfl⟩
 repeat' (first|refine lK ?_|refine aK rfl (fun h=>?_) (fun h=>?_)|refine aJ rfl rfl (fun h=>?_) (fun h=>?_)|fail)
 ·obtain ⟨b,o,rfl⟩:=(hq (by omega)).cases
  refine aC rfl (fun _=>qY (k - 1) rfl rfl (by omega) (by omega)) rfl rfl ?_
  repeat (refine lK ?_)
  have h1:=h
  refine cB (k - 1) _ _ _ (by first|omega|(simp only [List.length_append,List.length_cons,List.length_nil];omega)) dE bQ bP (⟨k - 1,by omega,rfl,?_,rfl,rfl,rfl⟩)
  rw [←ht]
  obtain ⟨j,rfl⟩:∃j,k=j+1:=⟨k - 1,by omega⟩
  have hj:j < l.length:=by omega
  have e0:gt l (j:Int)=0:=by
   have e:((j+1:Nat):Int) - 1=j:=by omega
   rw [e] at h1
   exact h1
  rw [fE hj] at e0
  rw [List.take_succ_eq_append_getElem hj,e0,yR]
  rfl
 ·have h1:=h
  have htop:Top (l.take k):=by
   obtain ⟨j,rfl⟩:∃j,k=j+1:=⟨k - 1,by omega⟩
   have hj:j < l.length:=by omega
   rw [List.take_succ_eq_append_getElem hj,Top.snoc,←fE hj]
   have e:((j+1:Nat):Int) - 1=j:=by omega
   rw [e] at h1
   exact h1
  have e1:fZ l=l.take k:=by rw [←ht,aEY htop]
  refine yK (fun w hw=>hw.takeI (cs:=recs eG (fZ l)) (tl:=recs eG (l.drop k)) (by rw [e1,←lQ,List.take_append_drop];exact hl)) ?_
  refine aP (by first|exact .inl rfl|exact .inr rfl) rfl rfl _ _ bQ bP (⟨rfl,rfl,by rw [e1];simp;omega⟩)
 ·have h0:k=0:=by omega
  subst h0
  have e1:fZ l=[]:=by rw [←ht];rfl
  rw [e1]
  refine aJG q ?_
  refine aP (by first|exact .inl rfl|exact .inr rfl) rfl rfl _ _ bQ bP (⟨rfl,rfl,rfl⟩)
def GrP (n:Nat) (M0:List Ent) (I0:List aM) (v:Value) (M:List Ent) (I:List aM):Prop:=M0=M∧∃q c,v= .slice q (gr n).length c∧((gr n).length≤c∧(Ok q∨((gr n).length=0∧c=0)))∧I=aH q (recs eG (gr n))::I0
theorem aOU {p q:Option Addr} {m n cp cq:Nat} (hm:(gr m).length≤100000000000) (hn:(gr n).length≤100000000000) (hp:aH p (recs eG (gr m))∈I0) (hq:aH q (recs eG (gr n))∈I0):
  CD Tryz.prog 129 [.slice p (gr m).length cp, .slice q (gr n).length cq] X w0 M0 I0 (GrP (m+n) M0 I0):=by
 have da:=bR m
 have db:=bR n
 have va:=cO m
 have vb:=cO n
 generalize ha:gr m=a at*
 generalize hb:gr n=b at*
 obtain ⟨N,hN⟩:∃N:Nat,N=max a.length b.length+1:=⟨_,rfl⟩
 refine dV Tryz.func129 rfl Tryz.ntmps129 rfl ?_
 repeat (refine lK ?_)
 (refine jI (N) rfl rfl (by omega) (by omega) (by omega) (by omega) (oF _ _) rfl rfl ?_;intro bo;refine ⟨qL,?_⟩)
 repeat (refine lK ?_)
 refine bX [0,1,5,17] rfl (fun k G M I=>∃(i:Nat) (o:List Int) (cr:Int),i≤N∧k=N - i∧o.length=N∧Dig (o.take i)∧(0≤cr∧cr≤1)∧val (o.take i)+1000000000 ^ i*cr=val (a.take i)+val (b.take i)∧G=[(6, .int .u32 cr),(18, .int .i64 i)]∧M= .blk bo (recs eG o) 121::M0∧I0=I) (N) _ _ _ dE bQ bP (⟨0,_,0,by omega,by omega,by simp,by simp [Dig],by omega,by simp [val],rfl,rfl,rfl⟩) ?_
 rintro k G M I ⟨i,o,cr,hi,rfl,ho,hd,hcr,hv,rfl,rfl,rfl⟩
 repeat' (first|refine lK ?_|refine aK rfl (fun h=>?_) (fun h=>?_)|refine aJ rfl rfl (fun h=>?_) (fun h=>?_)|fail)
 ·(refine aO rfl (aPA (i:=i) rfl (by omega) hp) rfl rfl ?_;rintro _ _ _ ⟨rfl,rfl,rfl⟩;refine ⟨qL,?_⟩)
  have d1:=da.gt i
  have d2:=db.gt i
  repeat (refine lK ?_)
  (refine aO rfl (aPA (i:=i) rfl (by omega) hq) rfl rfl ?_;rintro _ _ _ ⟨rfl,rfl,rfl⟩;refine ⟨qL,?_⟩)
  repeat' (first|refine lK ?_|refine aK rfl (fun h=>?_) (fun h=>?_)|refine aJ rfl rfl (fun h=>?_) (fun h=>?_)|fail)
  ·refine cB (N - (i+1)) _ _ _ (by first|omega|(simp only [List.length_append,List.length_cons,List.length_nil];omega)) dE bQ bP (⟨i+1,_,1,by omega,rfl,by rw [dI];exact ho,?_,by omega,?_,rfl,rfl,rfl⟩)
   ·rw [rU,iX _ _ _ (by omega)];exact hd.snoc (by omega)
   ·exact aKR hv (by omega) (s:=gt a i+gt b i+cr) rfl (by omega)
  ·refine cB (N - (i+1)) _ _ _ (by first|omega|(simp only [List.length_append,List.length_cons,List.length_nil];omega)) dE bQ bP (⟨i+1,_,0,by omega,rfl,by rw [dI];exact ho,?_,by omega,?_,rfl,rfl,rfl⟩)
   ·rw [rU,iX _ _ _ (by omega)];exact hd.snoc (by omega)
   ·exact aKR hv (by omega) (s:=gt a i+gt b i+cr) rfl (by omega)
 ·have hiN:i=N:=by omega
  subst hiN
  rw [List.take_of_length_le (show o.length≤i by omega)] at hv hd
  rw [List.take_of_length_le (show a.length≤i by omega),List.take_of_length_le (show b.length≤i by omega),va,vb] at hv
  have hcr0:cr=0:=by
   have h1:=jR da
   have h2:=jR db
   have h3:=nR (show a.length≤i - 1 by omega)
   have h4:=nR (show b.length≤i - 1 by omega)
   have h5:(1000000000:Int) ^ i=1000000000 ^ (i - 1)*1000000000:=by
    rw [←Int.pow_succ];congr 1;omega
   have h6:=jC (i - 1)
   have h7:=bS hd
   by_cases c:cr=0
   ·exact c
   ·have:cr=1:=by omega
    subst this
    omega
  subst hcr0
  have hg:fZ o=gr (m+n):=nW hd (by omega)
  refine aI yM ?_
  (refine aO rfl (sN (l:=o) (c:=i) ho.symm (by omega) (by omega) aZ) rfl rfl ?_;rintro _ _ _ ⟨rfl,rfl,rfl⟩;refine ⟨qL,?_⟩)
  repeat (refine lK ?_)
  rw [hg]
  refine aP (by first|exact .inl rfl|exact .inr rfl) rfl rfl _ _ bQ bP (⟨rfl,_,_,rfl,⟨by rw [←hg];have:=xP o;obtain ⟨k,h1,h2,_⟩:=this;rw [h2];simp;omega, .inl (Ok.mk _ _)⟩,rfl⟩)
end
section
variable {X:List Nat} {w0:World} {M0:List Ent} {I0:List aM}
theorem aAM {o:List Int}:(fZ o).length≤o.length:=by
 obtain ⟨k,h1,h2,_⟩:=xP o
 rw [h2];simp;omega
theorem aDY {p q:Option Addr} {m n cp cq:Nat} (hm:(gr m).length≤100000000000) (hle:n≤m) (hp:aH p (recs eG (gr m))∈I0) (hq:aH q (recs eG (gr n))∈I0):
  CD Tryz.prog 130 [.slice p (gr m).length cp, .slice q (gr n).length cq] X w0 M0 I0 (GrP (m - n) M0 I0):=by
 have da:=bR m
 have db:=bR n
 have va:=cO m
 have vb:=cO n
 have hln:=gV hle
 generalize ha:gr m=a at*
 generalize hb:gr n=b at*
 refine dV Tryz.func130 rfl Tryz.ntmps130 rfl ?_
 repeat (refine lK ?_)
 (refine jI (a.length) rfl rfl (by omega) (by omega) (by omega) (by omega) (oF _ _) rfl rfl ?_;intro bo;refine ⟨qL,?_⟩)
 repeat (refine lK ?_)
 refine bX [0,1,5,13] rfl (fun k G M I=>∃(i:Nat) (o:List Int) (cr:Int),i≤a.length∧k=a.length - i∧o.length=a.length∧Dig (o.take i)∧(0≤cr∧cr≤1)∧val (o.take i) - 1000000000 ^ i*cr=val (a.take i) - val (b.take i)∧G=[(6, .int .u32 cr),(14, .int .i64 i)]∧M= .blk bo (recs eG o) 121::M0∧I0=I) (a.length) _ _ _ dE bQ bP (⟨0,_,0,by omega,by omega,by simp,by simp [Dig],by omega,by simp [val],rfl,rfl,rfl⟩) ?_
 rintro k G M I ⟨i,o,cr,hi,rfl,ho,hd,hcr,hv,rfl,rfl,rfl⟩
 repeat' (first|refine lK ?_|refine aK rfl (fun h=>?_) (fun h=>?_)|refine aJ rfl rfl (fun h=>?_) (fun h=>?_)|fail)
 ·(refine aO rfl (aPA (i:=i) rfl (by omega) hq) rfl rfl ?_;rintro _ _ _ ⟨rfl,rfl,rfl⟩;refine ⟨qL,?_⟩)
  have d1:=da.gt i
  have d2:=db.gt i
  repeat' (first|refine lK ?_|refine aK rfl (fun h=>?_) (fun h=>?_)|refine aJ rfl rfl (fun h=>?_) (fun h=>?_)|fail)
  ·refine cB (a.length - (i+1)) _ _ _ (by first|omega|(simp only [List.length_append,List.length_cons,List.length_nil];omega)) dE bQ bP (⟨i+1,_,1,by omega,rfl,by rw [dI];exact ho,?_,by omega,?_,rfl,rfl,rfl⟩)
   ·rw [rU,iX _ _ _ (by omega)];exact hd.snoc (by omega)
   ·exact aKP hv (by omega) (show gt a i+1000000000 - (gt b i+cr) - 1000000000*1=gt a i - gt b i - cr by omega)
  ·refine cB (a.length - (i+1)) _ _ _ (by first|omega|(simp only [List.length_append,List.length_cons,List.length_nil];omega)) dE bQ bP (⟨i+1,_,0,by omega,rfl,by rw [dI];exact ho,?_,by omega,?_,rfl,rfl,rfl⟩)
   ·rw [rU,iX _ _ _ (by omega)];exact hd.snoc (by omega)
   ·exact aKP hv (by omega) (show gt a i - (gt b i+cr) - 1000000000*0=gt a i - gt b i - cr by omega)
 ·have hiN:i=a.length:=by omega
  subst hiN
  rw [List.take_of_length_le (show o.length≤a.length by omega)] at hv hd
  rw [List.take_length,List.take_of_length_le hln,va,vb] at hv
  have hcr0:cr=0:=by
   have h1:=jR hd
   have h7:=bS hd
   rw [ho] at h1
   by_cases c:cr=0
   ·exact c
   ·have:cr=1:=by omega
    subst this
    omega
  subst hcr0
  have hg:fZ o=gr (m - n):=nW hd (by omega)
  refine aI yM ?_
  (refine aO rfl (sN (l:=o) (c:=a.length) ho.symm (by omega) (by omega) aZ) rfl rfl ?_;rintro _ _ _ ⟨rfl,rfl,rfl⟩;refine ⟨qL,?_⟩)
  repeat (refine lK ?_)
  have hle2:=aAM (o:=o)
  rw [hg] at hle2 ⊢
  refine aP (by first|exact .inl rfl|exact .inr rfl) rfl rfl _ _ bQ bP (⟨rfl,_,_,rfl,⟨by omega, .inl (Ok.mk _ _)⟩,rfl⟩)
theorem uK {n:Nat} (hn:n≤18446744073709551615):CD Tryz.prog 124 [.int .u64 n] X w0 M0 I0 (GrP n M0 I0):=by
 refine dV Tryz.func124 rfl Tryz.ntmps124 rfl ?_
 repeat (refine lK ?_)
 refine iN 121 1 ?_
 refine bX [] rfl (fun k G M I=>∃(m:Nat) (a:Option Addr) (c':Nat) (xs:List Int),m≤n∧k=m∧(0 < m→xs.length≤2 - (gr m).length+1)∧xs++gr m=gr n∧xs.length≤3∧G=[(0, .int .u64 m),(3, .slice a xs.length c')]∧M= .row a xs.length c' (recs eG xs) 121 1::M0∧I0=I) (n) _ _ _ dE bQ bP (⟨n,none,0,[],by omega,rfl,by simp,by simp,by simp,rfl,rfl,rfl⟩) ?_
 rintro k G M I ⟨m,a,c',xs,hm,rfl,_,hxs,hx3,rfl,rfl,rfl⟩
 have h3:(gr n).length≤3:=rF (by omega)
 have h4:xs.length+(gr k).length≤3:=by rw [←hxs] at h3;simpa using h3
 repeat' (first|refine lK ?_|refine aK rfl (fun h=>?_) (fun h=>?_)|refine aJ rfl rfl (fun h=>?_) (fun h=>?_)|fail)
 ·have hk:k≠0:=by omega
  have e1:((k:Int)).tmod 1000000000=((k % 1000000000:Nat):Int):=by rw [Int.tmod_eq_emod_of_nonneg (by omega)];omega
  have e2:((k:Int)).tdiv 1000000000=((k / 1000000000:Nat):Int):=by rw [Int.tdiv_eq_ediv_of_nonneg (by omega)];omega
  rw [e1]
  have hgk:=wG hk
  have h5:(gr k).length=(gr (k / 1000000000)).length+1:=by rw [hgk];simp
  repeat (refine lK ?_)
  (refine vO (cs:=recs eG [((k % 1000000000:Nat):Int)]) ([.int .u32 ((k % 1000000000:Nat):Int)]) rfl rfl (by intro v hv;repeat (first|exact absurd hv (List.not_mem_nil)|(rcases List.mem_cons.1 hv with rfl|hv; · rfl))) (by omega) rfl rfl rfl ?_;intro b2;refine ⟨qL,?_⟩)
  (refine iE (ys:=[((k % 1000000000:Nat):Int)]) 1 rfl rfl rfl ?_ (by decide) rfl (by omega) (by omega) rfl rfl ?_;(· first|exact Src.blk aZ|exact Src.row aZ|exact Src.imm aZ (by first|assumption|exact .inl (Ok.mk _ _)));intro a2 c2;refine ⟨qL,?_⟩)
  repeat (refine lK ?_)
  rw [e2]
  refine cB (k / 1000000000) _ _ _ (by first|omega|(simp only [List.length_append,List.length_cons,List.length_nil];omega)) dE bQ bP (⟨k / 1000000000,a2,c2,_,by omega,rfl,by intro _;simp;omega,by rw [List.append_assoc];rw [hgk] at hxs;exact hxs,by simp;omega,rfl,rfl,rfl⟩)
 ·have h0:k=0:=by omega
  subst h0
  rw [gL,List.append_nil] at hxs
  subst hxs
  refine aZI (fun w hw=>And.intro (hw.rowLe (List.Mem.head _)) ((hw.rowS (List.Mem.head _)).2.imp id And.right)) (fun hc=>?_)
  refine aEF yM ?_
  refine aP (by first|exact .inl rfl|exact .inr rfl) rfl rfl _ _ bQ bP (⟨rfl,_,_,rfl,hc,rfl⟩)
end
end Go.Proofs.YtmmmfphealhapaaGreat
