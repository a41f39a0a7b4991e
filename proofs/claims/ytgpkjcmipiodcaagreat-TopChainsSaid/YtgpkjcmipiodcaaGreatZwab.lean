/- The rules of single operations, over any program. -/
import Derived.Test.YtgpkjcmipiodcaaGreatZwaa
import Derived.Laws.AppendOwn
import Derived.Below
set_option linter.unusedSimpArgs false
set_option linter.unusedVariables false
set_option maxRecDepth 100000
set_option maxHeartbeats 4000000
namespace Go.Fx
/- ---------- types, as instances that a seat's own text supplies ---------- -/
class SliceTy (P:Program) (t:TypeId) (e:outParam TypeId) (sz:outParam Nat):Prop where
 und:P.underlying t=some (.slice e)
 size:(P.info? e).map (·.size)=some sz
class ElemTy (P:Program) (e:TypeId) (sz:outParam Nat) (by_:outParam Nat) (z:outParam (List Value)):Prop where
 info:(P.info? e).map (fun i=>(i.size,i.bytes,i.zero.map (·.cells)))=some (sz,by_,some z.toArray)
 len:z.length=sz
class ScalarTy (P:Program) (t:TypeId):Prop where
 und:∃d,P.underlying t=some d∧(∀f,d≠ .struct f)∧(∀n e,d≠ .array n e)
 size:(P.info? t).map (·.size)=some 1
class AggTy (P:Program) (t:TypeId) (sz:outParam Nat):Prop where
 und:(∃f,P.underlying t=some (.struct f))∨(∃n e,P.underlying t=some (.array n e))
 size:(P.info? t).map (·.size)=some sz
class FieldAt (P:Program) (s:TypeId) (k:Nat) (off:outParam Nat) (ft:outParam TypeId) (sz:outParam Nat):Prop where
 und:∃fs f,P.underlying s=some (.struct fs)∧fs[k]?=some f∧f.offset=off∧f.type=ft
 size:(P.info? ft).map (·.size)=some sz
class StructTy (P:Program) (t:TypeId) (places:outParam (List (Nat × Nat))) (z:outParam (List Value)):Prop where
 und:∃fs,P.underlying t=some (.struct fs)∧fs.toList.map (fun f=>(f.offset,(P.info? f.type).map (·.size)))=places.map (fun p=>(p.1,some p.2))
 zero:(P.info? t).map (fun i=>i.zero.map (·.cells))=some (some z.toArray)
class ArrTy (P:Program) (t:TypeId) (len:outParam Nat) (e:outParam TypeId) (sz:outParam Nat):Prop where
 und:P.underlying t=some (.array len e)
 size:(P.info? e).map (·.size)=some sz
class IntTy (P:Program) (t:TypeId) (k:outParam IntKind):Prop where
 und:P.underlying t=some (.int k)
class StrTy (P:Program) (t:TypeId):Prop where
 und:P.underlying t=some .string
class BoolTy (P:Program) (t:TypeId):Prop where
 und:P.underlying t=some .bool
class FnOk (P:Program) (f:FuncId):Prop where
 ok:∃fn,P.funcs[f]?=some fn∧(fn.name== "runtime.NumGoroutine")=false∧fn.body.isNone=false
theorem run_sizeOf {P:Program} {e:TypeId} {sz:Nat} (h:(P.info? e).map (·.size)=some sz) (w:World):(sizeOf e).run P w= .ok sz w:=by
 obtain ⟨i,hi,rfl⟩:=Option.map_eq_some_iff.1 h
 simp [sizeOf,typeInfo,hi]
theorem dM {P:Program} {t:TypeId} {d:TypeDesc} (h:P.underlying t=some d) (w:World):(underlying t).run P w= .ok d w:=by
 simp [underlying,h]
/- ---------- arithmetic ---------- -/
theorem wrap_i64 {n:Int} (h: -9223372036854775808≤n∧n≤9223372036854775807):IntKind.i64.wrap n=n:=by
 obtain ⟨h1,h2⟩:=h
 simp only [IntKind.wrap,IntKind.bits,IntKind.signed,Bool.true_and,decide_eq_true_eq,Nat.reduceSub,Int.reducePow,ge_iff_le]
 split
 ·rename_i h;omega
 ·rename_i h;omega
theorem wrap_u64 {n:Int} (h:0≤n∧n≤18446744073709551615):IntKind.u64.wrap n=n:=by
 obtain ⟨h1,h2⟩:=h
 simp only [IntKind.wrap,IntKind.bits,IntKind.signed,Bool.false_and,Bool.false_eq_true,if_false]
 omega
theorem wrap_u32 {n:Int} (h:0≤n∧n≤4294967295):IntKind.u32.wrap n=n:=by
 obtain ⟨h1,h2⟩:=h
 simp only [IntKind.wrap,IntKind.bits,IntKind.signed,Bool.false_and,Bool.false_eq_true,if_false]
 omega
theorem wrap_u8 {n:Int} (h:0≤n∧n≤255):IntKind.u8.wrap n=n:=by
 obtain ⟨h1,h2⟩:=h
 simp only [IntKind.wrap,IntKind.bits,IntKind.signed,Bool.false_and,Bool.false_eq_true,if_false]
 omega
/- ---------- values that want no look at memory or types ---------- -/
def fP (op:BinOp) (a b:Int):Option Value:=
 match op with
 | .eql=>some (.bool (B (a=b)))
 | .neq=>some (.bool (B (a≠b)))
 | .lss=>some (.bool (B (a < b)))
 | .leq=>some (.bool (B (a≤b)))
 | .gtr=>some (.bool (B (b < a)))
 | .geq=>some (.bool (B (b≤a)))
 |_=>none
theorem aUR {P:Program} {w:World} {op:BinOp} {a b:Int} {v:Value} (h:fP op a b=some v):(Op.intCmp op a b).run P w= .ok v w∧(op≠ .add∧op≠ .sub∧op≠ .mul∧op≠ .quo∧op≠ .rem∧op≠ .and∧op≠ .or∧op≠ .xor∧op≠ .andNot∧op≠ .shl∧op≠ .shr):=by
 cases op <;>simp only [fP,Option.some.injEq,reduceCtorEq] at h <;>subst h <;>refine ⟨?_,by simp⟩ <;>simp only [Op.intCmp,Sem.run_pure,rZ]
 ·rfl
 ·congr 2
  simp [bne,Bool.beq_eq_decide_eq]
def evs (G:Env):List Operand→Option (List Value)
 |[]=>some []
 |x::r=>match ev G x with
  |some v=>(evs G r).map (v:: ·)
  |none=>none
def aNG:IntKind→IntKind→Bool
 | .i8, .i8| .i16, .i16| .i32, .i32| .i64, .i64| .u8, .u8| .u16, .u16| .u32, .u32| .u64, .u64=>true
 |_,_=>false
theorem aSX {k k':IntKind} (h:aNG k k'=true):k=k':=by cases k <;>cases k' <;>simp_all [aNG]
def aBK (G:Env):Op→Option Value
 | .move x=>ev G x
 | .assign x=>ev G x
 | .pick c a b=>match ev G c with
  |some (.bool true)=>ev G a
  |some (.bool false)=>ev G b
  |_=>none
 | .binOp op _ x y _=>match ev G x,ev G y with
  |some (.int k a),some (.int k' b)=>bif aNG k k' then fP op a b else none
  |_,_=>none
 | .unOp op _ x=>match op,ev G x with
  | .not,some (.bool b)=>some (.bool (!b))
  |_,_=>none
 | .extract t i=>match ev G t with
  |some (.tuple vs)=>vs.toList[i]?
  |_=>none
 | .makeFunc fn f c=>match evs G f.toList,evs G c.toList with
  |some fs,some cs=>some (.func fn fs.toArray cs.toArray)
  |_,_=>none
 |_=>none
theorem Has.evs {n:Nat} {G:Env} {a:Act} (h:Has n G a):∀{l:List Operand} {vs:List Value},Fx.evs G l=some vs→l.map a.eval=vs
 |[],vs,hv=>by simp [Fx.evs] at hv;simp [hv]
 |x::r,vs,hv=>by
  simp only [Fx.evs] at hv
  cases hx:Fx.ev G x with
  |none=>simp [hx] at hv
  |some v=>
   simp only [hx] at hv
   cases hr:Fx.evs G r with
   |none=>simp [hr] at hv
   |some us=>
    simp [hr] at hv
    subst hv
    simp [h.ev hx,h.evs hr]
section
variable {P:Program} {n:Nat} {G:Env} {ty:TypeId} {C:World→Prop}
theorem bP {op:Op} {v:Value} (h:aBK G op=some v):Const P n G op ty C v:=by
 refine ⟨?_⟩
 intro a ha dst pos after guard w _
 cases op
 case move x=>simp [execOp,ha.ev h]
 case assign x=>simp [execOp,ha.ev h]
 case pick c x y=>
  simp only [aBK] at h
  cases hc:ev G c with
  |none=>simp [hc] at h
  |some vc=>
   cases vc with
   |bool b=>cases b <;>simp only [hc] at h <;>simp [execOp,ha.ev hc,ha.ev h,asBool]
   |_=>simp [hc] at h
 case binOp op t x y t'=>
  simp only [aBK] at h
  cases hx:ev G x with
  |none=>simp [hx] at h
  |some vx=>
   cases vx with
   |int k p=>
    cases hy:ev G y with
    |none=>simp [hx,hy] at h
    |some vy=>
     cases vy with
     |int k' q=>
      simp only [hx,hy] at h
      cases hk:aNG k k' with
      |false=>simp [hk] at h
      |true=>
       have:=aSX hk
       subst this
       simp only [hk,cond_true] at h
       obtain ⟨hr,hne⟩:=aUR (P:=P) (w:=w) h
       cases op <;>simp_all [execOp,ha.ev hx,ha.ev hy,eqGuard,binOp]
     |_=>simp [hx,hy] at h
   |_=>simp [hx] at h
 case unOp op t x=>
  simp only [aBK] at h
  cases hx:ev G x with
  |none=>cases op <;>simp [hx] at h
  |some vx=>
   cases op with
   |not=>cases vx with
    |bool b=>simp [hx] at h;subst h;simp [execOp,ha.ev hx,Op.unary]
    |_=>simp [hx] at h
   |_=>cases vx <;>simp [hx] at h
 case extract t i=>
  simp only [aBK] at h
  cases ht:ev G t with
  |none=>simp [ht] at h
  |some vt=>
   cases vt with
   |tuple vs=>
    have h':vs[i]?=some v:=by simpa [ht] using h
    simp [execOp,ha.ev ht,Instr.extract,h']
   |_=>simp [ht] at h
 case makeFunc fn f c=>
  simp only [aBK] at h
  cases hf:evs G f.toList with
  |none=>simp [hf] at h
  |some fs=>
   cases hc:evs G c.toList with
   |none=>simp [hf,hc] at h
   |some cs=>
    simp [hf,hc] at h
    subst h
    have e1:f.map a.eval=fs.toArray:=by
     apply Array.ext';simp [ha.evs hf]
    have e2:c.map a.eval=cs.toArray:=by
     apply Array.ext';simp [ha.evs hc]
    simp [execOp,Instr.makeFunc,e1,e2]
 all_goals (simp [aBK] at h)
theorem wK {op:BinOp} {t t':TypeId} {x y:Operand} {k:IntKind} {a b c:Int} (hx:ev G x=some (.int k a)) (hy:ev G y=some (.int k b))
  (h:(op= .add∧k.wrap (a+b)=c)∨(op= .sub∧k.wrap (a - b)=c)∨(op= .mul∧k.wrap (a*b)=c)):Const P n G (.binOp op t x y t') ty C (.int k c):=by
 refine ⟨?_⟩
 intro s ha dst pos after guard w _
 rcases h with ⟨rfl,rfl⟩|⟨rfl,rfl⟩|⟨rfl,rfl⟩ <;>simp [execOp,ha.ev hx,ha.ev hy,eqGuard,binOp,Op.intArith]
theorem dF {t t':TypeId} {x y:Operand} {k:IntKind} {a b c:Int} (hx:ev G x=some (.int k a)) (hy:ev G y=some (.int k b)) (h:k.wrap (a+b)=c):
  Const P n G (.binOp .add t x y t') ty C (.int k c):=wK hx hy (.inl ⟨rfl,h⟩)
theorem dG {t t':TypeId} {x y:Operand} {k:IntKind} {a b c:Int} (hx:ev G x=some (.int k a)) (hy:ev G y=some (.int k b)) (h:k.wrap (a - b)=c):
  Const P n G (.binOp .sub t x y t') ty C (.int k c):=wK hx hy (.inr (.inl ⟨rfl,h⟩))
theorem gZ {t t':TypeId} {x y:Operand} {k:IntKind} {a b c:Int} (hx:ev G x=some (.int k a)) (hy:ev G y=some (.int k b)) (h:k.wrap (a*b)=c):
  Const P n G (.binOp .mul t x y t') ty C (.int k c):=wK hx hy (.inr (.inr ⟨rfl,h⟩))
theorem gJ {t:TypeId} {x:Operand} {k:IntKind} {a c:Int} (hx:ev G x=some (.int k a)) (h:k.wrap (0 - a)=c):Const P n G (.unOp .neg t x) ty C (.int k c):=by
 refine ⟨?_⟩
 intro s ha dst pos after guard w _
 subst h
 simp [execOp,ha.ev hx,Op.unary,Op.intArith]
theorem gX {t t':TypeId} {x y:Operand} {k:IntKind} {a b c:Int} (hx:ev G x=some (.int k a)) (hy:ev G y=some (.int k b)) (hb:b≠0) (h:k.wrap (a.tdiv b)=c):
  Const P n G (.binOp .quo t x y t') ty C (.int k c):=by
 refine ⟨?_⟩
 intro s ha dst pos after guard w _
 subst h
 simp [execOp,ha.ev hx,ha.ev hy,eqGuard,binOp,Op.intDiv,hb]
theorem gY {t t':TypeId} {x y:Operand} {k:IntKind} {a b c:Int} (hx:ev G x=some (.int k a)) (hy:ev G y=some (.int k b)) (hb:b≠0) (h:a.tmod b=c):
  Const P n G (.binOp .rem t x y t') ty C (.int k c):=by
 refine ⟨?_⟩
 intro s ha dst pos after guard w _
 subst h
 simp [execOp,ha.ev hx,ha.ev hy,eqGuard,binOp,Op.intDiv,hb]
theorem aJB {op:BinOp} {t t':TypeId} {x y:Operand} {k k':IntKind} {a b c:Int} (hx:ev G x=some (.int k a)) (hy:ev G y=some (.int k' b))
  (hb:0≤b) (h:(op= .shl∧k.wrap (a*2 ^ (min b.toNat k.bits))=c)∨(op= .shr∧a.fdiv (2 ^ (min b.toNat k.bits))=c)):Const P n G (.binOp op t x y t') ty C (.int k c):=by
 refine ⟨?_⟩
 intro s ha dst pos after guard w _
 have:¬b < 0:=by omega
 rcases h with ⟨rfl,rfl⟩|⟨rfl,rfl⟩ <;>simp [execOp,ha.ev hx,ha.ev hy,eqGuard,binOp,Op.shift,this]
theorem fB {s t:TypeId} {x:Operand} {k j:IntKind} {a c:Int} [hs:IntTy P s j] [ht:IntTy P t k] (hx:ev G x=some (.int j a)) (h:k.wrap a=c):Const P n G (.convert s t x) ty C (.int k c):=by
 refine ⟨?_⟩
 intro st ha dst pos after guard w _
 subst h
 simp [execOp,ha.ev hx,convert,dM hs.und,dM ht.und,Conv.intToInt]
theorem aQY {x y:Operand} {k:IntKind} {a b:Int} {at_:Array TypeId} (hx:ev G x=some (.int k a)) (hy:ev G y=some (.int k b)):
  Const P n G (.call {callee:= .builtin .min,args:=#[x,y],argTypes:=at_}) ty C (.int k (if b < a then b else a)):=by
 refine ⟨?_⟩
 intro s ha dst pos after guard w _
 simp [execOp,resolve,invoke,builtin,Builtin.min_,Builtin.min2,ha.ev hx,ha.ev hy]
theorem aQC {x y:Operand} {k:IntKind} {a b:Int} {at_:Array TypeId} (hx:ev G x=some (.int k a)) (hy:ev G y=some (.int k b)):
  Const P n G (.call {callee:= .builtin .max,args:=#[x,y],argTypes:=at_}) ty C (.int k (if a < b then b else a)):=by
 refine ⟨?_⟩
 intro s ha dst pos after guard w _
 simp [execOp,resolve,invoke,builtin,Builtin.max_,Builtin.max2,ha.ev hx,ha.ev hy]
theorem dE {x:Operand} {t e:TypeId} {sz:Nat} [ht:SliceTy P t e sz] {p:Option Addr} {l c:Nat} (hx:ev G x=some (.slice p l c)):
  Const P n G (.call {callee:= .builtin .len,args:=#[x],argTypes:=#[t]}) ty C (.int .i64 l):=by
 refine ⟨?_⟩
 intro s ha dst pos after guard w _
 simp [execOp,resolve,invoke,builtin,Builtin.len_,ha.ev hx,dM ht.und,goInt]
/- ---------- addresses ---------- -/
def bl (a:Option Addr):Nat:=(a.getD default).block
def of (a:Option Addr):Nat:=(a.getD default).off
def pt (a:Option Addr) (k:Nat):Addr:=⟨bl a,of a+k,none⟩
def Ok (a:Option Addr):Prop:=a=some ⟨bl a,of a,none⟩
theorem Ok.mk (b o:Nat):Ok (some ⟨b,o,none⟩):=rfl
theorem Ok.cases {a:Option Addr} (h:Ok a):∃b o,a=some ⟨b,o,none⟩:=⟨_,_,h⟩
theorem add_lit (b o k:Nat):(⟨b,o,none⟩:Addr).add k=⟨b,o+k,none⟩:=by unfold Addr.add;split <;>simp_all
theorem vE {t e:TypeId} {sz:Nat} {x ix:Operand} {a:Option Addr} {len c:Nat} {k:IntKind} {i:Int} [ht:SliceTy P t e sz]
  (hx:ev G x=some (.slice a len c)) (hi:ev G ix=some (.int k i)) (h:0≤i∧i < len) (hok:Ok a):
  Const P n G (.indexAddr t x ix) ty C (.pointer (some (pt a (i.toNat*sz)))):=by
 refine ⟨?_⟩
 intro s ha dst pos after guard w _
 obtain ⟨b,o,rfl⟩:=hok.cases
 simp [execOp,Instr.indexAt,ha.ev hx,ha.ev hi,asIntOf,dM ht.und,run_sizeOf ht.size,h.1,h.2,add_lit,pt,bl,of]
theorem dV {t e:TypeId} {sz len:Nat} {x ix:Operand} {b o:Nat} {k:IntKind} {i:Int} [ht:ArrTy P t len e sz]
  (hx:ev G x=some (.pointer (some ⟨b,o,none⟩))) (hi:ev G ix=some (.int k i)) (h:0≤i∧i < len):
  Const P n G (.indexAddr t x ix) ty C (.pointer (some ⟨b,o+i.toNat*sz,none⟩)):=by
 refine ⟨?_⟩
 intro s ha dst pos after guard w _
 simp [execOp,Instr.indexAt,ha.ev hx,ha.ev hi,asIntOf,dM ht.und,run_sizeOf ht.size,h.1,h.2,add_lit,Instr.sureAddr]
theorem zY {s ft:TypeId} {k off sz:Nat} {x:Operand} {b o:Nat} [ht:FieldAt P s k off ft sz]
  (hx:ev G x=some (.pointer (some ⟨b,o,none⟩))) (hs:sz≠0):Const P n G (.fieldAddr s x k) ty C (.pointer (some ⟨b,o+off,none⟩)):=by
 refine ⟨?_⟩
 intro st ha dst pos after guard w _
 obtain ⟨fs,f,h1,h2,rfl,rfl⟩:=ht.und
 simp [execOp,Instr.fieldAt,ha.ev hx,dM h1,h2,Instr.sureAddr,fieldPlace,run_sizeOf ht.size,hs,add_lit]
theorem fA {x:Operand} {b o:Nat} (hx:ev G x=some (.pointer (some ⟨b,o,none⟩))):Const P n G (.nilCheck x) ty C (.pointer (some ⟨b,o,none⟩)):=by
 refine ⟨?_⟩
 intro s ha dst pos after guard w _
 simp [execOp,ha.ev hx]
theorem kZ {t:TypeId} [ht:ScalarTy P t] (w:World):(isAgg t).run P w= .ok false w:=by
 obtain ⟨d,h,h1,h2⟩:=ht.und
 unfold isAgg
 rw [Sem.run_bind,dM h]
 cases d <;>first|rfl|exact absurd rfl (h1 _)|exact absurd rfl (h2 _ _)
theorem jS {t:TypeId} {sz:Nat} [ht:AggTy P t sz] (w:World):(isAgg t).run P w= .ok true w:=by
 rcases ht.und with ⟨f,h⟩|⟨m,e,h⟩ <;>simp [isAgg,dM h]
theorem uM {t:TypeId} {x:Operand} {a:Addr} {v:Value} [ScalarTy P t] (hx:ev G x=some (.pointer (some a))) (hc:∀w,C w→w.cell? a=some v):
  Const P n G (.load t x) ty C v:=by
 refine ⟨?_⟩
 intro s ha dst pos after guard w hw
 simp [execOp,Instr.loadAt,ha.ev hx,Instr.sureAddr,loadVar,kZ,hc w hw]
def Row (w:World) (b o:Nat) (vs:List Value):Prop:=∀j v,vs[j]?=some v→w.cell? ⟨b,o+j,none⟩=some v
theorem run_loadCellsFrom {b o:Nat} {w:World} (vs:List Value) (h:Row w b o vs):∀(m i:Nat) (acc:Array Value),i+m=vs.length→acc.toList=vs.take i→
  (loadCellsFrom ⟨b,o,none⟩ i m acc).run P w= .ok vs.toArray w
 |0,i,acc,hl,ha=>by
  have:acc=vs.toArray:=by apply Array.ext';rw [ha,List.take_of_length_le (by omega)]
  simp [loadCellsFrom,this]
 |m+1,i,acc,hl,ha=>by
  have hi:i < vs.length:=by omega
  have h1:=h i vs[i] (by simp [hi])
  simp only [loadCellsFrom,Sem.run_bind,add_lit,run_load,h1,Result.andThen_ok]
  exact run_loadCellsFrom vs h m (i+1) _ (by omega) (by rw [Array.toList_push,ha,List.take_succ_eq_append_getElem hi])
theorem sH {t:TypeId} {sz:Nat} {x:Operand} {b o:Nat} {vs:List Value} [ht:AggTy P t sz] (hx:ev G x=some (.pointer (some ⟨b,o,none⟩))) (hl:vs.length=sz)
  (hc:∀w,C w→Row w b o vs):Const P n G (.load t x) ty C (.agg vs.toArray):=by
 refine ⟨?_⟩
 intro s ha dst pos after guard w hw
 have:=run_loadCellsFrom (P:=P) vs (hc w hw) sz 0 #[] (by omega) rfl
 simp [execOp,Instr.loadAt,ha.ev hx,Instr.sureAddr,loadVar,jS,run_sizeOf ht.size,loadCells,this]
theorem dW {s ft:TypeId} {k off sz:Nat} {x:Operand} {cs:List Value} {v:Value} [ht:FieldAt P s k off ft sz] [ScalarTy P ft]
  (hx:ev G x=some (.agg cs.toArray)) (hv:cs[off]?=some v):Const P n G (.field s x k) ty C v:=by
 refine ⟨?_⟩
 intro st ha dst pos after guard w _
 obtain ⟨fs,f,h1,h2,rfl,rfl⟩:=ht.und
 simp [execOp,Instr.field,ha.ev hx,dM h1,h2,asAgg,part,kZ,hv]
theorem dJ {s ft:TypeId} {k off sz sz':Nat} {x:Operand} {cs:List Value} [ht:FieldAt P s k off ft sz] [AggTy P ft sz']
  (hx:ev G x=some (.agg cs.toArray)):Const P n G (.field s x k) ty C (.agg ((cs.drop off).take sz).toArray):=by
 refine ⟨?_⟩
 intro st ha dst pos after guard w _
 obtain ⟨fs,f,h1,h2,rfl,rfl⟩:=ht.und
 have e:(cs.take (f.offset+sz)).drop f.offset=(cs.drop f.offset).take sz:=by
  rw [List.drop_take];congr 1;omega
 simp [execOp,Instr.field,ha.ev hx,dM h1,h2,asAgg,part,jS,run_sizeOf ht.size,List.extract_eq_take_drop]
theorem aIY {t e:TypeId} {sz:Nat} {x:Operand} {lo hi:Option Operand} {a:Option Addr} {len c l h:Nat} [ht:SliceTy P t e sz]
  (hx:ev G x=some (.slice a len c))
  (hl:(lo=none∧l=0)∨∃y k,lo=some y∧ev G y=some (.int k (l:Int)))
  (hh:(hi=none∧h=len)∨∃y k,hi=some y∧ev G y=some (.int k (h:Int)))
  (h1:l≤h) (h2:h≤c):
  Const P n G (.slice t x lo hi none) ty C (.slice (if c=l then a else a.map (·.add (l*sz))) (h - l) (c - l)):=by
 refine ⟨?_⟩
 intro st ha dst pos after guard w _
 have h3:l≤c:=by omega
 rcases hl with ⟨rfl,rfl⟩|⟨y,k,rfl,hy⟩
 ·rcases hh with ⟨rfl,rfl⟩|⟨y',k',rfl,hy'⟩
  ·simp [execOp,Instr.sliceAt,Instr.slice,ha.ev hx,dM ht.und,run_sizeOf ht.size,Instr.sliceBounds]
  ·simp [execOp,Instr.sliceAt,Instr.slice,ha.ev hx,dM ht.und,run_sizeOf ht.size,Instr.sliceBounds,Instr.sliceBound,asIntOf,ha.ev hy',h2]
 ·rcases hh with ⟨rfl,rfl⟩|⟨y',k',rfl,hy'⟩
  ·simp [execOp,Instr.sliceAt,Instr.slice,ha.ev hx,dM ht.und,run_sizeOf ht.size,Instr.sliceBounds,Instr.sliceBound,asIntOf,ha.ev hy,h1]
  ·simp [execOp,Instr.sliceAt,Instr.slice,ha.ev hx,dM ht.und,run_sizeOf ht.size,Instr.sliceBounds,Instr.sliceBound,asIntOf,ha.ev hy,ha.ev hy',h1,h2]
end
end Go.Fx
namespace Go.Fx
/- ---------- growth ---------- -/
structure Ext (X:List Nat) (w w':World):Prop where
 os:w'.os=w.os
 tape:w'.tape=w.tape
 output:w'.output=w.output
 size:w.heap.size≤w'.heap.size
 block:∀k,k < w.heap.size→k ∉ X→w'.heap[k]?=w.heap[k]?
theorem Ext.refl (X:List Nat) (w:World):Ext X w w:=⟨rfl,rfl,rfl,Nat.le_refl _,fun _ _ _=>rfl⟩
theorem Ext.trans {X:List Nat} {a b c:World} (h:Ext X a b) (k:Ext X b c):Ext X a c:=
 ⟨k.os.trans h.os,k.tape.trans h.tape,k.output.trans h.output,Nat.le_trans h.size k.size,fun i hi hx=>(k.block i (Nat.lt_of_lt_of_le hi h.size) hx).trans (h.block i hi hx)⟩
theorem Ext.weaken {X Y:List Nat} {w w':World} (h:Ext X w w') (hs:∀k∈X,k∈Y):Ext Y w w':=
 ⟨h.os,h.tape,h.output,h.size,fun k hk hy=>h.block k hk (fun hx=>hy (hs k hx))⟩
theorem Ext.of_nil {Y:List Nat} {w w':World} (h:Ext [] w w'):Ext Y w w':=h.weaken (fun k hk=>by simp at hk)
theorem Ext.drew (X:List Nat) (w:World):Ext X w w.drew:=⟨rfl,rfl,rfl,Nat.le_refl _,fun _ _ _=>rfl⟩
theorem Ext.alloc (X:List Nat) (w:World) (o:Obj):Ext X w (w.alloc o):=
 ⟨rfl,rfl,rfl,by simp,fun k hk _=>Go.RowKit.Below.heap_alloc _ _ _ hk⟩
theorem Ext.setCell {X:List Nat} {w:World} {p:Addr} (hp:p.block∈X) (v:Value):Ext X w (w.setCell p v):=
 ⟨rfl,rfl,rfl,by simp,fun k _ hx=>Go.RowKit.Below.heap_setCell _ _ _ _ (fun e=>hx (e ▸ hp))⟩
theorem Ext.cell {X:List Nat} {w w':World} (h:Ext X w w') {p:Addr} {v:Value} (hc:w.cell? p=some v) (hx:p.block ∉ X):w'.cell? p=some v:=
 (World.cell?_of_block (h.block p.block (World.block_lt_of_cell? w p hc) hx)).trans hc
theorem Ext.below {w w':World} (h:Ext [] w w'):Go.RowKit.Below w.heap.size w w':=
 ⟨h.os,h.tape,h.output,h.size,fun k hk=>h.block k hk (by simp)⟩
/- ---------- slices ---------- -/
def Sl (X:List Nat) (w:World) (a:Option Addr) (cs:List Value):Prop:=
 ∀j v,cs[j]?=some v→Ok a∧bl a ∉ X∧w.cell? (pt a j)=some v
theorem Sl.nil (X:List Nat) (w:World) (a:Option Addr):Sl X w a []:=fun j v h=>by simp at h
theorem Sl.mono {X:List Nat} {w w':World} {a:Option Addr} {cs:List Value} (h:Sl X w a cs) (he:Ext X w w'):Sl X w' a cs:=fun j v hj=>
 let ⟨h1,h2,h3⟩:=h j v hj
 ⟨h1,h2,he.cell h3 h2⟩
theorem Sl.ok {X:List Nat} {w:World} {a:Option Addr} {cs:List Value} (h:Sl X w a cs) (hl:0 < cs.length):Ok a:=
 (h 0 cs[0] (by simp [hl])).1
theorem Sl.less {X Y:List Nat} {w:World} {a:Option Addr} {cs:List Value} (h:Sl X w a cs) (hs:∀k∈Y,k∈X):Sl Y w a cs:=fun j v hj=>
 let ⟨h1,h2,h3⟩:=h j v hj
 ⟨h1,fun hy=>h2 (hs _ hy),h3⟩
theorem Sl.more {X Y:List Nat} {w:World} {a:Option Addr} {cs:List Value} (h:Sl X w a cs) (hs:∀k∈Y,k∈X∨w.heap.size≤k):Sl Y w a cs:=fun j v hj=>by
 obtain ⟨h1,h2,h3⟩:=h j v hj
 refine ⟨h1,fun hy=>?_,h3⟩
 rcases hs _ hy with hx|hx
 ·exact h2 hx
 ·have:=World.block_lt_of_cell? w _ h3
  simp only [pt] at this
  omega
theorem Sl.cell {X:List Nat} {w:World} {a:Option Addr} {cs:List Value} (h:Sl X w a cs) {j:Nat} {v:Value} (hj:cs[j]?=some v):w.cell? (pt a j)=some v:=(h j v hj).2.2
theorem Ok.add {a:Option Addr} (h:Ok a) (j:Nat):Ok (a.map (·.add j)):=by
 obtain ⟨b,o,rfl⟩:=h.cases
 simp [add_lit,Ok.mk]
theorem Sl.drop {X:List Nat} {w:World} {a:Option Addr} {cs:List Value} (h:Sl X w a cs) (k:Nat):Sl X w (a.map (·.add k)) (cs.drop k):=fun j v hj=>by
 rw [List.getElem?_drop] at hj
 obtain ⟨h1,h2,h3⟩:=h _ v hj
 obtain ⟨b,o,rfl⟩:=h1.cases
 refine ⟨h1.add k,?_,?_⟩
 ·simpa [bl,add_lit] using h2
 ·simpa [pt,bl,of,add_lit,Nat.add_assoc] using h3
theorem Sl.take {X:List Nat} {w:World} {a:Option Addr} {cs:List Value} (h:Sl X w a cs) (k:Nat):Sl X w a (cs.take k):=fun j v hj=>by
 rw [List.getElem?_take] at hj
 split at hj
 ·exact h j v hj
 ·cases hj
def aET (a:Option Addr) (c l sz:Nat):Option Addr:=if c=l then a else a.map (·.add (l*sz))
theorem Sl.cut {X:List Nat} {w:World} {a:Option Addr} {cs:List Value} (h:Sl X w a cs) (c l m sz:Nat) (hc:cs.length≤c*sz):Sl X w (aET a c l sz) ((cs.take m).drop (l*sz)):=by
 unfold aET
 split
 ·rename_i e
  subst e
  have:(cs.take m).drop (c*sz)=[]:=by
   apply List.drop_eq_nil_of_le
   simp;omega
  rw [this]
  exact Sl.nil _ _ _
 ·exact (h.take m).drop _
def Ints (X:List Nat) (w:World) (k:IntKind) (a:Option Addr) (xs:List Int):Prop:=Sl X w a (xs.map (Value.int k))
theorem Ints.cell {X:List Nat} {w:World} {k:IntKind} {a:Option Addr} {xs:List Int} (h:Ints X w k a xs) {i:Nat} (hi:i < xs.length):w.cell? (pt a (i*1))=some (.int k (xs.getD i 0)):=by
 refine Sl.cell h ?_
 simp [List.getD,hi]
theorem Ints.ok {X:List Nat} {w:World} {k:IntKind} {a:Option Addr} {xs:List Int} (h:Ints X w k a xs) (hl:0 < xs.length):Ok a:=Sl.ok h (by simpa using hl)
theorem Ints.mono {X:List Nat} {w w':World} {k:IntKind} {a:Option Addr} {xs:List Int} (h:Ints X w k a xs) (he:Ext X w w'):Ints X w' k a xs:=Sl.mono h he
/- ---------- facts of cells, in either mode ---------- -/
/- ---------- calls ---------- -/
def Ret (P:Program) (f:FuncId) (args:List Value) (w:World) (K:Value→World→Prop):Prop:=
 Calls P f args.toArray w (fun e w'=>∃v,e= .returned v∧K v w')
theorem Ret.mono {P:Program} {f:FuncId} {args:List Value} {w:World} {K K':Value→World→Prop} (h:Ret P f args w K) (hk:∀v w',K v w'→K' v w'):Ret P f args w K':=
 Calls.mono h fun _ _ ⟨v,e,h⟩=>⟨v,e,hk v _ h⟩
section
variable {P:Program} {n:Nat} {G:Env} {ty:TypeId} {w:World}
theorem aFY {g:Operand} {f:FuncId} {fs cs:Array Value} {xs:List Operand} {vs:List Value} {at_:Array TypeId} {K:Value→World→Prop} [hf:FnOk P f]
  (hg:ev G g=some (.func (.func f) fs cs)) (hx:evs G xs=some vs) (h:Ret P f (fs.toList++vs++cs.toList) w K):
  Eff P n G (.call {callee:= .value g,args:=xs.toArray,argTypes:=at_}) ty w K:=by
 refine ⟨?_⟩
 intro a ha dst pos after guard
 obtain ⟨fn,h1,h2,h3⟩:=hf.ok
 have e:xs.map a.eval=vs:=ha.evs hx
 unfold Oper.wp
 simp only [execOp,resolve,ha.ev hg,Deferred.ofValue,invoke,callFunc,List.map_toArray,e,Sem.run_bind,Sem.run_pure,Result.andThen_ok,run_program,h1,h2,h3]
 simp only [Bool.false_eq_true,if_false,Sem.run_pure,Oper.upon]
 have e2:fs++vs.toArray++cs=(fs.toList++vs++cs.toList).toArray:=by apply Array.ext';simp
 rw [e2]
 refine Calls.mono h ?_
 rintro e w' ⟨v,rfl,hk⟩
 exact ⟨v,hk,rfl⟩
theorem wS {f:FuncId} {xs:List Operand} {vs:List Value} {at_:Array TypeId} {K:Value→World→Prop} [hf:FnOk P f]
  (hx:evs G xs=some vs) (h:Ret P f vs w K):
  Eff P n G (.call {callee:= .value (.func f),args:=xs.toArray,argTypes:=at_}) ty w K:=
 aFY (fs:=#[]) (cs:=#[]) rfl hx (by simpa using h)
@[irreducible] def Body (P:Program) (fn:Func) (K:Value→World→Prop):Exit→Act→World→Prop:=bodyPost P fn (fun e w'=>∃v,e= .returned v∧K v w')
def aPJ:List Value→Nat→Env
 |[],_=>[]
 |v::r,k=>(k,v)::aPJ r (k+1)
theorem aND:∀(vs:List Value) (k t:Nat) (v:Value),lk (aPJ vs k) t=some v→k≤t∧vs[t - k]?=some v
 |[],_,_,_,h=>by simp [aPJ,lk] at h
 |u::r,k,t,v,h=>by
  simp only [aPJ,lk] at h
  cases hb:Nat.beq k t with
  |true=>
   simp [hb] at h
   have:=Nat.eq_of_beq_eq_true hb
   subst this;subst h
   simp
  |false=>
   simp [hb] at h
   obtain ⟨h1,h2⟩:=aND r (k+1) t v h
   refine ⟨by omega,?_⟩
   have:t - k=(t - (k+1))+1:=by omega
   rw [this]
   simpa using h2
theorem enter {f:FuncId} {fn:Func} {c:Code} {vs:List Value} {K:Value→World→Prop} (hf:P.funcs[f]?=some fn) (hb:fn.body=some c) (hn:fn.ntmps=n) (hl:Nat.ble vs.length n=true)
  (h:T P n c (Body P fn K) (aPJ vs 0) w):Ret P f vs w K:=by
 unfold Body at h
 refine calls_of_wp hf hb (h.go _ ⟨?_,rfl,fun t v hv=>?_⟩)
 ·have:=Nat.le_of_ble_eq_true hl
  simp [hn];omega
 ·obtain ⟨_,h2⟩:=aND vs 0 t v hv
  have hlt:t < vs.length:=by
   have:=(List.getElem?_eq_some_iff.1 h2).1;omega
  simp [Array.getElem?_append,hlt] at h2 ⊢
  exact h2
theorem aZQ {fn:Func} {K:Value→World→Prop} {e:Exit} (he:e= .ret∨e= .normal) (hr:fn.results=#[]) (h:K (.tuple #[]) w):
  N n (Body P fn K) e G w:=⟨fun a ha=>by
 unfold Body
 rcases he with rfl|rfl <;>exact ⟨ha.defers,_,results_none hr _ _ _,_,rfl,h⟩⟩
theorem vC {fn:Func} {K:Value→World→Prop} {t:Nat} {v:Value} {e:Exit} (he:e= .ret∨e= .normal) (hr:fn.results=#[.tmp t]) (hv:lk G t=some v) (h:K v w):
  N n (Body P fn K) e G w:=⟨fun a ha=>by
 unfold Body
 have e1:a.tmps.getD t undef=v:=by simp [ha.get t v hv]
 rcases he with rfl|rfl <;>exact ⟨ha.defers,_,results_tmp hr _ _ _,_,rfl,e1 ▸ h⟩⟩
def lks (G:Env):List Nat→Option (List Value)
 |[]=>some []
 |t::r=>match lk G t with
  |some v=>(lks G r).map (v:: ·)
  |none=>none
theorem Has.lks {a:Act} (ha:Has n G a):∀{l:List Nat} {vs:List Value},Fx.lks G l=some vs→l.map (fun t=>a.tmps.getD t undef)=vs:=by
 intro l
 induction l with
 |nil=>intro vs h;simp [Fx.lks] at h;simp [h]
 |cons t l ih=>
  intro vs h
  simp only [Fx.lks] at h
  cases hv:lk G t with
  |none=>simp [hv] at h
  |some v=>
   simp only [hv] at h
   cases hr:Fx.lks G l with
   |none=>simp [hr] at h
   |some us=>
    simp [hr] at h
    subst h
    simp only [List.map_cons,ih hr]
    simp [ha.get t v hv]
theorem aJY (P:Program) (tmps:Array Value) (w:World) (ts:List Nat):((ts.map ResultVar.tmp).toArray.mapM fun
  |ResultVar.tmp t=>(pure (tmps.getD t undef):Sem Value)
  |ResultVar.cell a t=>do loadVar t (←asAddr (tmps.getD a undef))).run P w=Result.ok (ts.map (fun t=>tmps.getD t undef)).toArray w:=by
 rw [List.mapM_toArray]
 simp only [Sem.run_map]
 have:∀(l:List Nat),(List.mapM (m:=Sem) (fun
  |ResultVar.tmp t=>(pure (tmps.getD t undef):Sem Value)
  |ResultVar.cell a t=>do loadVar t (←asAddr (tmps.getD a undef))) (l.map ResultVar.tmp)).run P w=Result.ok (l.map (fun t=>tmps.getD t undef)) w:=by
  intro l
  induction l with
  |nil=>rfl
  |cons t l ih=>
   simp only [List.map_cons,List.mapM_cons,Sem.run_bind,Sem.run_pure,Result.andThen_ok,ih]
 rw [this]
 rfl
theorem bAL {fn:Func} {K:Value→World→Prop} {ts:List Nat} {vs:List Value} {e:Exit} (he:e= .ret∨e= .normal) (hr:fn.results=(ts.map ResultVar.tmp).toArray) (hv:lks G ts=some vs) (hl:Nat.beq vs.length 1=false) (h:K (.tuple vs.toArray) w):
  N n (Body P fn K) e G w:=⟨fun a ha=>by
 unfold Body
 have e1:=ha.lks hv
 have e2:(results fn a.tmps).run P w= .ok (.tuple vs.toArray) w:=by
  have hne:¬vs.length=1:=by intro e;simp [e] at hl
  unfold results
  rw [hr,Sem.run_bind]
  have:=aJY P a.tmps w ts
  rw [e1] at this
  refine (congrArg (fun r=>Result.andThen r fun a w'=>Sem.run P (pure (if h:a.size=1 then a[0] else Value.tuple a)) w') this).trans ?_
  simp [hne]
 rcases he with rfl|rfl <;>exact ⟨ha.defers,_,e2,_,rfl,h⟩⟩
end
end Go.Fx
