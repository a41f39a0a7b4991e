/- A layer of my own over the walk's rules: frames as lists of live slots, worlds as variable -/
import Derived.Orders
import Derived.Laws.Sem
import Derived.Laws.World
import Derived.Laws.Cells
import Derived.Tactics
import Derived.Laws.AppendOwn
import Derived.Below
set_option linter.unusedSimpArgs false
set_option linter.unusedVariables false
set_option maxRecDepth 100000
set_option maxHeartbeats 4000000
namespace Go.Fx
/- ---------- frames ---------- -/
abbrev Env:=List (Nat × Value)
def lk:Env→Nat→Option Value
 |[],_=>none
 |(t,v)::r,s=>bif Nat.beq t s then some v else lk r s
structure Has (n:Nat) (G:Env) (a:Act):Prop where
 size:a.tmps.size=n
 defers:a.defers=[]
 get:∀t v,lk G t=some v→a.tmps[t]?=some v
def ev (G:Env):Operand→Option Value
 | .tmp t=>lk G t
 | .const v=>some v
 | .global g=>some (.pointer (some ⟨g,0,none⟩))
 | .func f=>some (.func (.func f) #[] #[])
theorem Has.ev {n:Nat} {G:Env} {a:Act} (h:Has n G a) {x:Operand} {v:Value} (hx:Fx.ev G x=some v):a.eval x=v:=by
 cases x with
 |tmp t=>
  have:=h.get t v hx
  simp [Act.eval,this]
 |const c=>simpa [Fx.ev,Act.eval] using hx
 |global g=>simpa [Fx.ev,Act.eval] using hx
 |func f=>simpa [Fx.ev,Act.eval] using hx
def put (G:Env) (d:Option Nat) (v:Value):Env:=
 match d with
 |some d=>(d,v)::G
 |none=>G
def fits (d:Option Nat) (n:Nat):Bool:=
 match d with
 |some d=>Nat.ble (d+1) n
 |none=>true
theorem Has.put {n:Nat} {G:Env} {a:Act} (h:Has n G a) (d:Option Nat) (v:Value) (hd:fits d n=true):Has n (Fx.put G d v) (a.put d v):=by
 cases d with
 |none=>exact h
 |some d=>
  have hlt:d < n:=by have:=hd;simp [fits] at this;omega
  refine ⟨by simp [Act.put,h.size],h.defers,fun t u hu=>?_⟩
  simp only [Fx.put,lk] at hu
  by_cases e:d=t
  ·subst e
   simp at hu
   subst hu
   simp [Act.put,h.size,hlt]
  ·have:Nat.beq d t=false:=by cases h:Nat.beq d t with
    |false=>rfl
    |true=>exact absurd (Nat.eq_of_beq_eq_true h) e
   rw [this] at hu
   simp only [cond_false] at hu
   simp only [Act.put]
   rw [Array.getElem?_setIfInBounds_ne e]
   exact h.get t u hu
@[irreducible] def B (p:Prop) [Decidable p]:Bool:=decide p
theorem tZ {p:Prop} [Decidable p]:B p=decide p:=by unfold B;rfl
theorem bK {p:Prop} [Decidable p] (h:p):B p=true:=by rw [tZ];exact decide_eq_true h
theorem bH {p:Prop} [Decidable p] (h:¬p):B p=false:=by rw [tZ];exact decide_eq_false h
theorem of_B {p:Prop} [Decidable p] (h:B p=true):p:=by rw [tZ] at h;exact of_decide_eq_true h
theorem bDH {p:Prop} [Decidable p] (h:B p=false):¬p:=by rw [tZ] at h;exact of_decide_eq_false h
inductive Sub (G:Env):Env→Prop
 |nil:Sub G []
 |cons {t:Nat} {v v':Value} {r:Env} (h:lk G t=some v') (e:v'=v) (k:Sub G r):Sub G ((t,v)::r)
theorem Sub.lk {G G':Env} (h:Sub G G'):∀t v,Fx.lk G' t=some v→Fx.lk G t=some v:=by
 induction h with
 |nil=>intro t v h;simp [Fx.lk] at h
 |cons h e _ ih=>
  intro t u hu
  rename_i t0 v0 v0' r _
  simp only [Fx.lk] at hu
  by_cases e2:t0=t
  ·subst e2
   simp at hu
   subst hu;subst e
   exact h
  ·have:Nat.beq t0 t=false:=by cases h:Nat.beq t0 t with
    |false=>rfl
    |true=>exact absurd (Nat.eq_of_beq_eq_true h) e2
   rw [this] at hu
   exact ih t u hu
theorem Has.sub {n:Nat} {G G':Env} {a:Act} (h:Has n G a) (s:Sub G G'):Has n G' a:=
 ⟨h.size,h.defers,fun t v hv=>h.get t v (s.lk t v hv)⟩
/- ---------- operations in a region ---------- -/
inductive Mode where
 |seq
 /- Cs k: what is known of the world when k operations that change it are done; ms: how many of these each operation may still fall behind -/
 |any (Cs:Nat→World→Prop) (k:Nat) (ms:List Nat)
def Mode.C:Mode→World→World→Prop
 | .seq,w,w'=>w'=w
 | .any Cs k ms,_,w'=>Cs (k+ms.headD 0) w'
def Mode.ok:Mode→World→Prop
 | .seq,_=>True
 | .any Cs k _,w'=>Cs (k+1) w'
def Mode.next:Mode→Mode
 | .seq=> .seq
 | .any Cs k ms=> .any Cs k ms.tail
def Mode.nextE:Mode→Mode
 | .seq=> .seq
 | .any Cs k ms=> .any Cs (k+1) ms.tail
def freeB:Builtin→Bool
 | .len| .cap| .min| .max=>true
 |_=>false
def iO:Op→Bool
 | .move _| .assign _| .pick .. | .load .. | .binOp .. | .unOp .. | .convert .. | .makeFunc .. | .slice .. | .fieldAddr .. | .field .. | .indexAddr .. | .index .. | .extract .. | .build .. | .sliceToArrayPointer .. | .nilCheck _=>true
 | .call {callee:= .builtin b, .. }=>freeB b
 |_=>false
def Mode.skip:Mode→Oper→Mode
 | .seq,_=> .seq
 | .any Cs k ms,o=>bif iO o.op then .any Cs k ms.tail else .any Cs (k+1) ms.tail
def Mode.held:Mode→Oper→World→Prop
 | .seq,_,_=>True
 | .any Cs k _,o,w=>bif iO o.op then True else Cs (k+1) w
abbrev QF:Exit→Act→World→Prop:=fun _ _ _=>False
def wpM (P:Program) (ops:Array Oper) (Q:Exit→Act→World→Prop):Mode→List Oper→Act→World→Prop
 |_,[],a,w=>Q .normal a w
 |m,o::r,a,w=>
  (Region.wanted o (yielded ops a.tmps)=true→
   (iO o.op=true∧∃v,(∀w',m.C w w'→(execOp a.eval o).run P w'= .ok (.value v) w')∧wpM P ops Q m.next r (a.put o.dst v) w)∨
   (iO o.op=false∧o.wp P a w (fun a' w'=>m.ok w'∧wpM P ops Q m.nextE r a' w') QF))∧
  (Region.wanted o (yielded ops a.tmps)=false→m.held o w∧wpM P ops Q (m.skip o) r (a.put o.dst undef) w)
theorem aLQ {P:Program} {o:Oper} {a:Act} {w:World} {K K':Act→World→Prop} {Q:Exit→Act→World→Prop} (h:∀a w,K a w→K' a w)
  (hh:o.wp P a w K QF):o.wp P a w K' Q:=by
 unfold Oper.wp at*
 generalize (execOp a.eval o).run P w=r at*
 cases r with
 |ok n w'=>
  cases n <;>simp only [Oper.upon] at hh ⊢ <;>
   first
    |exact h _ _ hh
    |exact Calls.mono hh (fun e w'' he=>by cases e <;>first|exact h _ _ he|exact he.elim|(obtain ⟨_,_,hf⟩:=he;exact hf.elim))
    |exact Rows.mono hh (fun _ _ he=>h _ _ he)
 | halt x w' => cases x <;> simp only [Oper.upon] at hh ⊢
                exact hh.elim
theorem qK {P:Program} {ops:Array Oper} {Q:Exit→Act→World→Prop}:∀(l:List Oper) (a:Act) (w:World),wpM P ops Q .seq l a w→wpList P ops Q l a w
 |[],_,_,h=>h
 |o::r,a,w,h=>by
  unfold wpList
  by_cases hw:Region.wanted o (yielded ops a.tmps)=true
  ·rw [if_pos hw]
   rcases h.1 hw with ⟨_,v,hv,hk⟩|⟨_,hk⟩
   ·refine .inl ?_
    unfold Oper.wp
    rw [hv w rfl]
    exact qK r _ _ hk
   ·exact .inl (aLQ (fun a w h=>qK r a w h.2) hk)
  ·rw [if_neg hw]
   exact qK r _ _ (h.2 (by simpa using hw)).2
/- ---------- regions that draw their order ---------- -/
section
variable {P:Program} {ops:Array Oper} {Q:Exit→Act→World→Prop} {Cs:Nat→World→Prop}
def eAt (ops:Array Oper) (i:Nat):Nat:=
 match ops[i]? with
 |some o=>bif iO o.op then 0 else 1
 |none=>0
theorem aAH {i:Nat} {o:Oper} (hi:ops[i]?=some o) (hf:iO o.op=true):eAt ops i=0:=by simp [eAt,hi,hf]
theorem aAY {i:Nat} {o:Oper} (hi:ops[i]?=some o) (hf:iO o.op=false):eAt ops i=1:=by simp [eAt,hi,hf]
def aCD (ops:Array Oper) (listed:Array Bool) (i:Nat) (j:Nat):Bool:=
 !listed.getD j true && match ops[j]? with
  |some oj=> !iO oj.op && !oj.after.any (fun e=>Region.binds .any e && e.on==i)
  |none=>false
def sU (ops:Array Oper) (listed:Array Bool) (i:Nat):Nat:=((List.range ops.size).filter (aCD ops listed i)).length
theorem yR {p q:Nat→Bool} (h:∀x,q x=true→p x=true):∀l:List Nat,(l.filter q).length≤(l.filter p).length
 |[]=>Nat.le_refl _
 |x::r=>by
  have ih:=yR h r
  cases hq:q x with
  |true=>simp [hq,h x hq];omega
  |false=>cases hp:p x <;>simp [hq,hp] <;>omega
theorem filter_lt {p q:Nat→Bool} (h:∀x,q x=true→p x=true) {j:Nat} (hp:p j=true) (hq:q j=false):∀l:List Nat,j∈l→(l.filter q).length+1≤(l.filter p).length
 |[],hm=>by cases hm
 |x::r,hm=>by
  by_cases hx:x=j
  ·subst hx
   have:=yR h r
   simp [hq,hp];omega
  ·have hm':j∈r:=by cases hm with
    |head=>exact absurd rfl hx
    |tail _ h=>exact h
   have ih:=filter_lt h hp hq r hm'
   cases hq2:q x with
   |true=>simp [hq2,h x hq2];omega
   |false=>cases hp2:p x <;>simp [hq2,hp2] <;>omega
theorem aCL {listed:Array Bool} {i j x:Nat} (h:aCD ops (listed.setIfInBounds j true) i x=true):aCD ops listed i x=true:=by
 unfold aCD at*
 simp only [Bool.and_eq_true,Bool.not_eq_true'] at*
 refine ⟨?_,h.2⟩
 have h1:=h.1
 by_cases hx:j=x
 ·subst hx
  by_cases hlt:j < listed.size
  ·simp [hlt] at h1
  ·simp [Array.getElem?_eq_none (show listed.size≤j by omega)] at h1
 ·rw [getD_set_ne true hx] at h1;exact h1
theorem aOC {listed:Array Bool} {i j:Nat} {oj:Oper} (hj:ops[j]?=some oj) (hun:listed.getD j true=false) (hlt:j < listed.size)
  (hno:∀e∈oj.after,Region.binds .any e=true→e.on≠i):sU ops (listed.setIfInBounds j true) i+eAt ops j≤sU ops listed i:=by
 unfold sU
 cases hf:iO oj.op with
 |true=>
  rw [aAH hj hf]
  exact yR (fun x hx=>aCL hx) _
 |false=>
  rw [aAY hj hf]
  refine filter_lt (fun x hx=>aCL hx) (j:=j) ?_ ?_ _ (List.mem_range.2 (Array.getElem?_eq_some_iff.1 hj).1)
  ·unfold aCD
   simp only [hun,hj,hf,Bool.not_false,Bool.true_and,Bool.not_eq_true']
   cases hb:oj.after.any (fun e=>Region.binds .any e && e.on==i) with
   |false=>rfl
   |true=>
    obtain ⟨e,he,hb⟩:=Array.any_eq_true'.1 hb
    simp only [Bool.and_eq_true,beq_iff_eq] at hb
    exact absurd hb.2 (hno e he hb.1)
  ·unfold aCD
   simp [hlt]
def sD (P:Program) (ops:Array Oper) (Q:Exit→Act→World→Prop) (Cs:Nat→World→Prop):Nat→Nat→Array Bool→Act→World→Prop
 |0,_,listed,a,w=>Region.ready .any ops listed=[]∧Q .normal a w
 |fuel+1,k,listed,a,w=>
  (Region.ready .any ops listed=[]→Q .normal a w)∧
  ∀i∈Region.ready .any ops listed,wpOp P ops QF i (fun a' w'=>Cs (k+eAt ops i) w'∧sD P ops Q Cs fuel (k+eAt ops i) (listed.setIfInBounds i true) a' w') a w
theorem aOZ {i:Nat} {a:Act} {w:World} {K K':Act→World→Prop} (h:∀a w,K a w→K' a w)
  (hh:wpOp P ops QF i K a w):wpOp P ops Q i K' a w:=by
 unfold wpOp at*
 split
 ·exact h _ _ (by simpa [*] using hh)
 ·rename_i o ho
  simp only [ho] at hh
  split
  ·rename_i hw
   simp only [hw,if_true] at hh
   rcases hh with hh|⟨_,_,_,hf⟩
   ·exact .inl (aLQ h hh)
   ·exact hf.elim
  ·rename_i hw;simp only [hw] at hh;exact h _ _ hh
theorem sF:∀(fuel k:Nat) (listed:Array Bool) (a:Act) (w:World),sD P ops Q Cs fuel k listed a w→wpAny P .any ops Q fuel listed a w
 |0,_,_,_,_,h=>h
 |fuel+1,_,_,_,_,h=>⟨h.1,fun i hi=>aOZ (fun a w h=>sF fuel _ _ a w h.2) (h.2 i hi)⟩
def YieldsC (P:Program) (ops:Array Oper) (C:World→Prop) (o:Oper) (v:Value) (a:Act):Prop:=
 (Region.wanted o (yielded ops a.tmps)=true∧∀w,C w→(execOp a.eval o).run P w= .ok (.value v) w)∨
 (Region.wanted o (yielded ops a.tmps)=false∧v=undef)
theorem YieldsC.mono {C C':World→Prop} {o:Oper} {v:Value} {a:Act} (hy:YieldsC P ops C o v a) (h:∀w,C' w→C w):YieldsC P ops C' o v a:=by
 rcases hy with ⟨h1,h2⟩|h1
 ·exact .inl ⟨h1,fun w hw=>h2 w (h w hw)⟩
 ·exact .inr h1
theorem YieldsC.wpOp {C:World→Prop} {i:Nat} {o:Oper} {v:Value} {a:Act} (hi:ops[i]?=some o) (hy:YieldsC P ops C o v a)
  {K:Act→World→Prop} {w:World} (hC:C w) (h:K (a.put o.dst v) w):wpOp P ops QF i K a w:=by
 unfold Go.wpOp
 simp only [hi]
 rcases hy with ⟨hw,hv⟩|⟨hw,rfl⟩
 ·simp only [hw,if_true,Oper.wp,hv w hC,Oper.upon];exact .inl h
 ·simp only [hw,Bool.false_eq_true,if_false];exact h
theorem YieldsC.of_same {C:World→Prop} {o:Oper} {v:Value} {a a':Act} (hy:YieldsC P ops C o v a) (he:execOp a'.eval o=execOp a.eval o)
  (hw:Region.wanted o (yielded ops a'.tmps)=Region.wanted o (yielded ops a.tmps)):YieldsC P ops C o v a':=by
 unfold YieldsC at*
 rw [he,hw]
 exact hy
theorem aTF {C:World→Prop} {j:Nat} {oi oj:Oper} {v:Value} (hj:ops[j]?=some oj) (hap:oi.apart ops oj=true)
  (hsi:∀cs b,oi.op≠ .select cs b) (hsj:∀cs b,oj.op≠ .select cs b) {K:Act→World→Prop} {a:Act} {w:World}
  (hy:YieldsC P ops C oi v a) (h:wpOp P ops QF j K (a.put oi.dst v) w):
  wpOp P ops QF j (fun a' w'=>YieldsC P ops C oi v a'∧K (a'.put oi.dst v) w') a w:=by
 obtain ⟨h1,h2,h3⟩:=Oper.apart_spec hap
 have keep:∀(a:Act),YieldsC P ops C oi v a→∀u,YieldsC P ops C oi v (a.put oj.dst u):=fun a hy u=>
  hy.of_same (execOp_put oi hsi a oj.dst u h3) (wanted_put oi a oj.dst u h3)
 have keepD:∀d,YieldsC P ops C oi v {a with defers:=d::a.defers}:=fun d=>hy.of_same rfl rfl
 unfold wpOp at*
 simp only [hj] at*
 rw [wanted_put oj a oi.dst v h1] at h
 split
 ·rename_i hw
  simp only [hw,if_true] at h
  rcases h with h|⟨_,_,_,hf⟩
  case inr=>exact hf.elim
  refine .inl ?_
  unfold Oper.wp at*
  rw [execOp_put oj hsj a oi.dst v h1] at h
  generalize (execOp a.eval oj).run P w=r at*
  cases r with
  |ok n w'=>
   cases n <;>simp only [Oper.upon] at h ⊢
   case value u=>exact ⟨keep a hy u,by rw [←Act.put_comm a v u h2];exact h⟩
   case skip=>exact ⟨keep a hy _,by rw [←Act.put_comm a v undef h2];exact h⟩
   case defer d=>
    refine ⟨keep _ (keepD d) _,?_⟩
    rw [←Act.put_comm _ v undef h2,←Act.put_defers]
    exact h
   case enter f args=>
    refine Calls.mono h fun e w'' he=>?_
    cases e with
    |returned u=>exact ⟨keep a hy u,by rw [←Act.put_comm a v u h2];exact he⟩
    |panicked c=>exact he.elim
    |outgrown=>obtain ⟨_,_,hf⟩:=he;exact hf.elim
   case row row args=>exact Rows.mono h fun u w'' he=>⟨keep a hy u,by rw [←Act.put_comm a v u h2];exact he⟩
  | halt x w' => cases x <;> simp only [Oper.upon] at h ⊢
                 exact h.elim
 ·rename_i hw
  simp only [hw] at h
  exact ⟨keep a hy _,by rw [←Act.put_comm a v undef h2];exact h⟩
theorem aPO (hm:∀s w,Cs s w→Cs (s+1) w):∀(d s:Nat) (w:World),Cs s w→Cs (s+d) w
 |0,_,_,h=>h
 |d+1,s,w,h=>hm _ _ (aPO hm d s w h)
theorem rP {i:Nat} {oi:Oper} {v:Value} (hm:∀s w,Cs s w→Cs (s+1) w) (hi:ops[i]?=some oi) (hfi:iO oi.op=true) (hsel:∀(j:Nat) (o:Oper) cs b,ops[j]?=some o→o.op≠ .select cs b):
  ∀(fuel k:Nat) (listed:Array Bool) (a:Act) (w:World),Cs k w→listed.size=ops.size→
   (∀j oj,ops[j]?=some oj→j≠i→listed.getD j true=false→(∀e∈oj.after,Region.binds .any e=true→e.on≠i)→oi.apart ops oj=true)→
   i∈Region.ready .any ops listed→YieldsC P ops (Cs (k+sU ops listed i)) oi v a→
   sD P ops Q Cs fuel k (listed.setIfInBounds i true) (a.put oi.dst v) w→sD P ops Q Cs (fuel+1) k listed a w:=by
 intro fuel
 induction fuel with
 |zero=>
  intro k listed a w hC _ _ hr hy H
  refine ⟨fun h=>(by rw [h] at hr;cases hr),fun j hj=>?_⟩
  by_cases hji:j=i
  ·subst hji
   rw [aAH hi hfi]
   exact hy.wpOp hi (aPO hm _ _ _ hC) ⟨hC,H⟩
  ·have:=ready_mono hj hji
   rw [H.1] at this
   cases this
 |succ fuel ih=>
  intro k listed a w hC hsz hfree hr hy H
  refine ⟨fun h=>(by rw [h] at hr;cases hr),fun j hj=>?_⟩
  by_cases hji:j=i
  ·subst hji
   rw [aAH hi hfi]
   exact hy.wpOp hi (aPO hm _ _ _ hC) ⟨hC,H⟩
  ·have h1:=H.2 j (ready_mono hj hji)
   obtain ⟨hjun,oj,hoj,hall⟩:=mem_ready.1 hj
   have hnot:∀e∈oj.after,Region.binds .any e=true→e.on≠i:=fun e he hb heq=>by
    have h1:=hall e he hb
    have h0:=(mem_ready.1 hr).1
    rw [heq] at h1
    rcases Nat.lt_or_ge i listed.size with h'|h'
    ·simp [h'] at h0 h1;rw [h0] at h1;cases h1
    ·simp [Array.getElem?_eq_none h'] at h1
   have hjl:j < listed.size:=by rw [hsz];exact (Array.getElem?_eq_some_iff.1 hoj).1
   have hst:=aOC (i:=i) hoj hjun hjl hnot
   have h2:=aTF hoj (hfree j oj hoj hji hjun hnot) (fun cs b=>hsel i oi cs b hi) (fun cs b=>hsel j oj cs b hoj) hy h1
   have hfree':∀k ok,ops[k]?=some ok→k≠i→(listed.setIfInBounds j true).getD k true=false→
     (∀e∈ok.after,Region.binds .any e=true→e.on≠i)→oi.apart ops ok=true:=fun k ok hk hki hun hno=>by
    refine hfree k ok hk hki ?_ hno
    by_cases hjk:j=k
    ·subst hjk;exact hjun
    ·rw [getD_set_ne true hjk] at hun;exact hun
   refine wpOp_mono (fun a' w' h3=>⟨h3.2.1,ih _ (listed.setIfInBounds j true) a' w' h3.2.1 (by simp [hsz]) hfree' (ready_mono hr (Ne.symm hji)) (h3.1.mono fun w hw=>?_) ?_⟩) h2
   ·rw [Array.setIfInBounds_comm _ _ hji]
    exact h3.2.2
   ·have:=aPO hm (sU ops listed i - (sU ops (listed.setIfInBounds j true) i+eAt ops j)) _ w hw
    have e:k+eAt ops j+sU ops (listed.setIfInBounds j true) i+(sU ops listed i - (sU ops (listed.setIfInBounds j true) i+eAt ops j))=k+sU ops listed i:=by omega
    rw [e] at this
    exact this
def iL (ops:Array Oper):List Nat→List Nat→Array Bool→Bool
 |[],_,listed=>(Region.ready .any ops listed).isEmpty
 |i::r,ms,listed=>
  match ops[i]? with
  |none=>false
  |some o=>
   (bif iO o.op then Region.free .any ops listed i && (Region.ready .any ops listed).contains i && Nat.beq (sU ops listed i) (ms.headD 0) else Region.ready .any ops listed==[i]) && iL ops r ms.tail (listed.setIfInBounds i true)
def nth:List Oper→Nat→Oper
 |[],_=>default
 |o::_,0=>o
 |_::r,i+1=>nth r i
theorem aIU:∀(l:List Oper) (i:Nat) (o:Oper),l[i]?=some o→nth l i=o
 |[],i,o,h=>by simp at h
 |x::r,0,o,h=>by simpa [nth] using h
 |x::r,i+1,o,h=>by simpa [nth] using aIU r i o (by simpa using h)
def pick (l:List Oper):List Nat→List Oper
 |[]=>[]
 |i::r=>nth l i::pick l r
theorem jR {l:List Oper} (hm:∀s w,Cs s w→Cs (s+1) w) (hs:Region.noSelect l.toArray=true):∀(p ms:List Nat) (k:Nat) (listed:Array Bool) (a:Act) (w:World),Cs k w→listed.size=l.toArray.size→iL l.toArray p ms listed=true→
  wpM P l.toArray Q (.any Cs k ms) (pick l p) a w→sD P l.toArray Q Cs p.length k listed a w
 |[],ms,k,listed,a,w,_,_,hp,h=>⟨by simpa [iL] using hp,h⟩
 |i::r,ms,k,listed,a,w,hC,hsz,hp,h=>by
  unfold iL at hp
  cases ho:l.toArray[i]? with
  |none=>simp [ho] at hp
  |some o=>
   have hg:nth l i=o:=aIU l i o (by simpa using ho)
   simp only [pick,hg] at h
   simp only [ho,Bool.and_eq_true] at hp
   obtain ⟨hp1,hp2⟩:=hp
   have hsz':(listed.setIfInBounds i true).size=l.toArray.size:=by simpa using hsz
   cases hk:iO o.op with
   |true=>
    simp only [hk,cond_true,Bool.and_eq_true] at hp1
    obtain ⟨⟨hf,hr⟩,hsl⟩:=hp1
    have hsl:=Nat.eq_of_beq_eq_true hsl
    have hmem:i∈Region.ready .any l.toArray listed:=by simpa using hr
    by_cases hw:Region.wanted o (yielded l.toArray a.tmps)=true
    ·rcases h.1 hw with ⟨_,v,hv,hk2⟩|⟨hk2,_⟩
     ·refine rP hm ho hk (Region.noSelect_spec hs) r.length k listed a w hC hsz (Region.free_spec ho hf) hmem (.inl ⟨hw,fun w' hw'=>hv w' ?_⟩) (jR hm hs r ms.tail k _ _ w hC hsz' hp2 hk2)
      rw [hsl] at hw'
      exact hw'
     ·rw [hk] at hk2;cases hk2
    ·have hw':Region.wanted o (yielded l.toArray a.tmps)=false:=by simpa using hw
     have hh:=(h.2 hw').2
     simp only [Mode.skip,hk,cond_true] at hh
     exact rP hm ho hk (Region.noSelect_spec hs) r.length k listed a w hC hsz (Region.free_spec ho hf) hmem (.inr ⟨hw',rfl⟩) (jR hm hs r ms.tail k _ _ w hC hsz' hp2 hh)
   |false=>
    simp only [hk,cond_false,beq_iff_eq] at hp1
    refine ⟨fun h0=>(by rw [hp1] at h0;cases h0),fun j hj=>?_⟩
    rw [hp1] at hj
    obtain rfl:j=i:=by simpa using hj
    rw [aAY ho hk]
    unfold wpOp
    simp only [ho]
    by_cases hw:Region.wanted o (yielded l.toArray a.tmps)=true
    ·rw [if_pos hw]
     rcases h.1 hw with ⟨hk2,_⟩|⟨_,hk2⟩
     ·rw [hk] at hk2;cases hk2
     ·exact .inl (Oper.wp_mono (fun a' w' ⟨h1,h2⟩=>⟨h1,jR hm hs r ms.tail (k+1) _ a' w' h1 hsz' hp2 h2⟩) hk2)
    ·rw [if_neg hw]
     obtain ⟨hh1,hh2⟩:=h.2 (by simpa using hw)
     simp only [Mode.held,hk,cond_false] at hh1
     simp only [Mode.skip,hk,cond_false] at hh2
     exact ⟨hh1,jR hm hs r ms.tail (k+1) _ _ w hh1 hsz' hp2 hh2⟩
def sM (ops:Array Oper):List Nat→List Nat→Array Bool→Option (Array Bool)
 |[],_,listed=>some listed
 |i::r,ms,listed=>
  match ops[i]? with
  |none=>none
  |some o=>
   bif (bif iO o.op then Region.free .any ops listed i && (Region.ready .any ops listed).contains i && Nat.beq (sU ops listed i) (ms.headD 0) else Region.ready .any ops listed==[i]) then sM ops r ms.tail (listed.setIfInBounds i true) else none
def aEP (ops:Array Oper):List Nat→Nat
 |[]=>0
 |i::r=>eAt ops i+aEP ops r
theorem sK {l:List Oper} {Q':Exit→Act→World→Prop} {fuel:Nat} {listed':Array Bool} (hm:∀s w,Cs s w→Cs (s+1) w) (hs:Region.noSelect l.toArray=true):∀(p ms:List Nat) (k:Nat) (listed:Array Bool) (a:Act) (w:World),Cs k w→listed.size=l.toArray.size→sM l.toArray p ms listed=some listed'→
  (∀a' w',listed'.size=l.toArray.size→Cs (k+aEP l.toArray p) w'→Q' .normal a' w'→sD P l.toArray Q Cs fuel (k+aEP l.toArray p) listed' a' w')→
  wpM P l.toArray Q' (.any Cs k ms) (pick l p) a w→sD P l.toArray Q Cs (fuel+p.length) k listed a w
 |[],ms,k,listed,a,w,hC,hsz,hp,hend,h=>by
  have:listed=listed':=by simpa [sM] using hp
  subst this
  exact hend a w hsz hC h
 |i::r,ms,k,listed,a,w,hC,hsz,hp,hend,h=>by
  unfold sM at hp
  cases ho:l.toArray[i]? with
  |none=>simp [ho] at hp
  |some o=>
   have hg:nth l i=o:=aIU l i o (by simpa using ho)
   simp only [pick,hg] at h
   simp only [ho] at hp
   cases hp1:(bif iO o.op then Region.free .any l.toArray listed i && (Region.ready .any l.toArray listed).contains i && Nat.beq (sU l.toArray listed i) (ms.headD 0) else Region.ready .any l.toArray listed==[i]) with
   |false=>rw [hp1] at hp;simp at hp
   |true=>
   rw [hp1,cond_true] at hp
   have hsz':(listed.setIfInBounds i true).size=l.toArray.size:=by simpa using hsz
   have hfl:fuel+(i::r).length=(fuel+r.length)+1:=by simp;omega
   rw [hfl]
   cases hk:iO o.op with
   |true=>
    simp only [hk,cond_true,Bool.and_eq_true] at hp1
    obtain ⟨⟨hf,hr⟩,hsl⟩:=hp1
    have hsl:=Nat.eq_of_beq_eq_true hsl
    have hmem:i∈Region.ready .any l.toArray listed:=by simpa using hr
    have hend':∀a' w',listed'.size=l.toArray.size→Cs (k+aEP l.toArray r) w'→Q' .normal a' w'→sD P l.toArray Q Cs fuel (k+aEP l.toArray r) listed' a' w':=fun a' w' h1 h2 h3=>by
     have:=hend a' w' h1
     simp only [aEP,aAH ho hk,Nat.zero_add] at this
     exact this h2 h3
    by_cases hw:Region.wanted o (yielded l.toArray a.tmps)=true
    ·rcases h.1 hw with ⟨_,v,hv,hk2⟩|⟨hk2,_⟩
     ·refine rP hm ho hk (Region.noSelect_spec hs) (fuel+r.length) k listed a w hC hsz (Region.free_spec ho hf) hmem (.inl ⟨hw,fun w' hw'=>hv w' ?_⟩) (sK hm hs r ms.tail k _ _ w hC hsz' hp hend' hk2)
      rw [hsl] at hw'
      exact hw'
     ·rw [hk] at hk2;cases hk2
    ·have hw':Region.wanted o (yielded l.toArray a.tmps)=false:=by simpa using hw
     have hh:=(h.2 hw').2
     simp only [Mode.skip,hk,cond_true] at hh
     exact rP hm ho hk (Region.noSelect_spec hs) (fuel+r.length) k listed a w hC hsz (Region.free_spec ho hf) hmem (.inr ⟨hw',rfl⟩) (sK hm hs r ms.tail k _ _ w hC hsz' hp hend' hh)
   |false=>
    simp only [hk,cond_false,beq_iff_eq] at hp1
    have hend':∀a' w',listed'.size=l.toArray.size→Cs (k+1+aEP l.toArray r) w'→Q' .normal a' w'→sD P l.toArray Q Cs fuel (k+1+aEP l.toArray r) listed' a' w':=fun a' w' h1 h2 h3=>by
     have:=hend a' w' h1
     simp only [aEP,aAY ho hk,←Nat.add_assoc] at this
     exact this h2 h3
    refine ⟨fun h0=>(by rw [hp1] at h0;cases h0),fun j hj=>?_⟩
    rw [hp1] at hj
    obtain rfl:j=i:=by simpa using hj
    rw [aAY ho hk]
    unfold wpOp
    simp only [ho]
    by_cases hw:Region.wanted o (yielded l.toArray a.tmps)=true
    ·rw [if_pos hw]
     rcases h.1 hw with ⟨hk2,_⟩|⟨_,hk2⟩
     ·rw [hk] at hk2;cases hk2
     ·exact .inl (Oper.wp_mono (fun a' w' ⟨h1,h2⟩=>⟨h1,sK hm hs r ms.tail (k+1) _ a' w' h1 hsz' hp hend' h2⟩) hk2)
    ·rw [if_neg hw]
     obtain ⟨hh1,hh2⟩:=h.2 (by simpa using hw)
     simp only [Mode.held,hk,cond_false] at hh1
     simp only [Mode.skip,hk,cond_false] at hh2
     exact ⟨hh1,sK hm hs r ms.tail (k+1) _ _ w hh1 hsz' hp hend' hh2⟩
def altOk (ops:Array Oper) (listed:Array Bool):List Nat × List Nat→Bool
 |([],_)=>false
 |(i::r,ms)=>match ops[i]? with
  |none=>false
  |some o=> !iO o.op && iL ops r ms.tail (listed.setIfInBounds i true)
def Alts (P:Program) (l:List Oper) (Q:Exit→Act→World→Prop) (Cs:Nat→World→Prop) (k:Nat) (alts:List (List Nat × List Nat)):Exit→Act→World→Prop
 | .normal,a,w=>∀q∈alts,wpM P l.toArray Q (.any Cs k q.2) (pick l q.1) a w
 |_,_,_=>False
def altsOk (ops:Array Oper) (p ms:List Nat) (alts:List (List Nat × List Nat)):Bool:=
 match sM ops p ms (Array.replicate ops.size false) with
 |none=>false
 |some listed=>(Region.ready .any ops listed==alts.map (fun q=>q.1.headD 0)) && alts.all (altOk ops listed) && alts.all (fun q=>Nat.beq (p.length+q.1.length) ops.size) && !alts.isEmpty
theorem aOP {id:Nat} {l:List Oper} {p ms:List Nat} {a:Act} {w:World} (hx:P.follows .mixedOrders=true) (hm:∀s w,Cs s w→Cs (s+1) w)
  (hp:(Region.noSelect l.toArray && iL l.toArray p ms (Array.replicate l.length false) && p.length==l.length)=true) (hC:Cs 0 w.drew)
  (h:wpM P l.toArray Q (.any Cs 0 ms) (pick l p) a w.drew):(Code.region id l.toArray true).wp P Q a w:=by
 simp only [Bool.and_eq_true,beq_iff_eq] at hp
 obtain ⟨⟨h1,h2⟩,h3⟩:=hp
 refine wp_region_any hx ?_
 have:=jR hm h1 p ms 0 _ a w.drew hC (by simp) h2 h
 rw [h3] at this
 simpa using sF _ _ _ _ _ this
end
/- ---------- the judgements ---------- -/
@[irreducible] def Then (K:Act→World→Prop) (Q:Exit→Act→World→Prop):Exit→Act→World→Prop:=Exit.then K Q
@[irreducible] def InB (id:Nat) (Q:Exit→Act→World→Prop):Exit→Act→World→Prop:=Exit.inBlock id Q
structure R (P:Program) (n:Nat) (ops:List Oper) (Q:Exit→Act→World→Prop) (m:Mode) (l:List Oper) (G:Env) (w:World):Prop where
 go:∀a,Has n G a→wpM P ops.toArray Q m l a w
structure T (P:Program) (n:Nat) (c:Code) (Q:Exit→Act→World→Prop) (G:Env) (w:World):Prop where
 go:∀a,Has n G a→c.wp P Q a w
structure N (n:Nat) (Q:Exit→Act→World→Prop) (e:Exit) (G:Env) (w:World):Prop where
 go:∀a,Has n G a→Q e a w
section
variable {P:Program} {n:Nat} {Q Q':Exit→Act→World→Prop} {G:Env} {w:World}
theorem uV {x y:Code} (h:T P n x (Then (y.wp P Q) Q) G w):T P n (.seq x y) Q G w:=⟨fun a ha=>wp_seq (by have:=h.go a ha;unfold Then at this;exact this)⟩
theorem pU (h:N n Q .normal G w):T P n .skip Q G w:=⟨fun a ha=>wp_skip (h.go a ha)⟩
theorem mI {l:Nat} (h:N n Q .normal G w):T P n (.label l) Q G w:=⟨fun a ha=>wp_label (h.go a ha)⟩
theorem uZ (h:N n Q .ret G w):T P n .ret Q G w:=⟨fun a ha=>wp_ret (h.go a ha)⟩
theorem qD {id:Nat} (h:N n Q (.exit id) G w):T P n (.exit id) Q G w:=⟨fun a ha=>wp_exit (h.go a ha)⟩
theorem mU {id:Nat} {c:Code} (h:T P n c (InB id Q) G w):T P n (.block id c) Q G w:=⟨fun a ha=>wp_block (by have:=h.go a ha;unfold InB at this;exact this)⟩
theorem aIX {c:Operand} {x y:Code} {b:Bool} (hc:ev G c=some (.bool b)) (h1:b=true→T P n x Q G w) (h2:b=false→T P n y Q G w):T P n (.cond c x y) Q G w:=
 ⟨fun a ha=>wp_cond_split (ha.ev hc) (fun e=>(h1 e).go a ha) (fun e=>(h2 e).go a ha)⟩
theorem mE {c:Operand} {x y:Code} (hc:ev G c=some (.bool true)) (h1:T P n x Q G w):T P n (.cond c x y) Q G w:=
 ⟨fun a ha=>wp_cond_true (ha.ev hc) (h1.go a ha)⟩
theorem lJ {c:Operand} {x y:Code} (hc:ev G c=some (.bool false)) (h1:T P n y Q G w):T P n (.cond c x y) Q G w:=
 ⟨fun a ha=>wp_cond_false (ha.ev hc) (h1.go a ha)⟩
theorem aHQ {c:Operand} {x y:Code} {p:Prop} [Decidable p] (hc:ev G c=some (.bool (B p))) (h1:p→T P n x Q G w) (h2:¬p→T P n y Q G w):T P n (.cond c x y) Q G w:=
 aIX hc (fun e=>h1 (of_B e)) (fun e=>h2 (bDH e))
theorem aEH {c:Operand} {x y:Code} {p:Prop} [Decidable p] (hc:ev G c=some (.bool (B p))) (hp:p) (h1:T P n x Q G w):T P n (.cond c x y) Q G w:=
 aIX hc (fun _=>h1) (fun e=>absurd hp (bDH e))
theorem aOM {c:Operand} {x y:Code} {p:Prop} [Decidable p] (hc:ev G c=some (.bool (B p))) (hp:¬p) (h1:T P n y Q G w):T P n (.cond c x y) Q G w:=
 aIX hc (fun e=>absurd (of_B e) hp) (fun _=>h1)
theorem kW {id:Nat} {l:List Oper} (h:R P n l Q .seq l G w):T P n (.region id l.toArray false) Q G w:=
 ⟨fun a ha=>wp_region_lit (qK l a w (h.go a ha))⟩
theorem aQY {id:Nat} {l:List Oper} (Cs:Nat→World→Prop) (p ms:List Nat) (hx:P.follows .mixedOrders=true) (hm:∀s w,Cs s w→Cs (s+1) w)
  (hp:(Region.noSelect l.toArray && iL l.toArray p ms (Array.replicate l.length false) && p.length==l.length)=true) (hC:Cs 0 w.drew)
  (h:R P n l Q (.any Cs 0 ms) (pick l p) G w.drew):T P n (.region id l.toArray true) Q G w:=
 ⟨fun a ha=>aOP hx hm hp hC (h.go a ha)⟩
theorem uJ {ops:List Oper} {m:Mode} (h:N n Q .normal G w):R P n ops Q m [] G w:=⟨h.go⟩
theorem pQ {y:Code} (h:T P n y Q G w):N n (Then (y.wp P Q) Q') .normal G w:=⟨fun a ha=>by unfold Then;exact h.go a ha⟩
theorem mP {K:Act→World→Prop} {id:Nat} (h:N n Q (.exit id) G w):N n (Then K Q) (.exit id) G w:=⟨fun a ha=>by unfold Then;exact h.go a ha⟩
theorem mM {K:Act→World→Prop} (h:N n Q .ret G w):N n (Then K Q) .ret G w:=⟨fun a ha=>by unfold Then;exact h.go a ha⟩
theorem uD {id:Nat} (h:N n Q .normal G w):N n (InB id Q) .normal G w:=⟨fun a ha=>by unfold InB;exact h.go a ha⟩
theorem vE {id:Nat} (h:N n Q .ret G w):N n (InB id Q) .ret G w:=⟨fun a ha=>by unfold InB;exact h.go a ha⟩
theorem uR {id:Nat} (h:N n Q .normal G w):N n (InB id Q) (.exit id) G w:=⟨fun a ha=>by
 unfold InB;simp only [Exit.inBlock,if_true];exact h.go a ha⟩
theorem uE {id id':Nat} (hne:Nat.beq id' id=false) (h:N n Q (.exit id') G w):N n (InB id Q) (.exit id') G w:=⟨fun a ha=>by
 have:id'≠id:=by intro e;subst e;simp at hne
 unfold InB;simp only [Exit.inBlock,this,if_false];exact h.go a ha⟩
def Cut (n:Nat) (J:Env→World→Prop):Act→World→Prop:=fun a w=>∃G,J G w∧Has n G a
theorem T_cut {x y:Code} (J:Env→World→Prop) (h:T P n x (Then (Cut n J) Q) G w) (k:∀G' w',J G' w'→T P n y Q G' w'):T P n (.seq x y) Q G w:=⟨fun a ha=>
 wp_seq (Code.wp_mono (fun e a w q=>by
  unfold Then at q
  cases e <;>first|exact q|(obtain ⟨G',hJ,hh⟩:=q;exact (k G' w hJ).go a hh)) (h.go a ha))⟩
theorem bEF {x y:Code} (J:Env→World→Prop) (h:T P n x (Then (Cut n J) Q) G w) (k:∀G' w',J G' w'→T P n y Q' G' w'):T P n x (Then (y.wp P Q') Q) G w:=⟨fun a ha=>
 Code.wp_mono (fun e a w q=>by
  unfold Then at q ⊢
  cases e <;>first|exact q|(obtain ⟨G',hJ,hh⟩:=q;exact (k G' w hJ).go a hh)) (h.go a ha)⟩
theorem N_cut {J:Env→World→Prop} (G':Env) (s:Sub G G') (h:J G' w):N n (Then (Cut n J) Q) .normal G w:=⟨fun _ ha=>by unfold Then;exact ⟨G',h,ha.sub s⟩⟩
def aYK (n:Nat) (J:Nat→Env→World→Prop) (k:Nat):Act→World→Prop:=fun a w=>∃k' G,k' < k∧J k' G w∧Has n G a
theorem bET {c:Code} (J:Nat→Env→World→Prop) (k:Nat) (G':Env) (s:Sub G G') (h0:J k G' w)
  (round:∀k G' w',J k G' w'→T P n c (Then (aYK n J k) Q) G' w'):T P n (.loop c) Q G w:=by
 refine ⟨fun a ha b kk cs=>?_⟩
 have key:∀k a w G,J k G w→Has n G a→
   ∃e a' w',Q e a' w'∧Arrives P (lone (b.at a (.code c:: .inLoop c::kk)) cs w) b kk cs e a' w':=by
  intro k
  induction k using Nat.strongRecOn with
  |_ k ih=>
   intro a w G hJ hh
   obtain ⟨e,a₁,w₁,hq,harr⟩:=(round k G w hJ).go a hh b (.inLoop c::kk) cs
   unfold Then at hq
   cases e with
   |normal=>
    obtain ⟨k',G1,hlt,hJ1,hh1⟩:=hq
    obtain ⟨e₂,a₂,w₂,hq₂,harr₂⟩:=ih k' hlt a₁ w₁ G1 hJ1 hh1
    exact ⟨e₂,a₂,w₂,hq₂, .of_steps (Steps.trans harr (.one step_inLoop)) harr₂⟩
   |exit id=>exact ⟨_,a₁,w₁,hq, .pass (x:= .inLoop c) rfl (fun _ _=> .inl (by simp)) harr⟩
   |goto l=>exact ⟨_,a₁,w₁,hq, .pass (x:= .inLoop c) rfl (fun _ _=> .inl (by simp)) harr⟩
   |ret=>exact ⟨_,a₁,w₁,hq, .pass (x:= .inLoop c) rfl (fun _ _=> .inl (by simp)) harr⟩
   |panic ch=>exact ⟨_,a₁,w₁,hq, .pass (x:= .inLoop c) rfl (fun _ _=> .inl (by simp)) harr⟩
   |outgrown=>exact ⟨_,a₁,w₁,hq, .pass (x:= .inLoop c) rfl (fun _ _=> .inl (by simp)) harr⟩
 obtain ⟨e,a',w',hq,harr⟩:=key k a w G' h0 (ha.sub s)
 exact ⟨e,a',w',hq, .of_steps (.one step_loop) harr⟩
theorem bAV {J:Nat→Env→World→Prop} {k:Nat} (k':Nat) (G':Env) (hlt:k' < k) (s:Sub G G') (h:J k' G' w):N n (Then (aYK n J k) Q) .normal G w:=
 ⟨fun _ ha=>by unfold Then;exact ⟨k',G',hlt,h,ha.sub s⟩⟩
end
/- ---------- one operation ---------- -/
structure Const (P:Program) (n:Nat) (G:Env) (op:Op) (ty:TypeId) (C:World→Prop) (v:Value):Prop where
 go:∀a,Has n G a→∀dst pos after guard w,C w→(execOp a.eval ⟨dst,op,ty,pos,after,guard⟩).run P w= .ok (.value v) w
structure Eff (P:Program) (n:Nat) (G:Env) (op:Op) (ty:TypeId) (w:World) (K:Value→World→Prop):Prop where
 go:∀a,Has n G a→∀dst pos after guard,Oper.wp P ⟨dst,op,ty,pos,after,guard⟩ a w (fun a' w'=>∃v,K v w'∧a'=a.put dst v) QF
section
variable {P:Program} {n:Nat} {ops:List Oper} {Q:Exit→Act→World→Prop} {m:Mode} {G:Env} {w:World} {d:Option Nat} {op:Op} {ty:TypeId} {pos:String} {af:Array Edge} {l:List Oper}
def qZ:List Oper→Nat→Option Nat
 |[],_=>none
 |o::_,0=>o.dst
 |_::r,j+1=>qZ r j
theorem aAK:∀(ops:List Oper) (j:Nat),(ops.toArray[j]?).bind (·.dst)=qZ ops j
 |[],j=>by simp [qZ]
 |o::r,0=>by simp [qZ]
 |o::r,j+1=>by simpa [qZ] using aAK r j
def nZ (ops:List Oper) (G:Env):Option (Nat × Bool)→Option Bool
 |none=>some true
 |some (j,b)=>match qZ ops j with
  |none=>some false
  |some t=>match lk G t with
   |some (.bool b')=>some (b'==b)
   |some (.tuple _)=>some false
   |_=>none
theorem uT {a:Act} (ha:Has n G a) {o:Oper} {g:Option (Nat × Bool)} (ho:o.guard=g) {b:Bool} (h:nZ ops G g=some b):Region.wanted o (yielded ops.toArray a.tmps)=b:=by
 unfold Region.wanted
 rw [ho]
 cases g with
 |none=>simpa [nZ] using h
 |some jb=>
  obtain ⟨j,b'⟩:=jb
  simp only [nZ] at h
  cases hs:qZ ops j with
  |none=>
   simp only [hs] at h
   have:yielded ops.toArray a.tmps j=none:=by unfold yielded;rw [aAK,hs];rfl
   simp only [this]
   simpa using h
  |some t=>
   simp only [hs] at h
   cases hv:lk G t with
   |none=>simp [hv] at h
   |some v=>
    have hg:=ha.get t v hv
    cases v with
    |bool c=>
     simp only [hv] at h
     have:yielded ops.toArray a.tmps j=some c:=by unfold yielded;rw [aAK,hs];simp [hg]
     simp only [this]
     simpa using h
    |tuple vs=>
     simp only [hv] at h
     have:yielded ops.toArray a.tmps j=none:=by unfold yielded;rw [aAK,hs];simp [hg]
     simp only [this]
     simpa using h
    |_=>simp [hv] at h
theorem iX {d:Nat} {v:Value} {g:Option (Nat × Bool)} (hg:nZ ops G g=some true) (hc:Const P n G op ty (m.C w) v) (hf:iO op=true) (hd:Nat.ble (d+1) n=true) (k:R P n ops Q m.next l ((d,v)::G) w):
  R P n ops Q m (⟨some d,op,ty,pos,af,g⟩::l) G w:=⟨fun a ha=>by
 have hw:=uT ha (o:=⟨some d,op,ty,pos,af,g⟩) rfl hg
 exact ⟨fun _=> .inl ⟨hf,v,fun w' hw=>hc.go a ha (some d) pos af g w' hw,k.go _ (ha.put (some d) v hd)⟩,fun h=>by rw [hw] at h;cases h⟩⟩
theorem qA {d:Nat} {g:Option (Nat × Bool)} (hg:nZ ops G g=some false) (hf:iO op=true) (hd:Nat.ble (d+1) n=true) (k:R P n ops Q m.next l ((d,undef)::G) w):
  R P n ops Q m (⟨some d,op,ty,pos,af,g⟩::l) G w:=⟨fun a ha=>by
 have hw:=uT ha (o:=⟨some d,op,ty,pos,af,g⟩) rfl hg
 refine ⟨fun h=>(by rw [hw] at h;cases h),fun _=>?_⟩
 have:=k.go _ (ha.put (some d) undef hd)
 cases m with
 |seq=>exact ⟨trivial,this⟩
 |any Cs k ms=>simp only [Mode.held,Mode.skip,hf,cond_true];exact ⟨trivial,this⟩⟩
theorem aPG {g:Option (Nat × Bool)} (hg:nZ ops G g=some false) (hf:iO op=false) (hd:fits d n=true) (hok:m.ok w) (k:R P n ops Q m.nextE l (put G d undef) w):
  R P n ops Q m (⟨d,op,ty,pos,af,g⟩::l) G w:=⟨fun a ha=>by
 have hw:=uT ha (o:=⟨d,op,ty,pos,af,g⟩) rfl hg
 refine ⟨fun h=>(by rw [hw] at h;cases h),fun _=>?_⟩
 have:=k.go _ (ha.put d undef hd)
 cases m with
 |seq=>exact ⟨trivial,this⟩
 |any Cs k ms=>simp only [Mode.held,Mode.skip,hf,cond_false];exact ⟨hok,this⟩⟩
theorem nP {g:Option (Nat × Bool)} (hg:nZ ops G g=some false) (hf:iO op=false) (hd:fits d n=true) (k:R P n ops Q .seq l (put G d undef) w):
  R P n ops Q .seq (⟨d,op,ty,pos,af,g⟩::l) G w:=aPG (m:= .seq) hg hf hd True.intro k
theorem aYA {d:Nat} {K:Value→World→Prop} {g:Option (Nat × Bool)} (hg:nZ ops G g=some true) (hc:Eff P n G op ty w K) (hf:iO op=false) (hd:Nat.ble (d+1) n=true) (k:∀v w',K v w'→m.ok w'∧R P n ops Q m.nextE l ((d,v)::G) w'):
  R P n ops Q m (⟨some d,op,ty,pos,af,g⟩::l) G w:=⟨fun a ha=>by
 have hw:=uT ha (o:=⟨some d,op,ty,pos,af,g⟩) rfl hg
 exact ⟨fun _=> .inr ⟨hf,Oper.wp_mono (fun a' w' ⟨v,hK,he⟩=>by subst he;exact ⟨(k v w' hK).1,(k v w' hK).2.go _ (ha.put (some d) v hd)⟩) (hc.go a ha (some d) pos af g)⟩,fun h=>by rw [hw] at h;cases h⟩⟩
theorem R_ef0 {K:Value→World→Prop} {g:Option (Nat × Bool)} (hg:nZ ops G g=some true) (hc:Eff P n G op ty w K) (hf:iO op=false) (k:∀v w',K v w'→m.ok w'∧R P n ops Q m.nextE l G w'):
  R P n ops Q m (⟨none,op,ty,pos,af,g⟩::l) G w:=⟨fun a ha=>by
 have hw:=uT ha (o:=⟨none,op,ty,pos,af,g⟩) rfl hg
 exact ⟨fun _=> .inr ⟨hf,Oper.wp_mono (fun a' w' ⟨v,hK,he⟩=>by subst he;exact ⟨(k v w' hK).1,(k v w' hK).2.go _ ha⟩) (hc.go a ha none pos af g)⟩,fun h=>by rw [hw] at h;cases h⟩⟩
theorem Has.same {a:Act} (ha:Has n G a) {t:Nat} {v v':Value} (h:lk G t=some v) (e:v=v'):Has n (Fx.put G (some t) v') a:=by
 subst e
 refine ⟨ha.size,ha.defers,fun s u hu=>?_⟩
 simp only [Fx.put,lk] at hu
 cases hb:Nat.beq t s with
 |true=>
  have:=Nat.eq_of_beq_eq_true hb
  subst this
  simp [hb] at hu
  subst hu
  exact ha.get _ _ h
 |false=>simp [hb] at hu;exact ha.get _ _ hu
theorem zY {p:Prop} [Decidable p] {g:Nat × Bool} {t:Nat} (hj:qZ ops g.1=some t) (hv:lk G t=some (.bool (B p)))
  (h1:p→R P n ops Q m (⟨d,op,ty,pos,af,some g⟩::l) ((t, .bool true)::G) w) (h2:¬p→R P n ops Q m (⟨d,op,ty,pos,af,some g⟩::l) ((t, .bool false)::G) w):
  R P n ops Q m (⟨d,op,ty,pos,af,some g⟩::l) G w:=⟨fun a ha=>by
 by_cases hp:p
 ·exact (h1 hp).go a (ha.same hv (by rw [bK hp]))
 ·exact (h2 hp).go a (ha.same hv (by rw [bH hp]))⟩
theorem aBL {p:Prop} [Decidable p] {g:Nat × Bool} {t:Nat} (hj:qZ ops g.1=some t) (hv:lk G t=some (.bool (B p))) (hp:p)
  (h1:R P n ops Q m (⟨d,op,ty,pos,af,some g⟩::l) ((t, .bool true)::G) w):R P n ops Q m (⟨d,op,ty,pos,af,some g⟩::l) G w:=zY hj hv (fun _=>h1) (fun h=>absurd hp h)
theorem aCA {p:Prop} [Decidable p] {g:Nat × Bool} {t:Nat} (hj:qZ ops g.1=some t) (hv:lk G t=some (.bool (B p))) (hp:¬p)
  (h1:R P n ops Q m (⟨d,op,ty,pos,af,some g⟩::l) ((t, .bool false)::G) w):R P n ops Q m (⟨d,op,ty,pos,af,some g⟩::l) G w:=zY hj hv (fun h=>absurd h hp) (fun _=>h1)
end
end Go.Fx
namespace Go.Fx
/- ---------- types, as instances that a seat's own text supplies ---------- -/
class SliceTy (P:Program) (t:TypeId) (e:outParam TypeId) (sz:outParam Nat):Prop where
 und:P.underlying t=some (.slice e)
 size:(P.info? e).map (·.size)=some sz
class ElemTy (P:Program) (e:TypeId) (sz:outParam Nat) (by_:outParam Nat) (z:outParam (List Value)):Prop where
 info:(P.info? e).map (fun i=>(i.size,i.bytes,i.zero.map (·.cells)))=some (sz,by_,some z.toArray)
 len:z.length=sz
class ScalarTy (P:Program) (t:TypeId):Prop where
 und:∃d,P.underlying t=some d∧(∀f,d≠ .struct f)∧(∀n e,d≠ .array n e)
 size:(P.info? t).map (·.size)=some 1
class AggTy (P:Program) (t:TypeId) (sz:outParam Nat):Prop where
 und:(∃f,P.underlying t=some (.struct f))∨(∃n e,P.underlying t=some (.array n e))
 size:(P.info? t).map (·.size)=some sz
class FieldAt (P:Program) (s:TypeId) (k:Nat) (off:outParam Nat) (ft:outParam TypeId) (sz:outParam Nat):Prop where
 und:∃fs f,P.underlying s=some (.struct fs)∧fs[k]?=some f∧f.offset=off∧f.type=ft
 size:(P.info? ft).map (·.size)=some sz
class StructTy (P:Program) (t:TypeId) (places:outParam (List (Nat × Nat))) (z:outParam (List Value)):Prop where
 und:∃fs,P.underlying t=some (.struct fs)∧fs.toList.map (fun f=>(f.offset,(P.info? f.type).map (·.size)))=places.map (fun p=>(p.1,some p.2))
 zero:(P.info? t).map (fun i=>i.zero.map (·.cells))=some (some z.toArray)
class ArrTy (P:Program) (t:TypeId) (len:outParam Nat) (e:outParam TypeId) (sz:outParam Nat):Prop where
 und:P.underlying t=some (.array len e)
 size:(P.info? e).map (·.size)=some sz
class IntTy (P:Program) (t:TypeId) (k:outParam IntKind):Prop where
 und:P.underlying t=some (.int k)
class StrTy (P:Program) (t:TypeId):Prop where
 und:P.underlying t=some .string
class BoolTy (P:Program) (t:TypeId):Prop where
 und:P.underlying t=some .bool
class FnOk (P:Program) (f:FuncId):Prop where
 ok:∃fn,P.funcs[f]?=some fn∧(fn.name== "runtime.NumGoroutine")=false∧fn.body.isNone=false
theorem run_sizeOf {P:Program} {e:TypeId} {sz:Nat} (h:(P.info? e).map (·.size)=some sz) (w:World):(sizeOf e).run P w= .ok sz w:=by
 obtain ⟨i,hi,rfl⟩:=Option.map_eq_some_iff.1 h
 simp [sizeOf,typeInfo,hi]
theorem eU {P:Program} {t:TypeId} {d:TypeDesc} (h:P.underlying t=some d) (w:World):(underlying t).run P w= .ok d w:=by
 simp [underlying,h]
/- ---------- arithmetic ---------- -/
theorem wrap_i64 {n:Int} (h: -9223372036854775808≤n∧n≤9223372036854775807):IntKind.i64.wrap n=n:=by
 obtain ⟨h1,h2⟩:=h
 simp only [IntKind.wrap,IntKind.bits,IntKind.signed,Bool.true_and,decide_eq_true_eq,Nat.reduceSub,Int.reducePow,ge_iff_le]
 split
 ·rename_i h;omega
 ·rename_i h;omega
theorem wrap_u64 {n:Int} (h:0≤n∧n≤18446744073709551615):IntKind.u64.wrap n=n:=by
 obtain ⟨h1,h2⟩:=h
 simp only [IntKind.wrap,IntKind.bits,IntKind.signed,Bool.false_and,Bool.false_eq_true,if_false]
 omega
theorem wrap_u32 {n:Int} (h:0≤n∧n≤4294967295):IntKind.u32.wrap n=n:=by
 obtain ⟨h1,h2⟩:=h
 simp only [IntKind.wrap,IntKind.bits,IntKind.signed,Bool.false_and,Bool.false_eq_true,if_false]
 omega
theorem wrap_u8 {n:Int} (h:0≤n∧n≤255):IntKind.u8.wrap n=n:=by
 obtain ⟨h1,h2⟩:=h
 simp only [IntKind.wrap,IntKind.bits,IntKind.signed,Bool.false_and,Bool.false_eq_true,if_false]
 omega
/- ---------- values that want no look at memory or types ---------- -/
def gD (op:BinOp) (a b:Int):Option Value:=
 match op with
 | .eql=>some (.bool (B (a=b)))
 | .neq=>some (.bool (B (a≠b)))
 | .lss=>some (.bool (B (a < b)))
 | .leq=>some (.bool (B (a≤b)))
 | .gtr=>some (.bool (B (b < a)))
 | .geq=>some (.bool (B (b≤a)))
 |_=>none
theorem aZQ {P:Program} {w:World} {op:BinOp} {a b:Int} {v:Value} (h:gD op a b=some v):(Op.intCmp op a b).run P w= .ok v w∧(op≠ .add∧op≠ .sub∧op≠ .mul∧op≠ .quo∧op≠ .rem∧op≠ .and∧op≠ .or∧op≠ .xor∧op≠ .andNot∧op≠ .shl∧op≠ .shr):=by
 cases op <;>simp only [gD,Option.some.injEq,reduceCtorEq] at h <;>subst h <;>refine ⟨?_,by simp⟩ <;>simp only [Op.intCmp,Sem.run_pure,tZ]
 ·rfl
 ·congr 2
  simp [bne,Bool.beq_eq_decide_eq]
def evs (G:Env):List Operand→Option (List Value)
 |[]=>some []
 |x::r=>match ev G x with
  |some v=>(evs G r).map (v:: ·)
  |none=>none
def aQZ:IntKind→IntKind→Bool
 | .i8, .i8| .i16, .i16| .i32, .i32| .i64, .i64| .u8, .u8| .u16, .u16| .u32, .u32| .u64, .u64=>true
 |_,_=>false
theorem aVE {k k':IntKind} (h:aQZ k k'=true):k=k':=by cases k <;>cases k' <;>simp_all [aQZ]
def aCE (G:Env):Op→Option Value
 | .move x=>ev G x
 | .assign x=>ev G x
 | .pick c a b=>match ev G c with
  |some (.bool true)=>ev G a
  |some (.bool false)=>ev G b
  |_=>none
 | .binOp op _ x y _=>match ev G x,ev G y with
  |some (.int k a),some (.int k' b)=>bif aQZ k k' then gD op a b else none
  |_,_=>none
 | .unOp op _ x=>match op,ev G x with
  | .not,some (.bool b)=>some (.bool (!b))
  |_,_=>none
 | .extract t i=>match ev G t with
  |some (.tuple vs)=>vs.toList[i]?
  |_=>none
 | .makeFunc fn f c=>match evs G f.toList,evs G c.toList with
  |some fs,some cs=>some (.func fn fs.toArray cs.toArray)
  |_,_=>none
 |_=>none
theorem Has.evs {n:Nat} {G:Env} {a:Act} (h:Has n G a):∀{l:List Operand} {vs:List Value},Fx.evs G l=some vs→l.map a.eval=vs
 |[],vs,hv=>by simp [Fx.evs] at hv;simp [hv]
 |x::r,vs,hv=>by
  simp only [Fx.evs] at hv
  cases hx:Fx.ev G x with
  |none=>simp [hx] at hv
  |some v=>
   simp only [hx] at hv
   cases hr:Fx.evs G r with
   |none=>simp [hr] at hv
   |some us=>
    simp [hr] at hv
    subst hv
    simp [h.ev hx,h.evs hr]
section
variable {P:Program} {n:Nat} {G:Env} {ty:TypeId} {C:World→Prop}
theorem bP {op:Op} {v:Value} (h:aCE G op=some v):Const P n G op ty C v:=by
 refine ⟨?_⟩
 intro a ha dst pos after guard w _
 cases op
 case move x=>simp [execOp,ha.ev h]
 case assign x=>simp [execOp,ha.ev h]
 case pick c x y=>
  simp only [aCE] at h
  cases hc:ev G c with
  |none=>simp [hc] at h
  |some vc=>
   cases vc with
   |bool b=>cases b <;>simp only [hc] at h <;>simp [execOp,ha.ev hc,ha.ev h,asBool]
   |_=>simp [hc] at h
 case binOp op t x y t'=>
  simp only [aCE] at h
  cases hx:ev G x with
  |none=>simp [hx] at h
  |some vx=>
   cases vx with
   |int k p=>
    cases hy:ev G y with
    |none=>simp [hx,hy] at h
    |some vy=>
     cases vy with
     |int k' q=>
      simp only [hx,hy] at h
      cases hk:aQZ k k' with
      |false=>simp [hk] at h
      |true=>
       have:=aVE hk
       subst this
       simp only [hk,cond_true] at h
       obtain ⟨hr,hne⟩:=aZQ (P:=P) (w:=w) h
       cases op <;>simp_all [execOp,ha.ev hx,ha.ev hy,eqGuard,binOp]
     |_=>simp [hx,hy] at h
   |_=>simp [hx] at h
 case unOp op t x=>
  simp only [aCE] at h
  cases hx:ev G x with
  |none=>cases op <;>simp [hx] at h
  |some vx=>
   cases op with
   |not=>cases vx with
    |bool b=>simp [hx] at h;subst h;simp [execOp,ha.ev hx,Op.unary]
    |_=>simp [hx] at h
   |_=>cases vx <;>simp [hx] at h
 case extract t i=>
  simp only [aCE] at h
  cases ht:ev G t with
  |none=>simp [ht] at h
  |some vt=>
   cases vt with
   |tuple vs=>
    have h':vs[i]?=some v:=by simpa [ht] using h
    simp [execOp,ha.ev ht,Instr.extract,h']
   |_=>simp [ht] at h
 case makeFunc fn f c=>
  simp only [aCE] at h
  cases hf:evs G f.toList with
  |none=>simp [hf] at h
  |some fs=>
   cases hc:evs G c.toList with
   |none=>simp [hf,hc] at h
   |some cs=>
    simp [hf,hc] at h
    subst h
    have e1:f.map a.eval=fs.toArray:=by
     apply Array.ext';simp [ha.evs hf]
    have e2:c.map a.eval=cs.toArray:=by
     apply Array.ext';simp [ha.evs hc]
    simp [execOp,Instr.makeFunc,e1,e2]
 all_goals (simp [aCE] at h)
theorem wR {op:BinOp} {t t':TypeId} {x y:Operand} {k:IntKind} {a b c:Int} (hx:ev G x=some (.int k a)) (hy:ev G y=some (.int k b))
  (h:(op= .add∧k.wrap (a+b)=c)∨(op= .sub∧k.wrap (a - b)=c)∨(op= .mul∧k.wrap (a*b)=c)):Const P n G (.binOp op t x y t') ty C (.int k c):=by
 refine ⟨?_⟩
 intro s ha dst pos after guard w _
 rcases h with ⟨rfl,rfl⟩|⟨rfl,rfl⟩|⟨rfl,rfl⟩ <;>simp [execOp,ha.ev hx,ha.ev hy,eqGuard,binOp,Op.intArith]
theorem dC {t t':TypeId} {x y:Operand} {k:IntKind} {a b c:Int} (hx:ev G x=some (.int k a)) (hy:ev G y=some (.int k b)) (h:k.wrap (a+b)=c):
  Const P n G (.binOp .add t x y t') ty C (.int k c):=wR hx hy (.inl ⟨rfl,h⟩)
theorem dD {t t':TypeId} {x y:Operand} {k:IntKind} {a b c:Int} (hx:ev G x=some (.int k a)) (hy:ev G y=some (.int k b)) (h:k.wrap (a - b)=c):
  Const P n G (.binOp .sub t x y t') ty C (.int k c):=wR hx hy (.inr (.inl ⟨rfl,h⟩))
theorem gW {t t':TypeId} {x y:Operand} {k:IntKind} {a b c:Int} (hx:ev G x=some (.int k a)) (hy:ev G y=some (.int k b)) (h:k.wrap (a*b)=c):
  Const P n G (.binOp .mul t x y t') ty C (.int k c):=wR hx hy (.inr (.inr ⟨rfl,h⟩))
theorem gH {t:TypeId} {x:Operand} {k:IntKind} {a c:Int} (hx:ev G x=some (.int k a)) (h:k.wrap (0 - a)=c):Const P n G (.unOp .neg t x) ty C (.int k c):=by
 refine ⟨?_⟩
 intro s ha dst pos after guard w _
 subst h
 simp [execOp,ha.ev hx,Op.unary,Op.intArith]
theorem gU {t t':TypeId} {x y:Operand} {k:IntKind} {a b c:Int} (hx:ev G x=some (.int k a)) (hy:ev G y=some (.int k b)) (hb:b≠0) (h:k.wrap (a.tdiv b)=c):
  Const P n G (.binOp .quo t x y t') ty C (.int k c):=by
 refine ⟨?_⟩
 intro s ha dst pos after guard w _
 subst h
 simp [execOp,ha.ev hx,ha.ev hy,eqGuard,binOp,Op.intDiv,hb]
theorem gV {t t':TypeId} {x y:Operand} {k:IntKind} {a b c:Int} (hx:ev G x=some (.int k a)) (hy:ev G y=some (.int k b)) (hb:b≠0) (h:a.tmod b=c):
  Const P n G (.binOp .rem t x y t') ty C (.int k c):=by
 refine ⟨?_⟩
 intro s ha dst pos after guard w _
 subst h
 simp [execOp,ha.ev hx,ha.ev hy,eqGuard,binOp,Op.intDiv,hb]
theorem aLH {op:BinOp} {t t':TypeId} {x y:Operand} {k k':IntKind} {a b c:Int} (hx:ev G x=some (.int k a)) (hy:ev G y=some (.int k' b))
  (hb:0≤b) (h:(op= .shl∧k.wrap (a*2 ^ (min b.toNat k.bits))=c)∨(op= .shr∧a.fdiv (2 ^ (min b.toNat k.bits))=c)):Const P n G (.binOp op t x y t') ty C (.int k c):=by
 refine ⟨?_⟩
 intro s ha dst pos after guard w _
 have:¬b < 0:=by omega
 rcases h with ⟨rfl,rfl⟩|⟨rfl,rfl⟩ <;>simp [execOp,ha.ev hx,ha.ev hy,eqGuard,binOp,Op.shift,this]
theorem fE {s t:TypeId} {x:Operand} {k j:IntKind} {a c:Int} [hs:IntTy P s j] [ht:IntTy P t k] (hx:ev G x=some (.int j a)) (h:k.wrap a=c):Const P n G (.convert s t x) ty C (.int k c):=by
 refine ⟨?_⟩
 intro st ha dst pos after guard w _
 subst h
 simp [execOp,ha.ev hx,convert,eU hs.und,eU ht.und,Conv.intToInt]
theorem aTM {x y:Operand} {k:IntKind} {a b:Int} {at_:Array TypeId} (hx:ev G x=some (.int k a)) (hy:ev G y=some (.int k b)):
  Const P n G (.call {callee:= .builtin .min,args:=#[x,y],argTypes:=at_}) ty C (.int k (if b < a then b else a)):=by
 refine ⟨?_⟩
 intro s ha dst pos after guard w _
 simp [execOp,resolve,invoke,builtin,Builtin.min_,Builtin.min2,ha.ev hx,ha.ev hy]
theorem aTY {x y:Operand} {k:IntKind} {a b:Int} {at_:Array TypeId} (hx:ev G x=some (.int k a)) (hy:ev G y=some (.int k b)):
  Const P n G (.call {callee:= .builtin .max,args:=#[x,y],argTypes:=at_}) ty C (.int k (if a < b then b else a)):=by
 refine ⟨?_⟩
 intro s ha dst pos after guard w _
 simp [execOp,resolve,invoke,builtin,Builtin.max_,Builtin.max2,ha.ev hx,ha.ev hy]
theorem dE {x:Operand} {t e:TypeId} {sz:Nat} [ht:SliceTy P t e sz] {p:Option Addr} {l c:Nat} (hx:ev G x=some (.slice p l c)):
  Const P n G (.call {callee:= .builtin .len,args:=#[x],argTypes:=#[t]}) ty C (.int .i64 l):=by
 refine ⟨?_⟩
 intro s ha dst pos after guard w _
 simp [execOp,resolve,invoke,builtin,Builtin.len_,ha.ev hx,eU ht.und,goInt]
/- ---------- addresses ---------- -/
def bl (a:Option Addr):Nat:=(a.getD default).block
def of (a:Option Addr):Nat:=(a.getD default).off
def pt (a:Option Addr) (k:Nat):Addr:=⟨bl a,of a+k,none⟩
def Ok (a:Option Addr):Prop:=a=some ⟨bl a,of a,none⟩
theorem Ok.mk (b o:Nat):Ok (some ⟨b,o,none⟩):=rfl
theorem Ok.cases {a:Option Addr} (h:Ok a):∃b o,a=some ⟨b,o,none⟩:=⟨_,_,h⟩
theorem add_lit (b o k:Nat):(⟨b,o,none⟩:Addr).add k=⟨b,o+k,none⟩:=by unfold Addr.add;split <;>simp_all
theorem rM {t e:TypeId} {sz:Nat} {x ix:Operand} {a:Option Addr} {len c:Nat} {k:IntKind} {i:Int} [ht:SliceTy P t e sz]
  (hx:ev G x=some (.slice a len c)) (hi:ev G ix=some (.int k i)) (h:0≤i∧i < len) (hok:Ok a):
  Const P n G (.indexAddr t x ix) ty C (.pointer (some (pt a (i.toNat*sz)))):=by
 refine ⟨?_⟩
 intro s ha dst pos after guard w _
 obtain ⟨b,o,rfl⟩:=hok.cases
 simp [execOp,Instr.indexAt,ha.ev hx,ha.ev hi,asIntOf,eU ht.und,run_sizeOf ht.size,h.1,h.2,add_lit,pt,bl,of]
theorem dZ {t e:TypeId} {sz len:Nat} {x ix:Operand} {b o:Nat} {k:IntKind} {i:Int} [ht:ArrTy P t len e sz]
  (hx:ev G x=some (.pointer (some ⟨b,o,none⟩))) (hi:ev G ix=some (.int k i)) (h:0≤i∧i < len):
  Const P n G (.indexAddr t x ix) ty C (.pointer (some ⟨b,o+i.toNat*sz,none⟩)):=by
 refine ⟨?_⟩
 intro s ha dst pos after guard w _
 simp [execOp,Instr.indexAt,ha.ev hx,ha.ev hi,asIntOf,eU ht.und,run_sizeOf ht.size,h.1,h.2,add_lit,Instr.sureAddr]
theorem aAJ {s ft:TypeId} {k off sz:Nat} {x:Operand} {b o:Nat} [ht:FieldAt P s k off ft sz]
  (hx:ev G x=some (.pointer (some ⟨b,o,none⟩))) (hs:sz≠0):Const P n G (.fieldAddr s x k) ty C (.pointer (some ⟨b,o+off,none⟩)):=by
 refine ⟨?_⟩
 intro st ha dst pos after guard w _
 obtain ⟨fs,f,h1,h2,rfl,rfl⟩:=ht.und
 simp [execOp,Instr.fieldAt,ha.ev hx,eU h1,h2,Instr.sureAddr,fieldPlace,run_sizeOf ht.size,hs,add_lit]
theorem fB {x:Operand} {b o:Nat} (hx:ev G x=some (.pointer (some ⟨b,o,none⟩))):Const P n G (.nilCheck x) ty C (.pointer (some ⟨b,o,none⟩)):=by
 refine ⟨?_⟩
 intro s ha dst pos after guard w _
 simp [execOp,ha.ev hx]
theorem mK {t:TypeId} [ht:ScalarTy P t] (w:World):(isAgg t).run P w= .ok false w:=by
 obtain ⟨d,h,h1,h2⟩:=ht.und
 unfold isAgg
 rw [Sem.run_bind,eU h]
 cases d <;>first|rfl|exact absurd rfl (h1 _)|exact absurd rfl (h2 _ _)
theorem nJ {t:TypeId} {sz:Nat} [ht:AggTy P t sz] (w:World):(isAgg t).run P w= .ok true w:=by
 rcases ht.und with ⟨f,h⟩|⟨m,e,h⟩ <;>simp [isAgg,eU h]
theorem vT {t:TypeId} {x:Operand} {a:Addr} {v:Value} [ScalarTy P t] (hx:ev G x=some (.pointer (some a))) (hc:∀w,C w→w.cell? a=some v):
  Const P n G (.load t x) ty C v:=by
 refine ⟨?_⟩
 intro s ha dst pos after guard w hw
 simp [execOp,Instr.loadAt,ha.ev hx,Instr.sureAddr,loadVar,mK,hc w hw]
def Row (w:World) (b o:Nat) (vs:List Value):Prop:=∀j v,vs[j]?=some v→w.cell? ⟨b,o+j,none⟩=some v
theorem run_loadCellsFrom {b o:Nat} {w:World} (vs:List Value) (h:Row w b o vs):∀(m i:Nat) (acc:Array Value),i+m=vs.length→acc.toList=vs.take i→
  (loadCellsFrom ⟨b,o,none⟩ i m acc).run P w= .ok vs.toArray w
 |0,i,acc,hl,ha=>by
  have:acc=vs.toArray:=by apply Array.ext';rw [ha,List.take_of_length_le (by omega)]
  simp [loadCellsFrom,this]
 |m+1,i,acc,hl,ha=>by
  have hi:i < vs.length:=by omega
  have h1:=h i vs[i] (by simp [hi])
  simp only [loadCellsFrom,Sem.run_bind,add_lit,run_load,h1,Result.andThen_ok]
  exact run_loadCellsFrom vs h m (i+1) _ (by omega) (by rw [Array.toList_push,ha,List.take_succ_eq_append_getElem hi])
theorem sW {t:TypeId} {sz:Nat} {x:Operand} {b o:Nat} {vs:List Value} [ht:AggTy P t sz] (hx:ev G x=some (.pointer (some ⟨b,o,none⟩))) (hl:vs.length=sz)
  (hc:∀w,C w→Row w b o vs):Const P n G (.load t x) ty C (.agg vs.toArray):=by
 refine ⟨?_⟩
 intro s ha dst pos after guard w hw
 have:=run_loadCellsFrom (P:=P) vs (hc w hw) sz 0 #[] (by omega) rfl
 simp [execOp,Instr.loadAt,ha.ev hx,Instr.sureAddr,loadVar,nJ,run_sizeOf ht.size,loadCells,this]
theorem eF {s ft:TypeId} {k off sz:Nat} {x:Operand} {cs:List Value} {v:Value} [ht:FieldAt P s k off ft sz] [ScalarTy P ft]
  (hx:ev G x=some (.agg cs.toArray)) (hv:cs[off]?=some v):Const P n G (.field s x k) ty C v:=by
 refine ⟨?_⟩
 intro st ha dst pos after guard w _
 obtain ⟨fs,f,h1,h2,rfl,rfl⟩:=ht.und
 simp [execOp,Instr.field,ha.ev hx,eU h1,h2,asAgg,part,mK,hv]
theorem dI {s ft:TypeId} {k off sz sz':Nat} {x:Operand} {cs:List Value} [ht:FieldAt P s k off ft sz] [AggTy P ft sz']
  (hx:ev G x=some (.agg cs.toArray)):Const P n G (.field s x k) ty C (.agg ((cs.drop off).take sz).toArray):=by
 refine ⟨?_⟩
 intro st ha dst pos after guard w _
 obtain ⟨fs,f,h1,h2,rfl,rfl⟩:=ht.und
 have e:(cs.take (f.offset+sz)).drop f.offset=(cs.drop f.offset).take sz:=by
  rw [List.drop_take];congr 1;omega
 simp [execOp,Instr.field,ha.ev hx,eU h1,h2,asAgg,part,nJ,run_sizeOf ht.size,List.extract_eq_take_drop]
theorem aMB {t e:TypeId} {sz:Nat} {x:Operand} {lo hi:Option Operand} {a:Option Addr} {len c l h:Nat} [ht:SliceTy P t e sz]
  (hx:ev G x=some (.slice a len c))
  (hl:(lo=none∧l=0)∨∃y k,lo=some y∧ev G y=some (.int k (l:Int)))
  (hh:(hi=none∧h=len)∨∃y k,hi=some y∧ev G y=some (.int k (h:Int)))
  (h1:l≤h) (h2:h≤c):
  Const P n G (.slice t x lo hi none) ty C (.slice (if c=l then a else a.map (·.add (l*sz))) (h - l) (c - l)):=by
 refine ⟨?_⟩
 intro st ha dst pos after guard w _
 have h3:l≤c:=by omega
 rcases hl with ⟨rfl,rfl⟩|⟨y,k,rfl,hy⟩
 ·rcases hh with ⟨rfl,rfl⟩|⟨y',k',rfl,hy'⟩
  ·simp [execOp,Instr.sliceAt,Instr.slice,ha.ev hx,eU ht.und,run_sizeOf ht.size,Instr.sliceBounds]
  ·simp [execOp,Instr.sliceAt,Instr.slice,ha.ev hx,eU ht.und,run_sizeOf ht.size,Instr.sliceBounds,Instr.sliceBound,asIntOf,ha.ev hy',h2]
 ·rcases hh with ⟨rfl,rfl⟩|⟨y',k',rfl,hy'⟩
  ·simp [execOp,Instr.sliceAt,Instr.slice,ha.ev hx,eU ht.und,run_sizeOf ht.size,Instr.sliceBounds,Instr.sliceBound,asIntOf,ha.ev hy,h1]
  ·simp [execOp,Instr.sliceAt,Instr.slice,ha.ev hx,eU ht.und,run_sizeOf ht.size,Instr.sliceBounds,Instr.sliceBound,asIntOf,ha.ev hy,ha.ev hy',h1,h2]
end
end Go.Fx
namespace Go.Fx
/- ---------- growth ---------- -/
structure Ext (X:List Nat) (w w':World):Prop where
 os:w'.os=w.os
 tape:w'.tape=w.tape
 output:w'.output=w.output
 size:w.heap.size≤w'.heap.size
 block:∀k,k < w.heap.size→k ∉ X→w'.heap[k]?=w.heap[k]?
theorem Ext.refl (X:List Nat) (w:World):Ext X w w:=⟨rfl,rfl,rfl,Nat.le_refl _,fun _ _ _=>rfl⟩
theorem Ext.trans {X:List Nat} {a b c:World} (h:Ext X a b) (k:Ext X b c):Ext X a c:=
 ⟨k.os.trans h.os,k.tape.trans h.tape,k.output.trans h.output,Nat.le_trans h.size k.size,fun i hi hx=>(k.block i (Nat.lt_of_lt_of_le hi h.size) hx).trans (h.block i hi hx)⟩
theorem Ext.weaken {X Y:List Nat} {w w':World} (h:Ext X w w') (hs:∀k∈X,k∈Y):Ext Y w w':=
 ⟨h.os,h.tape,h.output,h.size,fun k hk hy=>h.block k hk (fun hx=>hy (hs k hx))⟩
theorem Ext.of_nil {Y:List Nat} {w w':World} (h:Ext [] w w'):Ext Y w w':=h.weaken (fun k hk=>by simp at hk)
theorem Ext.drew (X:List Nat) (w:World):Ext X w w.drew:=⟨rfl,rfl,rfl,Nat.le_refl _,fun _ _ _=>rfl⟩
theorem Ext.alloc (X:List Nat) (w:World) (o:Obj):Ext X w (w.alloc o):=
 ⟨rfl,rfl,rfl,by simp,fun k hk _=>Go.RowKit.Below.heap_alloc _ _ _ hk⟩
theorem Ext.setCell {X:List Nat} {w:World} {p:Addr} (hp:p.block∈X) (v:Value):Ext X w (w.setCell p v):=
 ⟨rfl,rfl,rfl,by simp,fun k _ hx=>Go.RowKit.Below.heap_setCell _ _ _ _ (fun e=>hx (e ▸ hp))⟩
theorem Ext.cell {X:List Nat} {w w':World} (h:Ext X w w') {p:Addr} {v:Value} (hc:w.cell? p=some v) (hx:p.block ∉ X):w'.cell? p=some v:=
 (World.cell?_of_block (h.block p.block (World.block_lt_of_cell? w p hc) hx)).trans hc
theorem Ext.below {w w':World} (h:Ext [] w w'):Go.RowKit.Below w.heap.size w w':=
 ⟨h.os,h.tape,h.output,h.size,fun k hk=>h.block k hk (by simp)⟩
/- ---------- slices ---------- -/
def Sl (X:List Nat) (w:World) (a:Option Addr) (cs:List Value):Prop:=
 ∀j v,cs[j]?=some v→Ok a∧bl a ∉ X∧w.cell? (pt a j)=some v
theorem Sl.nil (X:List Nat) (w:World) (a:Option Addr):Sl X w a []:=fun j v h=>by simp at h
theorem Sl.mono {X:List Nat} {w w':World} {a:Option Addr} {cs:List Value} (h:Sl X w a cs) (he:Ext X w w'):Sl X w' a cs:=fun j v hj=>
 let ⟨h1,h2,h3⟩:=h j v hj
 ⟨h1,h2,he.cell h3 h2⟩
theorem Sl.ok {X:List Nat} {w:World} {a:Option Addr} {cs:List Value} (h:Sl X w a cs) (hl:0 < cs.length):Ok a:=
 (h 0 cs[0] (by simp [hl])).1
theorem Sl.less {X Y:List Nat} {w:World} {a:Option Addr} {cs:List Value} (h:Sl X w a cs) (hs:∀k∈Y,k∈X):Sl Y w a cs:=fun j v hj=>
 let ⟨h1,h2,h3⟩:=h j v hj
 ⟨h1,fun hy=>h2 (hs _ hy),h3⟩
theorem Sl.more {X Y:List Nat} {w:World} {a:Option Addr} {cs:List Value} (h:Sl X w a cs) (hs:∀k∈Y,k∈X∨w.heap.size≤k):Sl Y w a cs:=fun j v hj=>by
 obtain ⟨h1,h2,h3⟩:=h j v hj
 refine ⟨h1,fun hy=>?_,h3⟩
 rcases hs _ hy with hx|hx
 ·exact h2 hx
 ·have:=World.block_lt_of_cell? w _ h3
  simp only [pt] at this
  omega
theorem Sl.cell {X:List Nat} {w:World} {a:Option Addr} {cs:List Value} (h:Sl X w a cs) {j:Nat} {v:Value} (hj:cs[j]?=some v):w.cell? (pt a j)=some v:=(h j v hj).2.2
theorem Ok.add {a:Option Addr} (h:Ok a) (j:Nat):Ok (a.map (·.add j)):=by
 obtain ⟨b,o,rfl⟩:=h.cases
 simp [add_lit,Ok.mk]
theorem Sl.drop {X:List Nat} {w:World} {a:Option Addr} {cs:List Value} (h:Sl X w a cs) (k:Nat):Sl X w (a.map (·.add k)) (cs.drop k):=fun j v hj=>by
 rw [List.getElem?_drop] at hj
 obtain ⟨h1,h2,h3⟩:=h _ v hj
 obtain ⟨b,o,rfl⟩:=h1.cases
 refine ⟨h1.add k,?_,?_⟩
 ·simpa [bl,add_lit] using h2
 ·simpa [pt,bl,of,add_lit,Nat.add_assoc] using h3
theorem Sl.take {X:List Nat} {w:World} {a:Option Addr} {cs:List Value} (h:Sl X w a cs) (k:Nat):Sl X w a (cs.take k):=fun j v hj=>by
 rw [List.getElem?_take] at hj
 split at hj
 ·exact h j v hj
 ·cases hj
def xD (a:Option Addr) (c l sz:Nat):Option Addr:=if c=l then a else a.map (·.add (l*sz))
theorem Sl.cut {X:List Nat} {w:World} {a:Option Addr} {cs:List Value} (h:Sl X w a cs) (c l m sz:Nat) (hc:cs.length≤c*sz):Sl X w (xD a c l sz) ((cs.take m).drop (l*sz)):=by
 unfold xD
 split
 ·rename_i e
  subst e
  have:(cs.take m).drop (c*sz)=[]:=by
   apply List.drop_eq_nil_of_le
   simp;omega
  rw [this]
  exact Sl.nil _ _ _
 ·exact (h.take m).drop _
def Ints (X:List Nat) (w:World) (k:IntKind) (a:Option Addr) (xs:List Int):Prop:=Sl X w a (xs.map (Value.int k))
theorem Ints.cell {X:List Nat} {w:World} {k:IntKind} {a:Option Addr} {xs:List Int} (h:Ints X w k a xs) {i:Nat} (hi:i < xs.length):w.cell? (pt a (i*1))=some (.int k (xs.getD i 0)):=by
 refine Sl.cell h ?_
 simp [List.getD,hi]
theorem Ints.ok {X:List Nat} {w:World} {k:IntKind} {a:Option Addr} {xs:List Int} (h:Ints X w k a xs) (hl:0 < xs.length):Ok a:=Sl.ok h (by simpa using hl)
theorem Ints.mono {X:List Nat} {w w':World} {k:IntKind} {a:Option Addr} {xs:List Int} (h:Ints X w k a xs) (he:Ext X w w'):Ints X w' k a xs:=Sl.mono h he
/- ---------- facts of cells, in either mode ---------- -/
/- ---------- calls ---------- -/
def Ret (P:Program) (f:FuncId) (args:List Value) (w:World) (K:Value→World→Prop):Prop:=
 Calls P f args.toArray w (fun e w'=>∃v,e= .returned v∧K v w')
theorem Ret.mono {P:Program} {f:FuncId} {args:List Value} {w:World} {K K':Value→World→Prop} (h:Ret P f args w K) (hk:∀v w',K v w'→K' v w'):Ret P f args w K':=
 Calls.mono h fun _ _ ⟨v,e,h⟩=>⟨v,e,hk v _ h⟩
section
variable {P:Program} {n:Nat} {G:Env} {ty:TypeId} {w:World}
theorem aHS {g:Operand} {f:FuncId} {fs cs:Array Value} {xs:List Operand} {vs:List Value} {at_:Array TypeId} {K:Value→World→Prop} [hf:FnOk P f]
  (hg:ev G g=some (.func (.func f) fs cs)) (hx:evs G xs=some vs) (h:Ret P f (fs.toList++vs++cs.toList) w K):
  Eff P n G (.call {callee:= .value g,args:=xs.toArray,argTypes:=at_}) ty w K:=by
 refine ⟨?_⟩
 intro a ha dst pos after guard
 obtain ⟨fn,h1,h2,h3⟩:=hf.ok
 have e:xs.map a.eval=vs:=ha.evs hx
 unfold Oper.wp
 simp only [execOp,resolve,ha.ev hg,Deferred.ofValue,invoke,callFunc,List.map_toArray,e,Sem.run_bind,Sem.run_pure,Result.andThen_ok,run_program,h1,h2,h3]
 simp only [Bool.false_eq_true,if_false,Sem.run_pure,Oper.upon]
 have e2:fs++vs.toArray++cs=(fs.toList++vs++cs.toList).toArray:=by apply Array.ext';simp
 rw [e2]
 refine Calls.mono h ?_
 rintro e w' ⟨v,rfl,hk⟩
 exact ⟨v,hk,rfl⟩
theorem xC {f:FuncId} {xs:List Operand} {vs:List Value} {at_:Array TypeId} {K:Value→World→Prop} [hf:FnOk P f]
  (hx:evs G xs=some vs) (h:Ret P f vs w K):
  Eff P n G (.call {callee:= .value (.func f),args:=xs.toArray,argTypes:=at_}) ty w K:=
 aHS (fs:=#[]) (cs:=#[]) rfl hx (by simpa using h)
@[irreducible] def Body (P:Program) (fn:Func) (K:Value→World→Prop):Exit→Act→World→Prop:=bodyPost P fn (fun e w'=>∃v,e= .returned v∧K v w')
def aTI:List Value→Nat→Env
 |[],_=>[]
 |v::r,k=>(k,v)::aTI r (k+1)
theorem aQX:∀(vs:List Value) (k t:Nat) (v:Value),lk (aTI vs k) t=some v→k≤t∧vs[t - k]?=some v
 |[],_,_,_,h=>by simp [aTI,lk] at h
 |u::r,k,t,v,h=>by
  simp only [aTI,lk] at h
  cases hb:Nat.beq k t with
  |true=>
   simp [hb] at h
   have:=Nat.eq_of_beq_eq_true hb
   subst this;subst h
   simp
  |false=>
   simp [hb] at h
   obtain ⟨h1,h2⟩:=aQX r (k+1) t v h
   refine ⟨by omega,?_⟩
   have:t - k=(t - (k+1))+1:=by omega
   rw [this]
   simpa using h2
theorem enter {f:FuncId} {fn:Func} {c:Code} {vs:List Value} {K:Value→World→Prop} (hf:P.funcs[f]?=some fn) (hb:fn.body=some c) (hn:fn.ntmps=n) (hl:Nat.ble vs.length n=true)
  (h:T P n c (Body P fn K) (aTI vs 0) w):Ret P f vs w K:=by
 unfold Body at h
 refine calls_of_wp hf hb (h.go _ ⟨?_,rfl,fun t v hv=>?_⟩)
 ·have:=Nat.le_of_ble_eq_true hl
  simp [hn];omega
 ·obtain ⟨_,h2⟩:=aQX vs 0 t v hv
  have hlt:t < vs.length:=by
   have:=(List.getElem?_eq_some_iff.1 h2).1;omega
  simp [Array.getElem?_append,hlt] at h2 ⊢
  exact h2
theorem bEU {fn:Func} {K:Value→World→Prop} {e:Exit} (he:e= .ret∨e= .normal) (hr:fn.results=#[]) (h:K (.tuple #[]) w):
  N n (Body P fn K) e G w:=⟨fun a ha=>by
 unfold Body
 rcases he with rfl|rfl <;>exact ⟨ha.defers,_,results_none hr _ _ _,_,rfl,h⟩⟩
theorem wG {fn:Func} {K:Value→World→Prop} {t:Nat} {v:Value} {e:Exit} (he:e= .ret∨e= .normal) (hr:fn.results=#[.tmp t]) (hv:lk G t=some v) (h:K v w):
  N n (Body P fn K) e G w:=⟨fun a ha=>by
 unfold Body
 have e1:a.tmps.getD t undef=v:=by simp [ha.get t v hv]
 rcases he with rfl|rfl <;>exact ⟨ha.defers,_,results_tmp hr _ _ _,_,rfl,e1 ▸ h⟩⟩
def lks (G:Env):List Nat→Option (List Value)
 |[]=>some []
 |t::r=>match lk G t with
  |some v=>(lks G r).map (v:: ·)
  |none=>none
theorem Has.lks {a:Act} (ha:Has n G a):∀{l:List Nat} {vs:List Value},Fx.lks G l=some vs→l.map (fun t=>a.tmps.getD t undef)=vs:=by
 intro l
 induction l with
 |nil=>intro vs h;simp [Fx.lks] at h;simp [h]
 |cons t l ih=>
  intro vs h
  simp only [Fx.lks] at h
  cases hv:lk G t with
  |none=>simp [hv] at h
  |some v=>
   simp only [hv] at h
   cases hr:Fx.lks G l with
   |none=>simp [hr] at h
   |some us=>
    simp [hr] at h
    subst h
    simp only [List.map_cons,ih hr]
    simp [ha.get t v hv]
theorem aLT (P:Program) (tmps:Array Value) (w:World) (ts:List Nat):((ts.map ResultVar.tmp).toArray.mapM fun
  |ResultVar.tmp t=>(pure (tmps.getD t undef):Sem Value)
  |ResultVar.cell a t=>do loadVar t (←asAddr (tmps.getD a undef))).run P w=Result.ok (ts.map (fun t=>tmps.getD t undef)).toArray w:=by
 rw [List.mapM_toArray]
 simp only [Sem.run_map]
 have:∀(l:List Nat),(List.mapM (m:=Sem) (fun
  |ResultVar.tmp t=>(pure (tmps.getD t undef):Sem Value)
  |ResultVar.cell a t=>do loadVar t (←asAddr (tmps.getD a undef))) (l.map ResultVar.tmp)).run P w=Result.ok (l.map (fun t=>tmps.getD t undef)) w:=by
  intro l
  induction l with
  |nil=>rfl
  |cons t l ih=>
   simp only [List.map_cons,List.mapM_cons,Sem.run_bind,Sem.run_pure,Result.andThen_ok,ih]
 rw [this]
 rfl
theorem bEC {fn:Func} {K:Value→World→Prop} {ts:List Nat} {vs:List Value} {e:Exit} (he:e= .ret∨e= .normal) (hr:fn.results=(ts.map ResultVar.tmp).toArray) (hv:lks G ts=some vs) (hl:Nat.beq vs.length 1=false) (h:K (.tuple vs.toArray) w):
  N n (Body P fn K) e G w:=⟨fun a ha=>by
 unfold Body
 have e1:=ha.lks hv
 have e2:(results fn a.tmps).run P w= .ok (.tuple vs.toArray) w:=by
  have hne:¬vs.length=1:=by intro e;simp [e] at hl
  unfold results
  rw [hr,Sem.run_bind]
  have:=aLT P a.tmps w ts
  rw [e1] at this
  refine (congrArg (fun r=>Result.andThen r fun a w'=>Sem.run P (pure (if h:a.size=1 then a[0] else Value.tuple a)) w') this).trans ?_
  simp [hne]
 rcases he with rfl|rfl <;>exact ⟨ha.defers,_,e2,_,rfl,h⟩⟩
end
end Go.Fx
