/- A layer of my own over the walk's rules: frames as lists of live slots, worlds as variable -/
import Derived.Orders
import Derived.Laws.Sem
import Derived.Laws.World
import Derived.Laws.Cells
import Derived.Tactics
set_option linter.unusedSimpArgs false
set_option linter.unusedVariables false
set_option maxRecDepth 100000
set_option maxHeartbeats 4000000
namespace Go.Fx
/- ---------- frames ---------- -/
abbrev Env:=List (Nat × Value)
def lk:Env→Nat→Option Value
 |[],_=>none
 |(t,v)::r,s=>bif Nat.beq t s then some v else lk r s
structure Has (n:Nat) (G:Env) (a:Act):Prop where
 size:a.tmps.size=n
 defers:a.defers=[]
 get:∀t v,lk G t=some v→a.tmps[t]?=some v
def ev (G:Env):Operand→Option Value
 | .tmp t=>lk G t
 | .const v=>some v
 | .global g=>some (.pointer (some ⟨g,0,none⟩))
 | .func f=>some (.func (.func f) #[] #[])
theorem Has.ev {n:Nat} {G:Env} {a:Act} (h:Has n G a) {x:Operand} {v:Value} (hx:Fx.ev G x=some v):a.eval x=v:=by
 cases x with
 |tmp t=>
  have:=h.get t v hx
  simp [Act.eval,this]
 |const c=>simpa [Fx.ev,Act.eval] using hx
 |global g=>simpa [Fx.ev,Act.eval] using hx
 |func f=>simpa [Fx.ev,Act.eval] using hx
def put (G:Env) (d:Option Nat) (v:Value):Env:=
 match d with
 |some d=>(d,v)::G
 |none=>G
def fits (d:Option Nat) (n:Nat):Bool:=
 match d with
 |some d=>Nat.ble (d+1) n
 |none=>true
theorem Has.put {n:Nat} {G:Env} {a:Act} (h:Has n G a) (d:Option Nat) (v:Value) (hd:fits d n=true):Has n (Fx.put G d v) (a.put d v):=by
 cases d with
 |none=>exact h
 |some d=>
  have hlt:d < n:=by have:=hd;simp [fits] at this;omega
  refine ⟨by simp [Act.put,h.size],h.defers,fun t u hu=>?_⟩
  simp only [Fx.put,lk] at hu
  by_cases e:d=t
  ·subst e
   simp at hu
   subst hu
   simp [Act.put,h.size,hlt]
  ·have:Nat.beq d t=false:=by cases h:Nat.beq d t with
    |false=>rfl
    |true=>exact absurd (Nat.eq_of_beq_eq_true h) e
   rw [this] at hu
   simp only [cond_false] at hu
   simp only [Act.put]
   rw [Array.getElem?_setIfInBounds_ne e]
   exact h.get t u hu
@[irreducible] def B (p:Prop) [Decidable p]:Bool:=decide p
theorem rZ {p:Prop} [Decidable p]:B p=decide p:=by unfold B;rfl
theorem cB {p:Prop} [Decidable p] (h:p):B p=true:=by rw [rZ];exact decide_eq_true h
theorem bF {p:Prop} [Decidable p] (h:¬p):B p=false:=by rw [rZ];exact decide_eq_false h
theorem of_B {p:Prop} [Decidable p] (h:B p=true):p:=by rw [rZ] at h;exact of_decide_eq_true h
theorem aZD {p:Prop} [Decidable p] (h:B p=false):¬p:=by rw [rZ] at h;exact of_decide_eq_false h
inductive Sub (G:Env):Env→Prop
 |nil:Sub G []
 |cons {t:Nat} {v v':Value} {r:Env} (h:lk G t=some v') (e:v'=v) (k:Sub G r):Sub G ((t,v)::r)
theorem Sub.lk {G G':Env} (h:Sub G G'):∀t v,Fx.lk G' t=some v→Fx.lk G t=some v:=by
 induction h with
 |nil=>intro t v h;simp [Fx.lk] at h
 |cons h e _ ih=>
  intro t u hu
  rename_i t0 v0 v0' r _
  simp only [Fx.lk] at hu
  by_cases e2:t0=t
  ·subst e2
   simp at hu
   subst hu;subst e
   exact h
  ·have:Nat.beq t0 t=false:=by cases h:Nat.beq t0 t with
    |false=>rfl
    |true=>exact absurd (Nat.eq_of_beq_eq_true h) e2
   rw [this] at hu
   exact ih t u hu
theorem Has.sub {n:Nat} {G G':Env} {a:Act} (h:Has n G a) (s:Sub G G'):Has n G' a:=
 ⟨h.size,h.defers,fun t v hv=>h.get t v (s.lk t v hv)⟩
/- ---------- operations in a region ---------- -/
inductive Mode where
 |seq
 /- Cs k: what is known of the world when k operations that change it are done; ms: how many of these each operation may still fall behind -/
 |any (Cs:Nat→World→Prop) (k:Nat) (ms:List Nat)
def Mode.C:Mode→World→World→Prop
 | .seq,w,w'=>w'=w
 | .any Cs k ms,_,w'=>Cs (k+ms.headD 0) w'
def Mode.ok:Mode→World→Prop
 | .seq,_=>True
 | .any Cs k _,w'=>Cs (k+1) w'
def Mode.next:Mode→Mode
 | .seq=> .seq
 | .any Cs k ms=> .any Cs k ms.tail
def Mode.nextE:Mode→Mode
 | .seq=> .seq
 | .any Cs k ms=> .any Cs (k+1) ms.tail
def freeB:Builtin→Bool
 | .len| .cap| .min| .max=>true
 |_=>false
def iM:Op→Bool
 | .move _| .assign _| .pick .. | .load .. | .binOp .. | .unOp .. | .convert .. | .makeFunc .. | .slice .. | .fieldAddr .. | .field .. | .indexAddr .. | .index .. | .extract .. | .build .. | .sliceToArrayPointer .. | .nilCheck _=>true
 | .call {callee:= .builtin b, .. }=>freeB b
 |_=>false
def Mode.skip:Mode→Oper→Mode
 | .seq,_=> .seq
 | .any Cs k ms,o=>bif iM o.op then .any Cs k ms.tail else .any Cs (k+1) ms.tail
def Mode.held:Mode→Oper→World→Prop
 | .seq,_,_=>True
 | .any Cs k _,o,w=>bif iM o.op then True else Cs (k+1) w
abbrev QF:Exit→Act→World→Prop:=fun _ _ _=>False
def wpM (P:Program) (ops:Array Oper) (Q:Exit→Act→World→Prop):Mode→List Oper→Act→World→Prop
 |_,[],a,w=>Q .normal a w
 |m,o::r,a,w=>
  (Region.wanted o (yielded ops a.tmps)=true→
   (iM o.op=true∧∃v,(∀w',m.C w w'→(execOp a.eval o).run P w'= .ok (.value v) w')∧wpM P ops Q m.next r (a.put o.dst v) w)∨
   (iM o.op=false∧o.wp P a w (fun a' w'=>m.ok w'∧wpM P ops Q m.nextE r a' w') QF))∧
  (Region.wanted o (yielded ops a.tmps)=false→m.held o w∧wpM P ops Q (m.skip o) r (a.put o.dst undef) w)
theorem aII {P:Program} {o:Oper} {a:Act} {w:World} {K K':Act→World→Prop} {Q:Exit→Act→World→Prop} (h:∀a w,K a w→K' a w)
  (hh:o.wp P a w K QF):o.wp P a w K' Q:=by
 unfold Oper.wp at*
 generalize (execOp a.eval o).run P w=r at*
 cases r with
 |ok n w'=>
  cases n <;>simp only [Oper.upon] at hh ⊢ <;>
   first
    |exact h _ _ hh
    |exact Calls.mono hh (fun e w'' he=>by cases e <;>first|exact h _ _ he|exact he.elim|(obtain ⟨_,_,hf⟩:=he;exact hf.elim))
    |exact Rows.mono hh (fun _ _ he=>h _ _ he)
 | halt x w' => cases x <;> simp only [Oper.upon] at hh ⊢
                exact hh.elim
theorem qM {P:Program} {ops:Array Oper} {Q:Exit→Act→World→Prop}:∀(l:List Oper) (a:Act) (w:World),wpM P ops Q .seq l a w→wpList P ops Q l a w
 |[],_,_,h=>h
 |o::r,a,w,h=>by
  unfold wpList
  by_cases hw:Region.wanted o (yielded ops a.tmps)=true
  ·rw [if_pos hw]
   rcases h.1 hw with ⟨_,v,hv,hk⟩|⟨_,hk⟩
   ·refine .inl ?_
    unfold Oper.wp
    rw [hv w rfl]
    exact qM r _ _ hk
   ·exact .inl (aII (fun a w h=>qM r a w h.2) hk)
  ·rw [if_neg hw]
   exact qM r _ _ (h.2 (by simpa using hw)).2
/- ---------- regions that draw their order ---------- -/
section
variable {P:Program} {ops:Array Oper} {Q:Exit→Act→World→Prop} {Cs:Nat→World→Prop}
def eAt (ops:Array Oper) (i:Nat):Nat:=
 match ops[i]? with
 |some o=>bif iM o.op then 0 else 1
 |none=>0
theorem zT {i:Nat} {o:Oper} (hi:ops[i]?=some o) (hf:iM o.op=true):eAt ops i=0:=by simp [eAt,hi,hf]
theorem zL {i:Nat} {o:Oper} (hi:ops[i]?=some o) (hf:iM o.op=false):eAt ops i=1:=by simp [eAt,hi,hf]
def aAK (ops:Array Oper) (listed:Array Bool) (i:Nat) (j:Nat):Bool:=
 !listed.getD j true && match ops[j]? with
  |some oj=> !iM oj.op && !oj.after.any (fun e=>Region.binds .any e && e.on==i)
  |none=>false
def sF (ops:Array Oper) (listed:Array Bool) (i:Nat):Nat:=((List.range ops.size).filter (aAK ops listed i)).length
theorem yK {p q:Nat→Bool} (h:∀x,q x=true→p x=true):∀l:List Nat,(l.filter q).length≤(l.filter p).length
 |[]=>Nat.le_refl _
 |x::r=>by
  have ih:=yK h r
  cases hq:q x with
  |true=>simp [hq,h x hq];omega
  |false=>cases hp:p x <;>simp [hq,hp] <;>omega
theorem filter_lt {p q:Nat→Bool} (h:∀x,q x=true→p x=true) {j:Nat} (hp:p j=true) (hq:q j=false):∀l:List Nat,j∈l→(l.filter q).length+1≤(l.filter p).length
 |[],hm=>by cases hm
 |x::r,hm=>by
  by_cases hx:x=j
  ·subst hx
   have:=yK h r
   simp [hq,hp];omega
  ·have hm':j∈r:=by cases hm with
    |head=>exact absurd rfl hx
    |tail _ h=>exact h
   have ih:=filter_lt h hp hq r hm'
   cases hq2:q x with
   |true=>simp [hq2,h x hq2];omega
   |false=>cases hp2:p x <;>simp [hq2,hp2] <;>omega
theorem aBP {listed:Array Bool} {i j x:Nat} (h:aAK ops (listed.setIfInBounds j true) i x=true):aAK ops listed i x=true:=by
 unfold aAK at*
 simp only [Bool.and_eq_true,Bool.not_eq_true'] at*
 refine ⟨?_,h.2⟩
 have h1:=h.1
 by_cases hx:j=x
 ·subst hx
  by_cases hlt:j < listed.size
  ·simp [hlt] at h1
  ·simp [Array.getElem?_eq_none (show listed.size≤j by omega)] at h1
 ·rw [getD_set_ne true hx] at h1;exact h1
theorem aLP {listed:Array Bool} {i j:Nat} {oj:Oper} (hj:ops[j]?=some oj) (hun:listed.getD j true=false) (hlt:j < listed.size)
  (hno:∀e∈oj.after,Region.binds .any e=true→e.on≠i):sF ops (listed.setIfInBounds j true) i+eAt ops j≤sF ops listed i:=by
 unfold sF
 cases hf:iM oj.op with
 |true=>
  rw [zT hj hf]
  exact yK (fun x hx=>aBP hx) _
 |false=>
  rw [zL hj hf]
  refine filter_lt (fun x hx=>aBP hx) (j:=j) ?_ ?_ _ (List.mem_range.2 (Array.getElem?_eq_some_iff.1 hj).1)
  ·unfold aAK
   simp only [hun,hj,hf,Bool.not_false,Bool.true_and,Bool.not_eq_true']
   cases hb:oj.after.any (fun e=>Region.binds .any e && e.on==i) with
   |false=>rfl
   |true=>
    obtain ⟨e,he,hb⟩:=Array.any_eq_true'.1 hb
    simp only [Bool.and_eq_true,beq_iff_eq] at hb
    exact absurd hb.2 (hno e he hb.1)
  ·unfold aAK
   simp [hlt]
def rW (P:Program) (ops:Array Oper) (Q:Exit→Act→World→Prop) (Cs:Nat→World→Prop):Nat→Nat→Array Bool→Act→World→Prop
 |0,_,listed,a,w=>Region.ready .any ops listed=[]∧Q .normal a w
 |fuel+1,k,listed,a,w=>
  (Region.ready .any ops listed=[]→Q .normal a w)∧
  ∀i∈Region.ready .any ops listed,wpOp P ops QF i (fun a' w'=>Cs (k+eAt ops i) w'∧rW P ops Q Cs fuel (k+eAt ops i) (listed.setIfInBounds i true) a' w') a w
theorem aLR {i:Nat} {a:Act} {w:World} {K K':Act→World→Prop} (h:∀a w,K a w→K' a w)
  (hh:wpOp P ops QF i K a w):wpOp P ops Q i K' a w:=by
 unfold wpOp at*
 split
 ·exact h _ _ (by simpa [*] using hh)
 ·rename_i o ho
  simp only [ho] at hh
  split
  ·rename_i hw
   simp only [hw,if_true] at hh
   rcases hh with hh|⟨_,_,_,hf⟩
   ·exact .inl (aII h hh)
   ·exact hf.elim
  ·rename_i hw;simp only [hw] at hh;exact h _ _ hh
theorem rQ:∀(fuel k:Nat) (listed:Array Bool) (a:Act) (w:World),rW P ops Q Cs fuel k listed a w→wpAny P .any ops Q fuel listed a w
 |0,_,_,_,_,h=>h
 |fuel+1,_,_,_,_,h=>⟨h.1,fun i hi=>aLR (fun a w h=>rQ fuel _ _ a w h.2) (h.2 i hi)⟩
def YieldsC (P:Program) (ops:Array Oper) (C:World→Prop) (o:Oper) (v:Value) (a:Act):Prop:=
 (Region.wanted o (yielded ops a.tmps)=true∧∀w,C w→(execOp a.eval o).run P w= .ok (.value v) w)∨
 (Region.wanted o (yielded ops a.tmps)=false∧v=undef)
theorem YieldsC.mono {C C':World→Prop} {o:Oper} {v:Value} {a:Act} (hy:YieldsC P ops C o v a) (h:∀w,C' w→C w):YieldsC P ops C' o v a:=by
 rcases hy with ⟨h1,h2⟩|h1
 ·exact .inl ⟨h1,fun w hw=>h2 w (h w hw)⟩
 ·exact .inr h1
theorem YieldsC.wpOp {C:World→Prop} {i:Nat} {o:Oper} {v:Value} {a:Act} (hi:ops[i]?=some o) (hy:YieldsC P ops C o v a)
  {K:Act→World→Prop} {w:World} (hC:C w) (h:K (a.put o.dst v) w):wpOp P ops QF i K a w:=by
 unfold Go.wpOp
 simp only [hi]
 rcases hy with ⟨hw,hv⟩|⟨hw,rfl⟩
 ·simp only [hw,if_true,Oper.wp,hv w hC,Oper.upon];exact .inl h
 ·simp only [hw,Bool.false_eq_true,if_false];exact h
theorem YieldsC.of_same {C:World→Prop} {o:Oper} {v:Value} {a a':Act} (hy:YieldsC P ops C o v a) (he:execOp a'.eval o=execOp a.eval o)
  (hw:Region.wanted o (yielded ops a'.tmps)=Region.wanted o (yielded ops a.tmps)):YieldsC P ops C o v a':=by
 unfold YieldsC at*
 rw [he,hw]
 exact hy
theorem aOS {C:World→Prop} {j:Nat} {oi oj:Oper} {v:Value} (hj:ops[j]?=some oj) (hap:oi.apart ops oj=true)
  (hsi:∀cs b,oi.op≠ .select cs b) (hsj:∀cs b,oj.op≠ .select cs b) {K:Act→World→Prop} {a:Act} {w:World}
  (hy:YieldsC P ops C oi v a) (h:wpOp P ops QF j K (a.put oi.dst v) w):
  wpOp P ops QF j (fun a' w'=>YieldsC P ops C oi v a'∧K (a'.put oi.dst v) w') a w:=by
 obtain ⟨h1,h2,h3⟩:=Oper.apart_spec hap
 have keep:∀(a:Act),YieldsC P ops C oi v a→∀u,YieldsC P ops C oi v (a.put oj.dst u):=fun a hy u=>
  hy.of_same (execOp_put oi hsi a oj.dst u h3) (wanted_put oi a oj.dst u h3)
 have keepD:∀d,YieldsC P ops C oi v {a with defers:=d::a.defers}:=fun d=>hy.of_same rfl rfl
 unfold wpOp at*
 simp only [hj] at*
 rw [wanted_put oj a oi.dst v h1] at h
 split
 ·rename_i hw
  simp only [hw,if_true] at h
  rcases h with h|⟨_,_,_,hf⟩
  case inr=>exact hf.elim
  refine .inl ?_
  unfold Oper.wp at*
  rw [execOp_put oj hsj a oi.dst v h1] at h
  generalize (execOp a.eval oj).run P w=r at*
  cases r with
  |ok n w'=>
   cases n <;>simp only [Oper.upon] at h ⊢
   case value u=>exact ⟨keep a hy u,by rw [←Act.put_comm a v u h2];exact h⟩
   case skip=>exact ⟨keep a hy _,by rw [←Act.put_comm a v undef h2];exact h⟩
   case defer d=>
    refine ⟨keep _ (keepD d) _,?_⟩
    rw [←Act.put_comm _ v undef h2,←Act.put_defers]
    exact h
   case enter f args=>
    refine Calls.mono h fun e w'' he=>?_
    cases e with
    |returned u=>exact ⟨keep a hy u,by rw [←Act.put_comm a v u h2];exact he⟩
    |panicked c=>exact he.elim
    |outgrown=>obtain ⟨_,_,hf⟩:=he;exact hf.elim
   case row row args=>exact Rows.mono h fun u w'' he=>⟨keep a hy u,by rw [←Act.put_comm a v u h2];exact he⟩
  | halt x w' => cases x <;> simp only [Oper.upon] at h ⊢
                 exact h.elim
 ·rename_i hw
  simp only [hw] at h
  exact ⟨keep a hy _,by rw [←Act.put_comm a v undef h2];exact h⟩
theorem aNS (hm:∀s w,Cs s w→Cs (s+1) w):∀(d s:Nat) (w:World),Cs s w→Cs (s+d) w
 |0,_,_,h=>h
 |d+1,s,w,h=>hm _ _ (aNS hm d s w h)
theorem rG {i:Nat} {oi:Oper} {v:Value} (hm:∀s w,Cs s w→Cs (s+1) w) (hi:ops[i]?=some oi) (hfi:iM oi.op=true) (hsel:∀(j:Nat) (o:Oper) cs b,ops[j]?=some o→o.op≠ .select cs b):
  ∀(fuel k:Nat) (listed:Array Bool) (a:Act) (w:World),Cs k w→listed.size=ops.size→
   (∀j oj,ops[j]?=some oj→j≠i→listed.getD j true=false→(∀e∈oj.after,Region.binds .any e=true→e.on≠i)→oi.apart ops oj=true)→
   i∈Region.ready .any ops listed→YieldsC P ops (Cs (k+sF ops listed i)) oi v a→
   rW P ops Q Cs fuel k (listed.setIfInBounds i true) (a.put oi.dst v) w→rW P ops Q Cs (fuel+1) k listed a w:=by
 intro fuel
 induction fuel with
 |zero=>
  intro k listed a w hC _ _ hr hy H
  refine ⟨fun h=>(by rw [h] at hr;cases hr),fun j hj=>?_⟩
  by_cases hji:j=i
  ·subst hji
   rw [zT hi hfi]
   exact hy.wpOp hi (aNS hm _ _ _ hC) ⟨hC,H⟩
  ·have:=ready_mono hj hji
   rw [H.1] at this
   cases this
 |succ fuel ih=>
  intro k listed a w hC hsz hfree hr hy H
  refine ⟨fun h=>(by rw [h] at hr;cases hr),fun j hj=>?_⟩
  by_cases hji:j=i
  ·subst hji
   rw [zT hi hfi]
   exact hy.wpOp hi (aNS hm _ _ _ hC) ⟨hC,H⟩
  ·have h1:=H.2 j (ready_mono hj hji)
   obtain ⟨hjun,oj,hoj,hall⟩:=mem_ready.1 hj
   have hnot:∀e∈oj.after,Region.binds .any e=true→e.on≠i:=fun e he hb heq=>by
    have h1:=hall e he hb
    have h0:=(mem_ready.1 hr).1
    rw [heq] at h1
    rcases Nat.lt_or_ge i listed.size with h'|h'
    ·simp [h'] at h0 h1;rw [h0] at h1;cases h1
    ·simp [Array.getElem?_eq_none h'] at h1
   have hjl:j < listed.size:=by rw [hsz];exact (Array.getElem?_eq_some_iff.1 hoj).1
   have hst:=aLP (i:=i) hoj hjun hjl hnot
   have h2:=aOS hoj (hfree j oj hoj hji hjun hnot) (fun cs b=>hsel i oi cs b hi) (fun cs b=>hsel j oj cs b hoj) hy h1
   have hfree':∀k ok,ops[k]?=some ok→k≠i→(listed.setIfInBounds j true).getD k true=false→
     (∀e∈ok.after,Region.binds .any e=true→e.on≠i)→oi.apart ops ok=true:=fun k ok hk hki hun hno=>by
    refine hfree k ok hk hki ?_ hno
    by_cases hjk:j=k
    ·subst hjk;exact hjun
    ·rw [getD_set_ne true hjk] at hun;exact hun
   refine wpOp_mono (fun a' w' h3=>⟨h3.2.1,ih _ (listed.setIfInBounds j true) a' w' h3.2.1 (by simp [hsz]) hfree' (ready_mono hr (Ne.symm hji)) (h3.1.mono fun w hw=>?_) ?_⟩) h2
   ·rw [Array.setIfInBounds_comm _ _ hji]
    exact h3.2.2
   ·have:=aNS hm (sF ops listed i - (sF ops (listed.setIfInBounds j true) i+eAt ops j)) _ w hw
    have e:k+eAt ops j+sF ops (listed.setIfInBounds j true) i+(sF ops listed i - (sF ops (listed.setIfInBounds j true) i+eAt ops j))=k+sF ops listed i:=by omega
    rw [e] at this
    exact this
def iP (ops:Array Oper):List Nat→List Nat→Array Bool→Bool
 |[],_,listed=>(Region.ready .any ops listed).isEmpty
 |i::r,ms,listed=>
  match ops[i]? with
  |none=>false
  |some o=>
   (bif iM o.op then Region.free .any ops listed i && (Region.ready .any ops listed).contains i && Nat.beq (sF ops listed i) (ms.headD 0) else Region.ready .any ops listed==[i]) && iP ops r ms.tail (listed.setIfInBounds i true)
def nth:List Oper→Nat→Oper
 |[],_=>default
 |o::_,0=>o
 |_::r,i+1=>nth r i
theorem aHQ:∀(l:List Oper) (i:Nat) (o:Oper),l[i]?=some o→nth l i=o
 |[],i,o,h=>by simp at h
 |x::r,0,o,h=>by simpa [nth] using h
 |x::r,i+1,o,h=>by simpa [nth] using aHQ r i o (by simpa using h)
def pick (l:List Oper):List Nat→List Oper
 |[]=>[]
 |i::r=>nth l i::pick l r
theorem jQ {l:List Oper} (hm:∀s w,Cs s w→Cs (s+1) w) (hs:Region.noSelect l.toArray=true):∀(p ms:List Nat) (k:Nat) (listed:Array Bool) (a:Act) (w:World),Cs k w→listed.size=l.toArray.size→iP l.toArray p ms listed=true→
  wpM P l.toArray Q (.any Cs k ms) (pick l p) a w→rW P l.toArray Q Cs p.length k listed a w
 |[],ms,k,listed,a,w,_,_,hp,h=>⟨by simpa [iP] using hp,h⟩
 |i::r,ms,k,listed,a,w,hC,hsz,hp,h=>by
  unfold iP at hp
  cases ho:l.toArray[i]? with
  |none=>simp [ho] at hp
  |some o=>
   have hg:nth l i=o:=aHQ l i o (by simpa using ho)
   simp only [pick,hg] at h
   simp only [ho,Bool.and_eq_true] at hp
   obtain ⟨hp1,hp2⟩:=hp
   have hsz':(listed.setIfInBounds i true).size=l.toArray.size:=by simpa using hsz
   cases hk:iM o.op with
   |true=>
    simp only [hk,cond_true,Bool.and_eq_true] at hp1
    obtain ⟨⟨hf,hr⟩,hsl⟩:=hp1
    have hsl:=Nat.eq_of_beq_eq_true hsl
    have hmem:i∈Region.ready .any l.toArray listed:=by simpa using hr
    by_cases hw:Region.wanted o (yielded l.toArray a.tmps)=true
    ·rcases h.1 hw with ⟨_,v,hv,hk2⟩|⟨hk2,_⟩
     ·refine rG hm ho hk (Region.noSelect_spec hs) r.length k listed a w hC hsz (Region.free_spec ho hf) hmem (.inl ⟨hw,fun w' hw'=>hv w' ?_⟩) (jQ hm hs r ms.tail k _ _ w hC hsz' hp2 hk2)
      rw [hsl] at hw'
      exact hw'
     ·rw [hk] at hk2;cases hk2
    ·have hw':Region.wanted o (yielded l.toArray a.tmps)=false:=by simpa using hw
     have hh:=(h.2 hw').2
     simp only [Mode.skip,hk,cond_true] at hh
     exact rG hm ho hk (Region.noSelect_spec hs) r.length k listed a w hC hsz (Region.free_spec ho hf) hmem (.inr ⟨hw',rfl⟩) (jQ hm hs r ms.tail k _ _ w hC hsz' hp2 hh)
   |false=>
    simp only [hk,cond_false,beq_iff_eq] at hp1
    refine ⟨fun h0=>(by rw [hp1] at h0;cases h0),fun j hj=>?_⟩
    rw [hp1] at hj
    obtain rfl:j=i:=by simpa using hj
    rw [zL ho hk]
    unfold wpOp
    simp only [ho]
    by_cases hw:Region.wanted o (yielded l.toArray a.tmps)=true
    ·rw [if_pos hw]
     rcases h.1 hw with ⟨hk2,_⟩|⟨_,hk2⟩
     ·rw [hk] at hk2;cases hk2
     ·exact .inl (Oper.wp_mono (fun a' w' ⟨h1,h2⟩=>⟨h1,jQ hm hs r ms.tail (k+1) _ a' w' h1 hsz' hp2 h2⟩) hk2)
    ·rw [if_neg hw]
     obtain ⟨hh1,hh2⟩:=h.2 (by simpa using hw)
     simp only [Mode.held,hk,cond_false] at hh1
     simp only [Mode.skip,hk,cond_false] at hh2
     exact ⟨hh1,jQ hm hs r ms.tail (k+1) _ _ w hh1 hsz' hp2 hh2⟩
def rV (ops:Array Oper):List Nat→List Nat→Array Bool→Option (Array Bool)
 |[],_,listed=>some listed
 |i::r,ms,listed=>
  match ops[i]? with
  |none=>none
  |some o=>
   bif (bif iM o.op then Region.free .any ops listed i && (Region.ready .any ops listed).contains i && Nat.beq (sF ops listed i) (ms.headD 0) else Region.ready .any ops listed==[i]) then rV ops r ms.tail (listed.setIfInBounds i true) else none
def aDO (ops:Array Oper):List Nat→Nat
 |[]=>0
 |i::r=>eAt ops i+aDO ops r
theorem rU {l:List Oper} {Q':Exit→Act→World→Prop} {fuel:Nat} {listed':Array Bool} (hm:∀s w,Cs s w→Cs (s+1) w) (hs:Region.noSelect l.toArray=true):∀(p ms:List Nat) (k:Nat) (listed:Array Bool) (a:Act) (w:World),Cs k w→listed.size=l.toArray.size→rV l.toArray p ms listed=some listed'→
  (∀a' w',listed'.size=l.toArray.size→Cs (k+aDO l.toArray p) w'→Q' .normal a' w'→rW P l.toArray Q Cs fuel (k+aDO l.toArray p) listed' a' w')→
  wpM P l.toArray Q' (.any Cs k ms) (pick l p) a w→rW P l.toArray Q Cs (fuel+p.length) k listed a w
 |[],ms,k,listed,a,w,hC,hsz,hp,hend,h=>by
  have:listed=listed':=by simpa [rV] using hp
  subst this
  exact hend a w hsz hC h
 |i::r,ms,k,listed,a,w,hC,hsz,hp,hend,h=>by
  unfold rV at hp
  cases ho:l.toArray[i]? with
  |none=>simp [ho] at hp
  |some o=>
   have hg:nth l i=o:=aHQ l i o (by simpa using ho)
   simp only [pick,hg] at h
   simp only [ho] at hp
   cases hp1:(bif iM o.op then Region.free .any l.toArray listed i && (Region.ready .any l.toArray listed).contains i && Nat.beq (sF l.toArray listed i) (ms.headD 0) else Region.ready .any l.toArray listed==[i]) with
   |false=>rw [hp1] at hp;simp at hp
   |true=>
   rw [hp1,cond_true] at hp
   have hsz':(listed.setIfInBounds i true).size=l.toArray.size:=by simpa using hsz
   have hfl:fuel+(i::r).length=(fuel+r.length)+1:=by simp;omega
   rw [hfl]
   cases hk:iM o.op with
   |true=>
    simp only [hk,cond_true,Bool.and_eq_true] at hp1
    obtain ⟨⟨hf,hr⟩,hsl⟩:=hp1
    have hsl:=Nat.eq_of_beq_eq_true hsl
    have hmem:i∈Region.ready .any l.toArray listed:=by simpa using hr
    have hend':∀a' w',listed'.size=l.toArray.size→Cs (k+aDO l.toArray r) w'→Q' .normal a' w'→rW P l.toArray Q Cs fuel (k+aDO l.toArray r) listed' a' w':=fun a' w' h1 h2 h3=>by
     have:=hend a' w' h1
     simp only [aDO,zT ho hk,Nat.zero_add] at this
     exact this h2 h3
    by_cases hw:Region.wanted o (yielded l.toArray a.tmps)=true
    ·rcases h.1 hw with ⟨_,v,hv,hk2⟩|⟨hk2,_⟩
     ·refine rG hm ho hk (Region.noSelect_spec hs) (fuel+r.length) k listed a w hC hsz (Region.free_spec ho hf) hmem (.inl ⟨hw,fun w' hw'=>hv w' ?_⟩) (rU hm hs r ms.tail k _ _ w hC hsz' hp hend' hk2)
      rw [hsl] at hw'
      exact hw'
     ·rw [hk] at hk2;cases hk2
    ·have hw':Region.wanted o (yielded l.toArray a.tmps)=false:=by simpa using hw
     have hh:=(h.2 hw').2
     simp only [Mode.skip,hk,cond_true] at hh
     exact rG hm ho hk (Region.noSelect_spec hs) (fuel+r.length) k listed a w hC hsz (Region.free_spec ho hf) hmem (.inr ⟨hw',rfl⟩) (rU hm hs r ms.tail k _ _ w hC hsz' hp hend' hh)
   |false=>
    simp only [hk,cond_false,beq_iff_eq] at hp1
    have hend':∀a' w',listed'.size=l.toArray.size→Cs (k+1+aDO l.toArray r) w'→Q' .normal a' w'→rW P l.toArray Q Cs fuel (k+1+aDO l.toArray r) listed' a' w':=fun a' w' h1 h2 h3=>by
     have:=hend a' w' h1
     simp only [aDO,zL ho hk,←Nat.add_assoc] at this
     exact this h2 h3
    refine ⟨fun h0=>(by rw [hp1] at h0;cases h0),fun j hj=>?_⟩
    rw [hp1] at hj
    obtain rfl:j=i:=by simpa using hj
    rw [zL ho hk]
    unfold wpOp
    simp only [ho]
    by_cases hw:Region.wanted o (yielded l.toArray a.tmps)=true
    ·rw [if_pos hw]
     rcases h.1 hw with ⟨hk2,_⟩|⟨_,hk2⟩
     ·rw [hk] at hk2;cases hk2
     ·exact .inl (Oper.wp_mono (fun a' w' ⟨h1,h2⟩=>⟨h1,rU hm hs r ms.tail (k+1) _ a' w' h1 hsz' hp hend' h2⟩) hk2)
    ·rw [if_neg hw]
     obtain ⟨hh1,hh2⟩:=h.2 (by simpa using hw)
     simp only [Mode.held,hk,cond_false] at hh1
     simp only [Mode.skip,hk,cond_false] at hh2
     exact ⟨hh1,rU hm hs r ms.tail (k+1) _ _ w hh1 hsz' hp hend' hh2⟩
def altOk (ops:Array Oper) (listed:Array Bool):List Nat × List Nat→Bool
 |([],_)=>false
 |(i::r,ms)=>match ops[i]? with
  |none=>false
  |some o=> !iM o.op && iP ops r ms.tail (listed.setIfInBounds i true)
def Alts (P:Program) (l:List Oper) (Q:Exit→Act→World→Prop) (Cs:Nat→World→Prop) (k:Nat) (alts:List (List Nat × List Nat)):Exit→Act→World→Prop
 | .normal,a,w=>∀q∈alts,wpM P l.toArray Q (.any Cs k q.2) (pick l q.1) a w
 |_,_,_=>False
def altsOk (ops:Array Oper) (p ms:List Nat) (alts:List (List Nat × List Nat)):Bool:=
 match rV ops p ms (Array.replicate ops.size false) with
 |none=>false
 |some listed=>(Region.ready .any ops listed==alts.map (fun q=>q.1.headD 0)) && alts.all (altOk ops listed) && alts.all (fun q=>Nat.beq (p.length+q.1.length) ops.size) && !alts.isEmpty
theorem aLA {id:Nat} {l:List Oper} {p ms:List Nat} {a:Act} {w:World} (hx:P.follows .mixedOrders=true) (hm:∀s w,Cs s w→Cs (s+1) w)
  (hp:(Region.noSelect l.toArray && iP l.toArray p ms (Array.replicate l.length false) && p.length==l.length)=true) (hC:Cs 0 w.drew)
  (h:wpM P l.toArray Q (.any Cs 0 ms) (pick l p) a w.drew):(Code.region id l.toArray true).wp P Q a w:=by
 simp only [Bool.and_eq_true,beq_iff_eq] at hp
 obtain ⟨⟨h1,h2⟩,h3⟩:=hp
 refine wp_region_any hx ?_
 have:=jQ hm h1 p ms 0 _ a w.drew hC (by simp) h2 h
 rw [h3] at this
 simpa using rQ _ _ _ _ _ this
end
/- ---------- the judgements ---------- -/
@[irreducible] def Then (K:Act→World→Prop) (Q:Exit→Act→World→Prop):Exit→Act→World→Prop:=Exit.then K Q
@[irreducible] def InB (id:Nat) (Q:Exit→Act→World→Prop):Exit→Act→World→Prop:=Exit.inBlock id Q
structure R (P:Program) (n:Nat) (ops:List Oper) (Q:Exit→Act→World→Prop) (m:Mode) (l:List Oper) (G:Env) (w:World):Prop where
 go:∀a,Has n G a→wpM P ops.toArray Q m l a w
structure T (P:Program) (n:Nat) (c:Code) (Q:Exit→Act→World→Prop) (G:Env) (w:World):Prop where
 go:∀a,Has n G a→c.wp P Q a w
structure N (n:Nat) (Q:Exit→Act→World→Prop) (e:Exit) (G:Env) (w:World):Prop where
 go:∀a,Has n G a→Q e a w
section
variable {P:Program} {n:Nat} {Q Q':Exit→Act→World→Prop} {G:Env} {w:World}
theorem tH {x y:Code} (h:T P n x (Then (y.wp P Q) Q) G w):T P n (.seq x y) Q G w:=⟨fun a ha=>wp_seq (by have:=h.go a ha;unfold Then at this;exact this)⟩
theorem qD (h:N n Q .normal G w):T P n .skip Q G w:=⟨fun a ha=>wp_skip (h.go a ha)⟩
theorem nA {l:Nat} (h:N n Q .normal G w):T P n (.label l) Q G w:=⟨fun a ha=>wp_label (h.go a ha)⟩
theorem tJ (h:N n Q .ret G w):T P n .ret Q G w:=⟨fun a ha=>wp_ret (h.go a ha)⟩
theorem qB {id:Nat} (h:N n Q (.exit id) G w):T P n (.exit id) Q G w:=⟨fun a ha=>wp_exit (h.go a ha)⟩
theorem mU {id:Nat} {c:Code} (h:T P n c (InB id Q) G w):T P n (.block id c) Q G w:=⟨fun a ha=>wp_block (by have:=h.go a ha;unfold InB at this;exact this)⟩
theorem aGU {c:Operand} {x y:Code} {b:Bool} (hc:ev G c=some (.bool b)) (h1:b=true→T P n x Q G w) (h2:b=false→T P n y Q G w):T P n (.cond c x y) Q G w:=
 ⟨fun a ha=>wp_cond_split (ha.ev hc) (fun e=>(h1 e).go a ha) (fun e=>(h2 e).go a ha)⟩
theorem mG {c:Operand} {x y:Code} (hc:ev G c=some (.bool true)) (h1:T P n x Q G w):T P n (.cond c x y) Q G w:=
 ⟨fun a ha=>wp_cond_true (ha.ev hc) (h1.go a ha)⟩
theorem lF {c:Operand} {x y:Code} (hc:ev G c=some (.bool false)) (h1:T P n y Q G w):T P n (.cond c x y) Q G w:=
 ⟨fun a ha=>wp_cond_false (ha.ev hc) (h1.go a ha)⟩
theorem aFN {c:Operand} {x y:Code} {p:Prop} [Decidable p] (hc:ev G c=some (.bool (B p))) (h1:p→T P n x Q G w) (h2:¬p→T P n y Q G w):T P n (.cond c x y) Q G w:=
 aGU hc (fun e=>h1 (of_B e)) (fun e=>h2 (aZD e))
theorem aDK {c:Operand} {x y:Code} {p:Prop} [Decidable p] (hc:ev G c=some (.bool (B p))) (hp:p) (h1:T P n x Q G w):T P n (.cond c x y) Q G w:=
 aGU hc (fun _=>h1) (fun e=>absurd hp (aZD e))
theorem aLE {c:Operand} {x y:Code} {p:Prop} [Decidable p] (hc:ev G c=some (.bool (B p))) (hp:¬p) (h1:T P n y Q G w):T P n (.cond c x y) Q G w:=
 aGU hc (fun e=>absurd (of_B e) hp) (fun _=>h1)
theorem kU {id:Nat} {l:List Oper} (h:R P n l Q .seq l G w):T P n (.region id l.toArray false) Q G w:=
 ⟨fun a ha=>wp_region_lit (qM l a w (h.go a ha))⟩
theorem aMR {id:Nat} {l:List Oper} (Cs:Nat→World→Prop) (p ms:List Nat) (hx:P.follows .mixedOrders=true) (hm:∀s w,Cs s w→Cs (s+1) w)
  (hp:(Region.noSelect l.toArray && iP l.toArray p ms (Array.replicate l.length false) && p.length==l.length)=true) (hC:Cs 0 w.drew)
  (h:R P n l Q (.any Cs 0 ms) (pick l p) G w.drew):T P n (.region id l.toArray true) Q G w:=
 ⟨fun a ha=>aLA hx hm hp hC (h.go a ha)⟩
theorem tN {ops:List Oper} {m:Mode} (h:N n Q .normal G w):R P n ops Q m [] G w:=⟨h.go⟩
theorem qA {y:Code} (h:T P n y Q G w):N n (Then (y.wp P Q) Q') .normal G w:=⟨fun a ha=>by unfold Then;exact h.go a ha⟩
theorem nC {K:Act→World→Prop} {id:Nat} (h:N n Q (.exit id) G w):N n (Then K Q) (.exit id) G w:=⟨fun a ha=>by unfold Then;exact h.go a ha⟩
theorem mY {K:Act→World→Prop} (h:N n Q .ret G w):N n (Then K Q) .ret G w:=⟨fun a ha=>by unfold Then;exact h.go a ha⟩
theorem uH {id:Nat} (h:N n Q .normal G w):N n (InB id Q) .normal G w:=⟨fun a ha=>by unfold InB;exact h.go a ha⟩
theorem tO {id:Nat} (h:N n Q .ret G w):N n (InB id Q) .ret G w:=⟨fun a ha=>by unfold InB;exact h.go a ha⟩
theorem uG {id:Nat} (h:N n Q .normal G w):N n (InB id Q) (.exit id) G w:=⟨fun a ha=>by
 unfold InB;simp only [Exit.inBlock,if_true];exact h.go a ha⟩
theorem uA {id id':Nat} (hne:Nat.beq id' id=false) (h:N n Q (.exit id') G w):N n (InB id Q) (.exit id') G w:=⟨fun a ha=>by
 have:id'≠id:=by intro e;subst e;simp at hne
 unfold InB;simp only [Exit.inBlock,this,if_false];exact h.go a ha⟩
def Cut (n:Nat) (J:Env→World→Prop):Act→World→Prop:=fun a w=>∃G,J G w∧Has n G a
theorem T_cut {x y:Code} (J:Env→World→Prop) (h:T P n x (Then (Cut n J) Q) G w) (k:∀G' w',J G' w'→T P n y Q G' w'):T P n (.seq x y) Q G w:=⟨fun a ha=>
 wp_seq (Code.wp_mono (fun e a w q=>by
  unfold Then at q
  cases e <;>first|exact q|(obtain ⟨G',hJ,hh⟩:=q;exact (k G' w hJ).go a hh)) (h.go a ha))⟩
theorem bAF {x y:Code} (J:Env→World→Prop) (h:T P n x (Then (Cut n J) Q) G w) (k:∀G' w',J G' w'→T P n y Q' G' w'):T P n x (Then (y.wp P Q') Q) G w:=⟨fun a ha=>
 Code.wp_mono (fun e a w q=>by
  unfold Then at q ⊢
  cases e <;>first|exact q|(obtain ⟨G',hJ,hh⟩:=q;exact (k G' w hJ).go a hh)) (h.go a ha)⟩
theorem N_cut {J:Env→World→Prop} (G':Env) (s:Sub G G') (h:J G' w):N n (Then (Cut n J) Q) .normal G w:=⟨fun _ ha=>by unfold Then;exact ⟨G',h,ha.sub s⟩⟩
def aST (n:Nat) (J:Nat→Env→World→Prop) (k:Nat):Act→World→Prop:=fun a w=>∃k' G,k' < k∧J k' G w∧Has n G a
theorem aZY {c:Code} (J:Nat→Env→World→Prop) (k:Nat) (G':Env) (s:Sub G G') (h0:J k G' w)
  (round:∀k G' w',J k G' w'→T P n c (Then (aST n J k) Q) G' w'):T P n (.loop c) Q G w:=by
 refine ⟨fun a ha b kk cs=>?_⟩
 have key:∀k a w G,J k G w→Has n G a→
   ∃e a' w',Q e a' w'∧Arrives P (lone (b.at a (.code c:: .inLoop c::kk)) cs w) b kk cs e a' w':=by
  intro k
  induction k using Nat.strongRecOn with
  |_ k ih=>
   intro a w G hJ hh
   obtain ⟨e,a₁,w₁,hq,harr⟩:=(round k G w hJ).go a hh b (.inLoop c::kk) cs
   unfold Then at hq
   cases e with
   |normal=>
    obtain ⟨k',G1,hlt,hJ1,hh1⟩:=hq
    obtain ⟨e₂,a₂,w₂,hq₂,harr₂⟩:=ih k' hlt a₁ w₁ G1 hJ1 hh1
    exact ⟨e₂,a₂,w₂,hq₂, .of_steps (Steps.trans harr (.one step_inLoop)) harr₂⟩
   |exit id=>exact ⟨_,a₁,w₁,hq, .pass (x:= .inLoop c) rfl (fun _ _=> .inl (by simp)) harr⟩
   |goto l=>exact ⟨_,a₁,w₁,hq, .pass (x:= .inLoop c) rfl (fun _ _=> .inl (by simp)) harr⟩
   |ret=>exact ⟨_,a₁,w₁,hq, .pass (x:= .inLoop c) rfl (fun _ _=> .inl (by simp)) harr⟩
   |panic ch=>exact ⟨_,a₁,w₁,hq, .pass (x:= .inLoop c) rfl (fun _ _=> .inl (by simp)) harr⟩
   |outgrown=>exact ⟨_,a₁,w₁,hq, .pass (x:= .inLoop c) rfl (fun _ _=> .inl (by simp)) harr⟩
 obtain ⟨e,a',w',hq,harr⟩:=key k a w G' h0 (ha.sub s)
 exact ⟨e,a',w',hq, .of_steps (.one step_loop) harr⟩
theorem aWH {J:Nat→Env→World→Prop} {k:Nat} (k':Nat) (G':Env) (hlt:k' < k) (s:Sub G G') (h:J k' G' w):N n (Then (aST n J k) Q) .normal G w:=
 ⟨fun _ ha=>by unfold Then;exact ⟨k',G',hlt,h,ha.sub s⟩⟩
end
/- ---------- one operation ---------- -/
structure Const (P:Program) (n:Nat) (G:Env) (op:Op) (ty:TypeId) (C:World→Prop) (v:Value):Prop where
 go:∀a,Has n G a→∀dst pos after guard w,C w→(execOp a.eval ⟨dst,op,ty,pos,after,guard⟩).run P w= .ok (.value v) w
structure Eff (P:Program) (n:Nat) (G:Env) (op:Op) (ty:TypeId) (w:World) (K:Value→World→Prop):Prop where
 go:∀a,Has n G a→∀dst pos after guard,Oper.wp P ⟨dst,op,ty,pos,after,guard⟩ a w (fun a' w'=>∃v,K v w'∧a'=a.put dst v) QF
section
variable {P:Program} {n:Nat} {ops:List Oper} {Q:Exit→Act→World→Prop} {m:Mode} {G:Env} {w:World} {d:Option Nat} {op:Op} {ty:TypeId} {pos:String} {af:Array Edge} {l:List Oper}
def qY:List Oper→Nat→Option Nat
 |[],_=>none
 |o::_,0=>o.dst
 |_::r,j+1=>qY r j
theorem yX:∀(ops:List Oper) (j:Nat),(ops.toArray[j]?).bind (·.dst)=qY ops j
 |[],j=>by simp [qY]
 |o::r,0=>by simp [qY]
 |o::r,j+1=>by simpa [qY] using yX r j
def nX (ops:List Oper) (G:Env):Option (Nat × Bool)→Option Bool
 |none=>some true
 |some (j,b)=>match qY ops j with
  |none=>some false
  |some t=>match lk G t with
   |some (.bool b')=>some (b'==b)
   |some (.tuple _)=>some false
   |_=>none
theorem uC {a:Act} (ha:Has n G a) {o:Oper} {g:Option (Nat × Bool)} (ho:o.guard=g) {b:Bool} (h:nX ops G g=some b):Region.wanted o (yielded ops.toArray a.tmps)=b:=by
 unfold Region.wanted
 rw [ho]
 cases g with
 |none=>simpa [nX] using h
 |some jb=>
  obtain ⟨j,b'⟩:=jb
  simp only [nX] at h
  cases hs:qY ops j with
  |none=>
   simp only [hs] at h
   have:yielded ops.toArray a.tmps j=none:=by unfold yielded;rw [yX,hs];rfl
   simp only [this]
   simpa using h
  |some t=>
   simp only [hs] at h
   cases hv:lk G t with
   |none=>simp [hv] at h
   |some v=>
    have hg:=ha.get t v hv
    cases v with
    |bool c=>
     simp only [hv] at h
     have:yielded ops.toArray a.tmps j=some c:=by unfold yielded;rw [yX,hs];simp [hg]
     simp only [this]
     simpa using h
    |tuple vs=>
     simp only [hv] at h
     have:yielded ops.toArray a.tmps j=none:=by unfold yielded;rw [yX,hs];simp [hg]
     simp only [this]
     simpa using h
    |_=>simp [hv] at h
theorem iR {d:Nat} {v:Value} {g:Option (Nat × Bool)} (hg:nX ops G g=some true) (hc:Const P n G op ty (m.C w) v) (hf:iM op=true) (hd:Nat.ble (d+1) n=true) (k:R P n ops Q m.next l ((d,v)::G) w):
  R P n ops Q m (⟨some d,op,ty,pos,af,g⟩::l) G w:=⟨fun a ha=>by
 have hw:=uC ha (o:=⟨some d,op,ty,pos,af,g⟩) rfl hg
 exact ⟨fun _=> .inl ⟨hf,v,fun w' hw=>hc.go a ha (some d) pos af g w' hw,k.go _ (ha.put (some d) v hd)⟩,fun h=>by rw [hw] at h;cases h⟩⟩
theorem qG {d:Nat} {g:Option (Nat × Bool)} (hg:nX ops G g=some false) (hf:iM op=true) (hd:Nat.ble (d+1) n=true) (k:R P n ops Q m.next l ((d,undef)::G) w):
  R P n ops Q m (⟨some d,op,ty,pos,af,g⟩::l) G w:=⟨fun a ha=>by
 have hw:=uC ha (o:=⟨some d,op,ty,pos,af,g⟩) rfl hg
 refine ⟨fun h=>(by rw [hw] at h;cases h),fun _=>?_⟩
 have:=k.go _ (ha.put (some d) undef hd)
 cases m with
 |seq=>exact ⟨trivial,this⟩
 |any Cs k ms=>simp only [Mode.held,Mode.skip,hf,cond_true];exact ⟨trivial,this⟩⟩
theorem aNN {g:Option (Nat × Bool)} (hg:nX ops G g=some false) (hf:iM op=false) (hd:fits d n=true) (hok:m.ok w) (k:R P n ops Q m.nextE l (put G d undef) w):
  R P n ops Q m (⟨d,op,ty,pos,af,g⟩::l) G w:=⟨fun a ha=>by
 have hw:=uC ha (o:=⟨d,op,ty,pos,af,g⟩) rfl hg
 refine ⟨fun h=>(by rw [hw] at h;cases h),fun _=>?_⟩
 have:=k.go _ (ha.put d undef hd)
 cases m with
 |seq=>exact ⟨trivial,this⟩
 |any Cs k ms=>simp only [Mode.held,Mode.skip,hf,cond_false];exact ⟨hok,this⟩⟩
theorem nY {g:Option (Nat × Bool)} (hg:nX ops G g=some false) (hf:iM op=false) (hd:fits d n=true) (k:R P n ops Q .seq l (put G d undef) w):
  R P n ops Q .seq (⟨d,op,ty,pos,af,g⟩::l) G w:=aNN (m:= .seq) hg hf hd True.intro k
theorem aTG {d:Nat} {K:Value→World→Prop} {g:Option (Nat × Bool)} (hg:nX ops G g=some true) (hc:Eff P n G op ty w K) (hf:iM op=false) (hd:Nat.ble (d+1) n=true) (k:∀v w',K v w'→m.ok w'∧R P n ops Q m.nextE l ((d,v)::G) w'):
  R P n ops Q m (⟨some d,op,ty,pos,af,g⟩::l) G w:=⟨fun a ha=>by
 have hw:=uC ha (o:=⟨some d,op,ty,pos,af,g⟩) rfl hg
 exact ⟨fun _=> .inr ⟨hf,Oper.wp_mono (fun a' w' ⟨v,hK,he⟩=>by subst he;exact ⟨(k v w' hK).1,(k v w' hK).2.go _ (ha.put (some d) v hd)⟩) (hc.go a ha (some d) pos af g)⟩,fun h=>by rw [hw] at h;cases h⟩⟩
theorem R_ef0 {K:Value→World→Prop} {g:Option (Nat × Bool)} (hg:nX ops G g=some true) (hc:Eff P n G op ty w K) (hf:iM op=false) (k:∀v w',K v w'→m.ok w'∧R P n ops Q m.nextE l G w'):
  R P n ops Q m (⟨none,op,ty,pos,af,g⟩::l) G w:=⟨fun a ha=>by
 have hw:=uC ha (o:=⟨none,op,ty,pos,af,g⟩) rfl hg
 exact ⟨fun _=> .inr ⟨hf,Oper.wp_mono (fun a' w' ⟨v,hK,he⟩=>by subst he;exact ⟨(k v w' hK).1,(k v w' hK).2.go _ ha⟩) (hc.go a ha none pos af g)⟩,fun h=>by rw [hw] at h;cases h⟩⟩
theorem Has.same {a:Act} (ha:Has n G a) {t:Nat} {v v':Value} (h:lk G t=some v) (e:v=v'):Has n (Fx.put G (some t) v') a:=by
 subst e
 refine ⟨ha.size,ha.defers,fun s u hu=>?_⟩
 simp only [Fx.put,lk] at hu
 cases hb:Nat.beq t s with
 |true=>
  have:=Nat.eq_of_beq_eq_true hb
  subst this
  simp [hb] at hu
  subst hu
  exact ha.get _ _ h
 |false=>simp [hb] at hu;exact ha.get _ _ hu
theorem aAA {p:Prop} [Decidable p] {g:Nat × Bool} {t:Nat} (hj:qY ops g.1=some t) (hv:lk G t=some (.bool (B p)))
  (h1:p→R P n ops Q m (⟨d,op,ty,pos,af,some g⟩::l) ((t, .bool true)::G) w) (h2:¬p→R P n ops Q m (⟨d,op,ty,pos,af,some g⟩::l) ((t, .bool false)::G) w):
  R P n ops Q m (⟨d,op,ty,pos,af,some g⟩::l) G w:=⟨fun a ha=>by
 by_cases hp:p
 ·exact (h1 hp).go a (ha.same hv (by rw [cB hp]))
 ·exact (h2 hp).go a (ha.same hv (by rw [bF hp]))⟩
theorem aBF {p:Prop} [Decidable p] {g:Nat × Bool} {t:Nat} (hj:qY ops g.1=some t) (hv:lk G t=some (.bool (B p))) (hp:p)
  (h1:R P n ops Q m (⟨d,op,ty,pos,af,some g⟩::l) ((t, .bool true)::G) w):R P n ops Q m (⟨d,op,ty,pos,af,some g⟩::l) G w:=aAA hj hv (fun _=>h1) (fun h=>absurd hp h)
theorem aAM {p:Prop} [Decidable p] {g:Nat × Bool} {t:Nat} (hj:qY ops g.1=some t) (hv:lk G t=some (.bool (B p))) (hp:¬p)
  (h1:R P n ops Q m (⟨d,op,ty,pos,af,some g⟩::l) ((t, .bool false)::G) w):R P n ops Q m (⟨d,op,ty,pos,af,some g⟩::l) G w:=aAA hj hv (fun h=>absurd h hp) (fun _=>h1)
end
end Go.Fx
