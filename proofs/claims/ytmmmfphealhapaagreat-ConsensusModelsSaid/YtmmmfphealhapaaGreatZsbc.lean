/- make with length 0 and a capacity; a row cut short; where a row lies. -/
import Derived.Test.YtmmmfphealhapaaGreatZsae
import Derived.Test.YtmmmfphealhapaaGreatZsaf
import Derived.Test.YtmmmfphealhapaaGreatZsad
import Derived.Lib.SliceRun
import Derived.Test.YtmmmfphealhapaaGreatZsaz
import Derived.Test.YtmmmfphealhapaaGreatZsaq
import Derived.Test.YtmmmfphealhapaaGreatZsbb
set_option linter.unusedSimpArgs false
set_option linter.unusedVariables false
set_option maxRecDepth 100000
set_option maxHeartbeats 4000000
namespace Go.Fx
section
variable {P:Program} {n:Nat} {ops:List Oper} {Q:Exit→Act→World→Prop} {m:Mode} {G:Env} {w:World} {ty:TypeId} {pos:String} {af:Array Edge} {g:Option (Nat × Bool)} {l:List Oper} {X:List Nat} {w0:World} {M M':List Ent} {I:List aM}
theorem aTI {t e:TypeId} {sz sz' by_:Nat} {z:List Value} {lo co:Operand} {k k':IntKind} {mm:Nat} [ht:SliceTy P t e sz'] [hz:ElemTy P e sz by_ z]
  (hl:ev G lo=some (.int k 0)) (hc:ev G co=some (.int k' (mm:Int))) (hb:(by_:Int)*(mm:Int)≤281474976710656) (hm:(mm:Int)≤9223372036854775807):
  Eff P n G (.makeSlice t lo co) ty w (fun v w'=>∃b,b=w.heap.size∧v= .slice (some ⟨b,0,none⟩) 0 mm∧w'.ownsRow 0 e sz (.slice (some ⟨b,0,none⟩) 0 mm) 0 []∧Ext [] w w'∧b < w'.heap.size):=by
 refine ⟨?_⟩
 intro a ha dst pos after guard
 obtain ⟨i,v,hi,hs,hby,hzv,hcl⟩:=xK hz
 have hr:=run_make (P:=P) w t e i v ht.und hi hzv k k' 0 mm (by omega) (by omega) (by rw [hby];exact hb) hm
 refine vT (v:= .slice (some ⟨w.heap.size,0,none⟩) 0 mm) (w':=w.alloc (.cells (madeCells z.toArray (mm*sz)) e)) ?_ ⟨_,⟨_,rfl,rfl,⟨by simp, .inr ⟨w.heap.size,mm,madeCells z.toArray (mm*sz),rfl,Nat.zero_le _,heap_alloc_new w _,Nat.zero_le _,by show mm≤9223372036854775807;omega,size_madeCells _ _,by simp⟩⟩,Ext.alloc _ _ _,by simp⟩,rfl⟩
 simp only [Int.toNat_natCast,hs,hcl] at hr
 simp [execOp,ha.ev hl,ha.ev hc,hr]
theorem aUR {d:Nat} {t e:TypeId} {sz sz' by_:Nat} {z:List Value} {lo co:Operand} {k1 k2:IntKind} (mm:Nat) {x2:Int} [SliceTy P t e sz'] [ElemTy P e sz by_ z]
  (hl:ev G lo=some (.int k1 0)) (hc:ev G co=some (.int k2 x2)) (e2:x2=mm) (hb:(by_:Int)*(mm:Int)≤281474976710656) (hm:(mm:Int)≤9223372036854775807) (hg:oQ ops G g=some true) (hd:Nat.ble (d+1) n=true)
  (k:∀b,OkD m X w0 (.row (some ⟨b,0,none⟩) 0 mm [] e sz::M) I∧RD P n ops Q m.nextE l ((d, .slice (some ⟨b,0,none⟩) 0 mm)::G) X w0 (.row (some ⟨b,0,none⟩) 0 mm [] e sz::M) I):
  RD P n ops Q m (⟨some d, .makeSlice t lo co,ty,pos,af,g⟩::l) G X w0 M I:=by
 subst e2
 exact aCC (d:=some d) (K:=fun v' M' I'=>∃b,v'= .slice (some ⟨b,0,none⟩) 0 mm∧M'= .row (some ⟨b,0,none⟩) 0 mm [] e sz::M∧I'=I) hg
  (fun w hw=>(aTI (mm:=mm) hl hc hb hm).mono (fun _ w' ⟨b,hb,hp,hB,hE,_⟩=>⟨_,_,⟨b,hp,rfl,rfl⟩,hw.push hE (by simp [Ent.blocks,hb]) (by simp [Ent.blocks]) hB⟩)) rfl hd
  (fun _ _ _ ⟨b,hp,hM,hI⟩=>by subst hp;subst hM;subst hI;exact k b)
end
end Go.Fx
namespace Go.Fx
section
variable {P:Program} {n:Nat} {ops:List Oper} {Q:Exit→Act→World→Prop} {m:Mode} {G:Env} {l:List Oper} {X:List Nat} {w0:World} {M M':List Ent} {I:List aM}
theorem bAB {w:World} {base:Nat} {e:TypeId} {sz mm m' c:Nat} {a:Option Addr} {xs:List Value} (h:w.ownsRow base e sz (.slice a mm c) mm xs) (hle:m'≤mm):w.ownsRow base e sz (.slice a m' c) m' (xs.take (m'*sz)):=by
 obtain ⟨h1,h2⟩:=h
 have h3:m'*sz≤mm*sz:=Nat.mul_le_mul_right _ hle
 refine ⟨by rw [List.length_take,h1,Nat.min_eq_left h3],?_⟩
 rcases h2 with ⟨hv,h0⟩|⟨g,cap,cur,hv,hb,hc,hn,hm,hs,ht⟩
 ·subst h0
  obtain rfl:m'=0:=by omega
  exact .inl ⟨hv,rfl⟩
 ·injection hv with e1 e2 e3
  subst e1;subst e3
  exact .inr ⟨g,c,cur,rfl,hb,hc,by omega,hm,hs,by rw [←ht,List.take_take,Nat.min_eq_left h3]⟩
theorem Mem.pop {w:World} {a:Option Addr} {mm m' c:Nat} {cs:List Value} {e:TypeId} {sz:Nat} (h:Mem X w0 M I w) (hr:Rep (.row a mm c cs e sz) (.row a m' c (cs.take (m'*sz)) e sz) M M') (hle:m'≤mm):Mem X w0 M' I w:=by
 have ho:w.ownsRow 0 e sz (.slice a mm c) mm cs:=h.ent _ hr.mem
 have hbl:(Ent.row a m' c (cs.take (m'*sz)) e sz).blocks=(Ent.row a mm c cs e sz).blocks:=by cases a <;>rfl
 exact h.upd hr (Ext.refl _ _) (fun b hb=> .inl (hbl ▸ hb)) (by cases a <;>simp [Ent.blocks]) (bAB ho hle)
theorem bDV {ex:Exit} {a:Option Addr} {mm m' c:Nat} {cs:List Value} {e:TypeId} {sz:Nat} (hr:Rep (.row a mm c cs e sz) (.row a m' c (cs.take (m'*sz)) e sz) M M') (hle:m'≤mm) (h:ND n Q ex G X w0 M' I):ND n Q ex G X w0 M I:=yK (fun _ hw=>hw.pop hr hle) h
theorem Mem.rowA {w:World} {a:Option Addr} {mm c:Nat} {cs:List Value} {e:TypeId} {sz:Nat} (h:Mem X w0 M I w) (hm: .row a mm c cs e sz∈M) (h0:0 < mm):∃b,a=some ⟨b,0,none⟩∧mm≤c:=by
 have ho:w.ownsRow 0 e sz (.slice a mm c) mm cs:=h.ent _ hm
 rcases ho.2 with ⟨_,h1⟩|⟨g,cap,cur,hv,_,_,hn,_⟩
 ·omega
 ·injection hv with e1 e2 e3
  exact ⟨g,e1,by omega⟩
end
end Go.Fx
namespace Go.Proofs.YtmmmfphealhapaaGreat
open Go Go.Fx
def aFT (t X Y:Int) (d:Int × Int):Bool:=decide ((X - 2*t≤d.1∧d.1≤X)∧(Y - 2*t≤d.2∧d.2≤Y))
def sH (l:List (Int × Int)) (t X Y:Int):Nat:=l.countP (aFT t X Y)
def lexL (X Y x y:Int):Prop:=X < x∨(X=x∧Y≤y)
structure BestD (l:List (Int × Int)) (t X Y:Int) (n:Nat):Prop where
 eq:n=sH l t X Y
 inx:∃d∈l,d.1=X
 iny:∃d∈l,d.2=Y
 max:∀a∈l,∀b∈l,sH l t a.1 b.2≤n
 least:∀a∈l,∀b∈l,sH l t a.1 b.2=n→lexL X Y a.1 b.2
theorem BestD.uniq {l:List (Int × Int)} {t X Y X' Y':Int} {n n':Nat} (h:BestD l t X Y n) (h':BestD l t X' Y' n'):X=X'∧Y=Y'∧n=n':=by
 obtain ⟨a,ha,ea⟩:=h.inx
 obtain ⟨b,hb,eb⟩:=h.iny
 obtain ⟨a',ha',ea'⟩:=h'.inx
 obtain ⟨b',hb',eb'⟩:=h'.iny
 have e1:=h'.max a ha b hb
 have e2:=h.max a' ha' b' hb'
 rw [ea,eb,←h.eq] at e1
 rw [ea',eb',←h'.eq] at e2
 have en:n=n':=by omega
 have l1:=h'.least a ha b hb (by rw [ea,eb,←h.eq];exact en)
 have l2:=h.least a' ha' b' hb' (by rw [ea',eb',←h'.eq];exact en.symm)
 rw [ea,eb] at l1
 rw [ea',eb'] at l2
 unfold lexL at l1 l2
 refine ⟨?_,?_,en⟩ <;>omega
structure Bst (l:List (Int × Int)) (t:Int) (V:Int→Int→Prop) (X Y:Int) (n:Nat):Prop where
 eq:n=sH l t X Y
 mem:V X Y
 max:∀x y,V x y→sH l t x y≤n
 least:∀x y,V x y→sH l t x y=n→lexL X Y x y
def BInv (l:List (Int × Int)) (t:Int) (V:Int→Int→Prop) (X Y:Int) (n:Nat):Prop:=(n=0∧∀x y,V x y→sH l t x y=0)∨(0 < n∧Bst l t V X Y n)
section
variable {l:List (Int × Int)} {t X Y x y:Int} {V V':Int→Int→Prop} {n:Nat}
theorem BInv.le (h:BInv l t V X Y n) {a b:Int} (hv:V a b):sH l t a b≤n:=by
 rcases h with ⟨_,h⟩|⟨_,h⟩
 ·rw [h a b hv];omega
 ·exact h.max a b hv
theorem BInv.more (h:BInv l t V X Y n) (hc:n < sH l t x y) (hV:∀a b,V' a b→V a b∨(a=x∧b=y)) (hm:V' x y):BInv l t V' x y (sH l t x y):=by
 refine .inr ⟨by omega,rfl,hm,fun a b hv=>?_,fun a b hv he=>?_⟩
 ·rcases hV a b hv with h1|⟨rfl,rfl⟩
  ·have:=h.le h1;omega
  ·omega
 ·rcases hV a b hv with h1|⟨rfl,rfl⟩
  ·have:=h.le h1;omega
  ·exact .inr ⟨rfl,Int.le_refl _⟩
theorem BInv.keep (h:BInv l t V X Y n) (hc:sH l t x y≤n) (hl:0 < n→sH l t x y=n→V X Y→lexL X Y x y) (hV:∀a b,V' a b→V a b∨(a=x∧b=y)) (hm:∀a b,V a b→V' a b):BInv l t V' X Y n:=by
 rcases h with ⟨h0,h⟩|⟨h0,h⟩
 ·refine .inl ⟨h0,fun a b hv=>?_⟩
  rcases hV a b hv with h1|⟨rfl,rfl⟩
  ·exact h a b h1
  ·omega
 ·refine .inr ⟨h0,h.eq,hm _ _ h.mem,fun a b hv=>?_,fun a b hv he=>?_⟩
  ·rcases hV a b hv with h1|⟨rfl,rfl⟩
   ·exact h.max a b h1
   ·exact hc
  ·rcases hV a b hv with h1|⟨rfl,rfl⟩
   ·exact h.least a b h1 he
   ·exact hl h0 he h.mem
theorem BInv.same (h:BInv l t V X Y n) (hV:∀a b,V' a b↔V a b):BInv l t V' X Y n:=by
 have e:V'=V:=by funext a b;exact propext (hV a b)
 rw [e];exact h
theorem bBH {d:Int × Int} (hd:d∈l) (ht:0≤t):0 < sH l t d.1 d.2:=
 List.countP_pos_iff.2 ⟨d,hd,by simp only [aFT,decide_eq_true_eq];omega⟩
theorem BInv.best (h:BInv l t V X Y n) (hl:l≠[]) (ht:0≤t) (h1:∀a∈l,∀b∈l,V a.1 b.2) (h2:∀x y,V x y→(∃d∈l,d.1=x)∧(∃d∈l,d.2=y)):0 < n∧BestD l t X Y n:=by
 obtain ⟨d,r,rfl⟩:=List.exists_cons_of_ne_nil hl
 have hd:d∈d::r:=List.mem_cons_self
 have hp:=bBH hd ht
 rcases h with ⟨h0,h⟩|⟨h0,h⟩
 ·have:=h _ _ (h1 d hd d hd);omega
 ·exact ⟨h0,h.eq,(h2 _ _ h.mem).1,(h2 _ _ h.mem).2,fun a ha b hb=>h.max _ _ (h1 a ha b hb),fun a ha b hb he=>h.least _ _ (h1 a ha b hb) he⟩
end
theorem max2:∀(L:List (Int × Int)),L≠[]→∃a∈L,∀b∈L,b.2≤a.2
 |[],h=>absurd rfl h
 |[d],_=>⟨d,by simp,fun b hb=>by simp at hb;rw [hb];exact Int.le_refl _⟩
 |d::e::r,_=>by
  obtain ⟨a,ha,hm⟩:=max2 (e::r) (by simp)
  by_cases h:d.2≤a.2
  ·exact ⟨a,List.mem_cons_of_mem _ ha,fun b hb=>by
    rcases List.mem_cons.1 hb with rfl|hb
    ·exact h
    ·exact hm b hb⟩
  ·exact ⟨d,List.mem_cons_self,fun b hb=>by
    rcases List.mem_cons.1 hb with rfl|hb
    ·exact Int.le_refl _
    ·have:=hm b hb;omega⟩
def abR (q:Rat):Rat:=if q < 0 then -q else q
def winR (t:Int) (s r:Rat) (d:Int × Int):Bool:=decide (abR ((d.1:Rat) - s)≤(t:Rat)∧abR ((d.2:Rat) - r)≤(t:Rat))
/- ---------- duplicates taken out of a sorted list ---------- -/
def mW:List Int→List Int
 |[]=>[]
 |[x]=>[x]
 |x::y::r=>if x=y then mW (y::r) else x::mW (y::r)
theorem aEL:∀(l:List Int) (y x:Int),mW (l++[y,x])=if x=y then mW (l++[y]) else mW (l++[y])++[x]
 |[],y,x=>by
  show (if y=x then mW [x] else y::mW [x])=_
  by_cases h:x=y
  ·subst h;simp [mW]
  ·rw [if_neg h,if_neg (fun e=>h e.symm)];rfl
 |[a],y,x=>by
  have ih:=aEL [] y x
  simp only [List.nil_append] at ih
  show (if a=y then mW [y,x] else a::mW [y,x])=if x=y then (if a=y then mW [y] else a::mW [y]) else (if a=y then mW [y] else a::mW [y])++[x]
  rw [ih]
  by_cases h:a=y <;>by_cases h2:x=y <;>simp [h,h2]
 |a::b::r,y,x=>by
  have ih:=aEL (b::r) y x
  show (if a=b then mW (b::(r++[y,x])) else a::mW (b::(r++[y,x])))=if x=y then (if a=b then mW (b::(r++[y])) else a::mW (b::(r++[y]))) else (if a=b then mW (b::(r++[y])) else a::mW (b::(r++[y])))++[x]
  rw [List.cons_append,List.cons_append] at ih
  rw [ih]
  by_cases h:a=b <;>by_cases h2:x=y <;>simp [h,h2]
theorem aHO:∀(l:List Int),(mW l).length≤l.length
 |[]=>Nat.le_refl _
 |[x]=>Nat.le_refl _
 |x::y::r=>by
  have ih:=aHO (y::r)
  show (if x=y then mW (y::r) else x::mW (y::r)).length≤_
  split
  ·simp at ih ⊢;omega
  ·simp at ih ⊢;omega
theorem aCU:∀(l:List Int) (z:Int),z∈mW l↔z∈l
 |[],z=>Iff.rfl
 |[x],z=>Iff.rfl
 |x::y::r,z=>by
  have ih:=aCU (y::r) z
  show z∈(if x=y then mW (y::r) else x::mW (y::r))↔_
  by_cases h:x=y
  ·rw [if_pos h,ih,List.mem_cons (b:=x),h]
   constructor
   ·exact fun h=> .inr h
   ·rintro (rfl|h)
    ·exact List.mem_cons_self
    ·exact h
  ·rw [if_neg h,List.mem_cons,ih,List.mem_cons (b:=x)]
def aJI (l:List Int):Prop:=l.Pairwise (· < ·)
def asw (l:List Int):Prop:=l.Pairwise (· ≤ ·)
theorem aWF {y:Int} {r:List Int}:∃t,mW (y::r)=y::t:=by
 induction r generalizing y with
 |nil=>exact ⟨[],rfl⟩
 |cons z r ih=>
  show ∃t,(if y=z then mW (z::r) else y::mW (z::r))=y::t
  by_cases h:y=z
  ·subst h;rw [if_pos rfl];exact ih
  ·rw [if_neg h];exact ⟨_,rfl⟩
theorem aIN:∀{l:List Int},asw l→aJI (mW l)
 |[],_=>List.Pairwise.nil
 |[x],_=>by unfold aJI mW;simp
 |x::y::r,h=>by
  have h':=List.pairwise_cons.1 h
  have ih:=aIN (l:=y::r) h'.2
  show aJI (if x=y then mW (y::r) else x::mW (y::r))
  by_cases e:x=y
  ·rw [if_pos e];exact ih
  ·rw [if_neg e]
   refine List.pairwise_cons.2 ⟨fun z hz=>?_,ih⟩
   rw [aCU] at hz
   have h1:=h'.1 y List.mem_cons_self
   rcases List.mem_cons.1 hz with rfl|hz2
   ·omega
   ·have:=(List.pairwise_cons.1 h'.2).1 z hz2
    omega
theorem aAQ:∀{l:List Int},aJI l→∀j:Nat,∃i:Nat,i≤j∧mW (l++List.replicate j 0)=l++List.replicate i 0
 |[],_,0=>⟨0,Nat.le_refl _,rfl⟩
 |[],_,j+1=>by
  refine ⟨1,by omega,?_⟩
  have:∀j:Nat,mW (List.replicate (j+1) (0:Int))=[0]:=by
   intro j
   induction j with
   |zero=>rfl
   |succ j ih=>
    show (if (0:Int)=0 then mW (List.replicate (j+1) (0:Int)) else _)=_
    rw [if_pos rfl];exact ih
  exact this j
 |[x],_,0=>⟨0,Nat.le_refl _,rfl⟩
 |[x],h,j+1=>by
  obtain ⟨i,hi,e⟩:=aAQ (l:=[]) List.Pairwise.nil (j+1)
  simp only [List.nil_append] at e
  by_cases hx:x=0
  ·subst hx
   have e2:mW ([0]++List.replicate (j+1) (0:Int))=mW (List.replicate (j+1) (0:Int)):=rfl
   rw [e2,e]
   cases i with
   |zero=>
    obtain ⟨t,ht⟩:=aWF (y:=0) (r:=List.replicate j (0:Int))
    have:mW (0::List.replicate j (0:Int))=[]:=e
    rw [ht] at this
    cases this
   |succ i=>exact ⟨i,by omega,rfl⟩
  ·refine ⟨i,hi,?_⟩
   show (if x=0 then mW (List.replicate (j+1) (0:Int)) else x::mW (List.replicate (j+1) (0:Int)))=_
   rw [if_neg hx,e]
   rfl
 |x::y::r,h,j=>by
  have h':=List.pairwise_cons.1 h
  obtain ⟨i,hi,e⟩:=aAQ h'.2 j
  have:=h'.1 y List.mem_cons_self
  refine ⟨i,hi,?_⟩
  show (if x=y then mW (y::(r++List.replicate j 0)) else x::mW (y::(r++List.replicate j 0)))=_
  rw [if_neg (by omega)]
  exact congrArg (x:: ·) e
/- ---------- the program's order ---------- -/
def Vis (xs c:List Int) (i j:Nat) (x y:Int):Prop:=(∃a:Nat,a < i∧a < xs.length∧x=gt xs (a:Int)∧y∈c)∨(i < xs.length∧x=gt xs (i:Int)∧∃b:Nat,b < j∧b < c.length∧y=gt c (b:Int))
theorem aYI {l:List Int} (h:aJI l) {a b:Nat} (hab:a < b) (hb:b < l.length):gt l (a:Int) < gt l (b:Int):=by
 have:=List.pairwise_iff_getElem.1 h a b (by omega) hb hab
 simpa [gt,List.getD,hb,show a < l.length by omega] using this
theorem aEG {l:List Int} {z:Int}:z∈l↔∃a:Nat,a < l.length∧z=gt l (a:Int):=by
 constructor
 ·intro h
  obtain ⟨a,ha,rfl⟩:=List.mem_iff_getElem.1 h
  exact ⟨a,ha,by simp [gt,List.getD,ha]⟩
 ·rintro ⟨a,ha,rfl⟩
  have:gt l (a:Int)=l[a]:=by simp [gt,List.getD,ha]
  rw [this];exact List.getElem_mem ha
theorem aWL (l:List (Int × Int)) (t x y:Int):sH l t x y=0∨∃d∈l,sH l t x y≤sH l t x d.2:=by
 by_cases he:l.filter (aFT t x y)=[]
 ·exact .inl (by unfold sH;rw [List.countP_eq_length_filter,he];rfl)
 ·obtain ⟨b,hb,mb⟩:=max2 _ he
  obtain ⟨hb1,hb2⟩:=List.mem_filter.1 hb
  refine .inr ⟨b,hb1,List.countP_mono_left (fun d hd hw=>?_)⟩
  have hm:=mb d (List.mem_filter.2 ⟨hd,hw⟩)
  simp only [aFT,decide_eq_true_eq] at hw hb2 ⊢
  omega
section
variable {l:List (Int × Int)} {t X Y:Int} {xs c:List Int} {i j n:Nat}
theorem zK {x y:Int} (hi:i < xs.length) (hj:j < c.length):Vis xs c i (j+1) x y↔Vis xs c i j x y∨(x=gt xs (i:Int)∧y=gt c (j:Int)):=by
 unfold Vis
 constructor
 ·rintro (h|⟨h1,h2,b,h3,h4,h5⟩)
  ·exact .inl (.inl h)
  ·by_cases e:b=j
   ·subst e;exact .inr ⟨h2,h5⟩
   ·exact .inl (.inr ⟨h1,h2,b,by omega,h4,h5⟩)
 ·rintro ((h|⟨h1,h2,b,h3,h4,h5⟩)|⟨h1,h2⟩)
  ·exact .inl h
  ·exact .inr ⟨h1,h2,b,by omega,h4,h5⟩
  ·exact .inr ⟨hi,h1,j,by omega,hj,h2⟩
theorem aJY (hx:aJI xs) (hc:aJI c) (h:BInv l t (Vis xs c i j) X Y n) (hi:i < xs.length) (hj:j < c.length):
  (n < sH l t (gt xs (i:Int)) (gt c (j:Int))→BInv l t (Vis xs c i (j+1)) (gt xs (i:Int)) (gt c (j:Int)) (sH l t (gt xs (i:Int)) (gt c (j:Int))))∧(¬n < sH l t (gt xs (i:Int)) (gt c (j:Int))→BInv l t (Vis xs c i (j+1)) X Y n):=by
 constructor
 ·intro hlt
  exact h.more hlt (fun a b hv=>(zK hi hj).1 hv) ((zK hi hj).2 (.inr ⟨rfl,rfl⟩))
 ·intro hge
  refine h.keep (x:=gt xs (i:Int)) (y:=gt c (j:Int)) (by omega) (fun _ _ hV=>?_) (fun a b hv=>(zK hi hj).1 hv) (fun a b hv=>(zK hi hj).2 (.inl hv))
  unfold lexL
  rcases hV with ⟨a,h1,h2,h3,_⟩|⟨h1,h2,b,h3,h4,h5⟩
  ·left;rw [h3];exact aYI hx h1 hi
  ·right;exact ⟨h2,by rw [h5];exact Int.le_of_lt (aYI hc h3 hj)⟩
theorem aLF (hcl:c.length≤j) (hi:i < xs.length) (hl:∀d∈l,d.2∈c) (h:BInv l t (Vis xs c i j) X Y n) (y:Int):sH l t (gt xs (i:Int)) y≤n∧BInv l t (Vis xs c i (j+1)) X Y n:=by
 constructor
 ·rcases aWL l t (gt xs (i:Int)) y with h0|⟨d,hd,hle⟩
  ·omega
  ·obtain ⟨b,hb,e⟩:=aEG.1 (hl d hd)
   have:=h.le (a:=gt xs (i:Int)) (b:=d.2) (.inr ⟨hi,rfl,b,by omega,hb,e⟩)
   omega
 ·refine h.same (fun a b=>?_)
  unfold Vis
  constructor
  ·rintro (h|⟨h1,h2,b,h3,h4,h5⟩)
   ·exact .inl h
   ·exact .inr ⟨h1,h2,b,by omega,h4,h5⟩
  ·rintro (h|⟨h1,h2,b,h3,h4,h5⟩)
   ·exact .inl h
   ·exact .inr ⟨h1,h2,b,by omega,h4,h5⟩
theorem aTT (h:BInv l t (Vis xs c i j) X Y n) (hi:i < xs.length) (hj:c.length≤j):BInv l t (Vis xs c (i+1) 0) X Y n:=by
 refine h.same (fun a b=>?_)
 unfold Vis
 constructor
 ·rintro (⟨a,h1,h2,h3,h4⟩|⟨_,_,b,h3,_⟩)
  ·by_cases e:a=i
   ·subst e
    obtain ⟨b,hb,e⟩:=aEG.1 h4
    exact .inr ⟨hi,h3,b,by omega,hb,e⟩
   ·exact .inl ⟨a,by omega,h2,h3,h4⟩
  ·omega
 ·rintro (⟨a,h1,h2,h3,h4⟩|⟨h1,h2,b,h3,h4,h5⟩)
  ·exact .inl ⟨a,by omega,h2,h3,h4⟩
  ·exact .inl ⟨i,by omega,hi,h2,aEG.2 ⟨b,h4,h5⟩⟩
theorem aTC:BInv l t (Vis xs c 0 0) X Y 0:= .inl ⟨rfl,fun x y hv=>by
 rcases hv with ⟨a,h,_⟩|⟨_,_,b,h,_⟩ <;>omega⟩
theorem bBV (h:BInv l t (Vis xs c xs.length 0) X Y n) (hx:∀z,z∈xs↔∃d∈l,d.1=z) (hc:∀z,z∈c↔∃d∈l,d.2=z) (hl:l≠[]) (ht:0≤t):0 < n∧BestD l t X Y n:=by
 refine h.best hl ht (fun a ha b hb=>?_) (fun x y hv=>?_)
 ·obtain ⟨k,hk,e⟩:=aEG.1 ((hx a.1).2 ⟨a,ha,rfl⟩)
  exact .inl ⟨k,hk,hk,e,(hc b.2).2 ⟨b,hb,rfl⟩⟩
 ·rcases hv with ⟨a,h1,h2,h3,h4⟩|⟨h1,_⟩
  ·exact ⟨(hx x).1 (aEG.2 ⟨a,h2,h3⟩),(hc y).1 h4⟩
  ·omega
end
end Go.Proofs.YtmmmfphealhapaaGreat
namespace Go.Fx
section
variable {P:Program} {n:Nat} {ops:List Oper} {Q:Exit→Act→World→Prop} {m:Mode} {G:Env} {w:World} {ty:TypeId} {pos:String} {af:Array Edge} {g:Option (Nat × Bool)} {l:List Oper} {X:List Nat} {w0:World} {M M':List Ent} {I:List aM}
theorem aMX {t e e':TypeId} {sz b o k c:Nat} {x:Operand} {cs:List Value} [ht:SliceTy P t e sz] (hz:∀w,(zeroValue e).run P w= .ok (.int .i64 0) w) (hx:ev G x=some (.slice (some ⟨b,o,none⟩) k c)) (hk:0 < k) (hB:Blk w b cs e') (ho:o+k≤cs.length):
  Eff P n G (.call {callee:= .builtin .clear,args:=#[x],argTypes:=#[t]}) ty w (fun _ w'=>Blk w' b (splice cs o (List.replicate k (.int .i64 0))) e'∧Ext [b] w w'):=by
 refine ⟨?_⟩
 intro a ha dst pos after guard
 have hl:(List.replicate k (Value.int .i64 0)).length=k:=List.length_replicate
 have hst:=run_storeCells_at P b o e' (List.replicate k (Value.int .i64 0)) 0 cs.toArray w hB (by simpa using ho) (by intro u hu;rw [List.eq_of_mem_replicate hu];rfl)
 simp only [Nat.add_zero] at hst
 have hzc:(Builtin.zeroCells (Value.int .i64 0).cells k).toList=List.replicate k (Value.int .i64 0):=by
  show (Builtin.zeroCells #[Value.int .i64 0] k).toList=_
  simp [Builtin.zeroCells]
  apply List.ext_getElem
  ·simp
  ·intro i h1 h2
   simp [Nat.mod_one]
 refine vT (v:= .tuple #[]) (w':=w.setRow b (splice cs o (List.replicate k (.int .i64 0))).toArray) ?_ ⟨_,⟨?_,Ext.setRow (by simp) _⟩,rfl⟩
 ·obtain ⟨k',rfl⟩:∃k',k=k'+1:=⟨k - 1,by omega⟩
  simp only [splice,hl]
  simp only [hl] at hst
  simp [execOp,resolve,invoke,builtin,ha.ev hx,Builtin.clear_,eU ht.und,hz,hzc,hst]
 ·exact setRow_heap w b _ _ _ _ hB
theorem aRV {t e e':TypeId} {sz b o k c:Nat} {x:Operand} {cs cs':List Value} [SliceTy P t e sz] (hz:∀w,(zeroValue e).run P w= .ok (.int .i64 0) w) (hx:ev G x=some (.slice (some ⟨b,o,none⟩) k c)) (hk:0 < k) (hr:Rep (.blk b cs e') (.blk b cs' e') M M') (hs:splice cs o (List.replicate k (.int .i64 0))=cs') (ho:o+k≤cs.length) (hg:oQ ops G g=some true)
  (kk:OkD m X w0 M' I∧RD P n ops Q m.nextE l G X w0 M' I):RD P n ops Q m (⟨none, .call {callee:= .builtin .clear,args:=#[x],argTypes:=#[t]},ty,pos,af,g⟩::l) G X w0 M I:=
 aCC (d:=none) (K:=fun _ M2 I2=>M2=M'∧I2=I) hg
  (fun w hw=>(aMX hz hx hk (hw.blk hr.mem) ho).mono (fun _ w' ⟨hB,hE⟩=>⟨_,_,⟨rfl,rfl⟩,hw.upd hr hE (fun b hb=> .inl hb) (by simp [Ent.blocks]) (by rw [hs] at hB;exact hB)⟩)) rfl rfl
  (fun _ _ _ ⟨hM,hI⟩=>by subst hM;subst hI;exact kk)
end
theorem aNR {P:Program} {n:Nat} {Q:Exit→Act→World→Prop} {G:Env} {X:List Nat} {w0:World} {M:List Ent} {I:List aM} {ops l:List Oper} {m:Fx.Mode} {ty:TypeId} {pos:String} {af:Array Edge} {g:Option (Nat × Bool)} {d:Nat} {t e:TypeId} {sz:Nat} {x ix:Operand} {b o len c:Nat} {k':IntKind} {i:Int} [SliceTy P t e sz] (hx:ev G x=some (.slice (some ⟨b,o,none⟩) len c)) (hi:ev G ix=some (.int k' i)) (h:0≤i∧i < len) (hg:oQ ops G g=some true)
  (hd:Nat.ble (d+1) n=true) (k:RD P n ops Q m.next l ((d, .pointer (some ⟨b,o+i.toNat*sz,none⟩))::G) X w0 M I):RD P n ops Q m (⟨some d, .indexAddr t x ix,ty,pos,af,g⟩::l) G X w0 M I:=
 aC hg (fun _=>by
  have:=rD (n:=n) (ty:=ty) (P:=P) (G:=G) (t:=t) (e:=e) (sz:=sz) hx hi h (Ok.mk b o) (C:=fun _=>True)
  refine ⟨fun a ha dst pos after guard w _=>?_⟩
  have h2:=this.go a ha dst pos after guard w True.intro
  simpa [pt,bl,of] using h2) rfl hd k
end Go.Fx
namespace Go.Proofs.YtmmmfphealhapaaGreat
open Go Go.Fx
theorem aZU (w:World):(zeroValue 3).run Tryz.prog w= .ok (.int .i64 0) w:=by kernel_rfl
theorem aUJ {b c j:Nat} (h:j < c):wL (some ⟨b,0,none⟩) c j 1=some ⟨b,j,none⟩:=by
 unfold wL
 rw [if_neg (by omega)]
 simp [Addr.add]
 exact fun h=>h.symm
theorem aWX {E:List Int} {tl:List Value} {o i:Nat} (h:i < E.length) (e:o=i):At (recs (eI .i64) E++tl) o (.int .i64 (gt E (i:Int))):=by
 subst e
 refine At.mk ?_
 rw [kQ,List.getElem?_append_left (by simpa using h),List.getElem?_map,fE h]
 simp [h]
theorem aUP {E L:List Int} {tl:List Value} {kk n:Nat} (hE:E.length=n) (hk:kk≤n) (hL:E.take kk=L):splice (recs (eI .i64) E++tl) kk (List.replicate (n - kk) (Value.int .i64 0))=recs (eI .i64) (L++List.replicate (n - kk) 0)++tl:=by
 subst hL
 have hlen:(E.map (Value.int .i64)).length=n:=by simp [hE]
 simp only [splice,kQ,List.length_replicate,List.map_append,List.map_take,List.map_replicate]
 rw [List.take_append_of_le_length (by omega),show kk+(n - kk)=(E.map (Value.int .i64)).length by omega,List.drop_left]
theorem aQD {E D:List Int} {a i:Nat} (h:E.drop a=D.drop a) (hi:a≤i) (hE:E.length=D.length) (hlt:i < E.length):gt E (i:Int)=gt D (i:Int):=by
 rw [fE hlt,fE (by omega)]
 have h1:(E.drop a)[i - a]?=(D.drop a)[i - a]?:=by rw [h]
 rw [List.getElem?_drop,List.getElem?_drop,show a+(i - a)=i by omega] at h1
 rw [List.getElem?_eq_getElem hlt,List.getElem?_eq_getElem (by omega)] at h1
 exact Option.some.inj h1
theorem aMB {D:List Int} {j:Nat} (h1:1≤j) (hj:j < D.length):D.take (j+1)=D.take (j - 1)++[gt D ((j - 1:Nat):Int),gt D (j:Int)]∧D.take j=D.take (j - 1)++[gt D ((j - 1:Nat):Int)]:=by
 have e1:D.take (j+1)=D.take j++[D[j]]:=(List.take_append_getElem hj).symm
 have e2:D.take (j - 1+1)=D.take (j - 1)++[D[j - 1]]:=(List.take_append_getElem (by omega)).symm
 rw [show j - 1+1=j by omega] at e2
 rw [fE (by omega),fE hj]
 refine ⟨?_,e2⟩
 rw [e1,e2,List.append_assoc];rfl
theorem aLO {D:List Int} {j:Nat} (h1:1≤j) (hj:j < D.length):mW (D.take (j+1))=if gt D (j:Int)=gt D ((j - 1:Nat):Int) then mW (D.take j) else mW (D.take j)++[gt D (j:Int)]:=by
 rw [(aMB h1 hj).1,(aMB h1 hj).2]
 exact aEL _ _ _
section
variable {X:List Nat} {w0:World} {M0 M1:List Ent} {I0:List aM}
theorem aEN {b n c:Nat} {D:List Int} {tl:List Value} (hl:D.length=n) (hn:n≤100) (hc:n≤c):
  CD Tryz.prog 134 [.slice (some ⟨b,0,none⟩) n c] X w0 (.blk b (recs (eI .i64) D++tl) 3::M1) I0 (fun v M I=>I0=I∧v= .slice (some ⟨b,0,none⟩) (mW D).length c∧M= .blk b (recs (eI .i64) (mW D++List.replicate (n - (mW D).length) 0)++tl) 3::M1):=by
 refine aS Tryz.func134 rfl Tryz.ntmps134 rfl ?_
 by_cases h2:n < 2
 ·have e:mW D=D:=by
   match D,hl with
   |[],_=>rfl
   |[x],_=>rfl
   |_::_::_,h=>simp at h;omega
  rw [e,hl,Nat.sub_self,List.replicate_zero,List.append_nil]
  repeat refine aB ?_
  refine iA rfl rfl (⟨rfl,rfl,rfl⟩)
 repeat refine aB ?_
 refine lV [0] rfl (fun k G M I=>∃j:Nat,1≤j∧j≤n∧k=n - j∧mW (D.take j)=D.take j∧G=[(3, .int .i64 j)]∧M= .blk b (recs (eI .i64) D++tl) 3::M1∧I0=I) (n - 1) (⟨1,by omega,by omega,rfl,by rw [List.take_one];cases D <;>rfl,rfl,rfl,rfl⟩) ?_
 rintro kk G M I ⟨j,hj1,hj,rfl,hcj,rfl,rfl,rfl⟩
 by_cases hjn:j < n
 ·have hcm:=aLO (D:=D) hj1 (by omega)
  have ejm:((j:Int) - 1)=((j - 1:Nat):Int):=by omega
  have hlD:(D.length:Int)=n:=by omega
  repeat refine aB ?_
  (repeat refine aG ?_);refine dJ [0,1,2,3,4,5,6,7,8,9] [0,0,0,0,0,0,0,0,0,0] mixed (by kernel_rfl) ?_
  repeat refine aB ?_
  rw [ejm]
  by_cases heq:gt D (j:Int)=gt D ((j - 1:Nat):Int)
  ·rw [if_pos heq] at hcm
   have hjc:j < c:=by omega
   repeat refine aB ?_
   (refine aC rfl (fun _=>pU (e:=3) (sz:=1) j n (n - j) rfl (.inr ⟨_,_,_,rfl,rfl,rfl⟩) (.inl ⟨rfl,rfl⟩) (by omega) (by omega) (by omega)) rfl rfl ?_)
   rw [aUJ hjc]
   repeat refine aB ?_
   refine lV [0,4] rfl (fun k G M I=>∃(q t:Nat) (E:List Int),1≤t∧t≤n - j∧k=n - j - t∧E.length=n∧1≤q∧q+1≤j+t∧E.take q=mW (D.take (j+t))∧E.drop (j+t - 1)=D.drop (j+t - 1)∧G=[(3, .int .i64 q),(5, .int .i64 t)]∧M= .blk b (recs (eI .i64) E++tl) 3::M1∧I0=I) (n - j - 1) (⟨j,1,D,by omega,by omega,rfl,hl,hj1,by omega,by rw [hcm,hcj],rfl,rfl,rfl,rfl⟩) ?_
   rintro kk G M I ⟨q,t,E,ht1,ht,rfl,hE,hq1,hq,hEt,hEd,rfl,rfl,rfl⟩
   have hlE:(E.length:Int)=n:=by omega
   by_cases htn:t < n - j
   ·have hcm2:=aLO (D:=D) (j:=j+t) (by omega) (by omega)
    have g1:=aQD (i:=j+t) hEd (by omega) (by omega) (by omega)
    have g2:=aQD (i:=j+t - 1) hEd (by omega) (by omega) (by omega)
    repeat refine aB ?_
    (repeat refine aG ?_);refine dJ [0,1,2,3,4,5,6,7,8,9] [0,0,0,0,0,0,0,0,0,0] mixed (by kernel_rfl) ?_
    repeat refine aB ?_
    refine aNR rfl rfl (by omega) rfl rfl ?_
    (apply gI;exact eY;exact rfl;exact aA;exact aWX (i:=j+t) (by omega) (by omega);exact rfl;exact rfl)
    repeat refine aB ?_
    refine aNR rfl rfl (by omega) rfl rfl ?_
    (apply gI;exact eY;exact rfl;exact aA;exact aWX (i:=j+t - 1) (by omega) (by omega);exact rfl;exact rfl)
    rw [g1,g2]
    by_cases hne:gt D ((j+t:Nat):Int)=gt D ((j+t - 1:Nat):Int)
    ·rw [if_pos hne] at hcm2
     repeat refine aB ?_
     refine gJ (n - j - (t+1)) (⟨q,t+1,E,by omega,by omega,by omega,hE,hq1,by omega,by rw [hEt,←hcm2];rfl,by rw [show j+(t+1) - 1=(j+t - 1)+1 by omega,←List.drop_drop,hEd,List.drop_drop],rfl,rfl,rfl⟩)
    ·rw [if_neg hne] at hcm2
     repeat refine aB ?_
     refine aNR rfl rfl (by omega) rfl rfl ?_
     (apply gI;exact eY;exact rfl;exact aA;exact aWX (i:=j+t) (by omega) (by omega);exact rfl;exact rfl)
     repeat refine aB ?_
     have hst:(st E (q:Int) (gt E ((j+t:Nat):Int)))=E.set q (gt E ((j+t:Nat):Int)):=rfl
     refine gJ (n - j - (t+1)) (⟨q+1,t+1,st E (q:Int) (gt E ((j+t:Nat):Int)),by omega,by omega,by omega,by rw [dI];exact hE,by omega,by omega,?_,?_,rfl,rfl,rfl⟩)
     ·rw [hst,List.take_add_one,List.take_set_of_le (Nat.le_refl _),hEt,show j+(t+1)=j+t+1 by omega,hcm2,g1]
      rw [List.getElem?_set_self (by omega)]
      rfl
     ·rw [hst,List.drop_set_of_lt (by omega),show j+(t+1) - 1=(j+t - 1)+1 by omega,←List.drop_drop,hEd,List.drop_drop]
   ·obtain rfl:t=n - j:=by omega
    rw [show j+(n - j)=D.length by omega,List.take_length] at hEt
    have hql:(mW D).length=q:=by rw [←hEt,List.length_take];omega
    have hqc:q < c:=by omega
    rw [hql]
    repeat refine aB ?_
    (refine aC rfl (fun _=>pU (e:=3) (sz:=1) q n (n - q) rfl (.inr ⟨_,_,_,rfl,rfl,rfl⟩) (.inl ⟨rfl,rfl⟩) (by omega) (by omega) (by omega)) rfl rfl ?_)
    rw [aUJ hqc]
    refine aRV aZU rfl (by omega) .here (aUP hE (by omega) hEt) (by rw [List.length_append,fH];omega) rfl ⟨okF,?_⟩
    repeat refine aB ?_
    (refine aC rfl (fun _=>qY q rfl rfl rfl (by omega)) rfl rfl ?_)
    repeat refine aB ?_
    refine iA rfl rfl (⟨rfl,rfl,rfl⟩)
  ·rw [if_neg heq] at hcm
   repeat refine aB ?_
   refine gJ (n - (j+1)) (⟨j+1,by omega,by omega,rfl,by rw [hcm,hcj,fE (by omega)];exact List.take_append_getElem (by omega),rfl,rfl,rfl⟩)
 ·obtain rfl:j=n:=by omega
  rw [←hl,List.take_length] at hcj
  rw [hcj,hl,Nat.sub_self,List.replicate_zero,List.append_nil]
  repeat refine aB ?_
  refine iA rfl rfl (⟨rfl,rfl,rfl⟩)
end
instance Q4.ones:Ones iL:=⟨fun m u hu=>by simp [iL] at hu;rcases hu with rfl|rfl|rfl|rfl <;>rfl⟩
theorem rT {l:List Q4} {smp:List Int} {z:Int}:bV l (smp++[z])=bV l smp++[gt l z]:=by simp [bV]
theorem pR {l:List Q4} {smp:List Int}:(bV l smp).length=smp.length:=by simp [bV]
theorem vL {l:List Q4} {smp:List Int} (hs:∀s∈l,s.near) (hin:∀x∈smp,0≤x∧x < l.length):∀s∈bV l smp,s.near:=fun s h=>by
 obtain ⟨z,hz,rfl⟩:=List.mem_map.1 h
 exact hs _ (bD (hin z hz))
section
variable {X:List Nat} {w0:World} {M0 M1:List Ent} {I0:List aM}
theorem aSJ {kd:Nat} {q qs:Option Addr} {l:List Q4} {smp:List Int} {n c ns cs:Nat} (hk:kd≤2) (hl:l.length=n) (hn:n≤64) (hs:∀s∈l,s.near) (hsl:smp.length=ns) (hns:ns≤64) (hin:∀x∈smp,0≤x∧x < n) (hq:aH q (recs iL l)∈I0) (hqs:aH qs (recs eZ smp)∈I0):
  CD Tryz.prog 44 [.int .i64 (kd:Int), .slice q n c, .slice qs ns cs] X w0 (M0) I0 (aCK (qJ kd (bV l smp)) kX (M0) I0):=by
 refine aX (φ:=aH q (recs iL l)) (Hv.mem hq) (aX (φ:=aH qs (recs eZ smp)) (Hv.mem (List.mem_cons_of_mem _ hqs)) ?_)
 refine gG Tryz.func44 rfl Tryz.ntmps44 rfl ?_
 repeat refine aB ?_
 refine iN 30 4 ?_
 refine lV [0,1,19,20] rfl (fun k G M I=>∃(i:Nat) (ps:List Q4) (qe:Option Addr) (ce:Nat),i≤ns∧k=ns - i∧ps=bV l (smp.take i)∧G=[(8, .slice qe ps.length ce),(21, .int .i64 i)]∧M= .row qe ps.length ce (recs iL ps) 30 4::M0∧I=aH qs (recs eZ smp)::aH q (recs iL l)::I0) (ns) (⟨0,[],none,0,by omega,rfl,rfl,rfl,rfl,rfl⟩) ?_
 rintro kk G M I ⟨i,ps,qe,ce,hi,rfl,hps,rfl,rfl,rfl⟩
 have hpl:ps.length=i:=by rw [hps,pR,List.length_take];omega
 by_cases hin2:i < ns
 ·have hz:=hin _ (bD (ms:=smp) (i:=(i:Int)) (by omega))
  have ht:smp.take (i+1)=smp.take i++[gt smp (i:Int)]:=by rw [gtQ (by omega)];exact (List.take_append_getElem (by omega)).symm
  repeat refine aB ?_
  refine gX (cs:=recs iL [gt l (gt smp (i:Int))]) ([vQ4 (gt l (gt smp (i:Int)))]) rfl (fun b=>?_)
  refine wB (ys:=[gt l (gt smp (i:Int))]) 1 rfl rfl rfl (fun q2 c2=>?_)
  repeat refine aB ?_
  refine gJ (ns - (i+1)) (⟨i+1,ps++[gt l (gt smp (i:Int))],q2,c2,by omega,rfl,by rw [ht,rT,←hps],rfl,rfl,rfl⟩)
 ·obtain rfl:i=ns:=by omega
  rw [←hsl,List.take_length] at hps
  have hnr:=vL hs (by rw [hl];exact hin)
  rw [←hps] at hnr ⊢
  have hF:=fun M0 I0 h=>aGT (X:=X) (w0:=w0) (M0:=M0) (I0:=I0) (kd:=kd) (q:=qe) (l:=ps) (n:=ps.length) (c:=ce) hk rfl (by omega) hnr h
  repeat refine aB ?_
  refine eX .here ?_
  cases hf:qJ kd ps with
  |none=>
   rw [hf] at hF
   (refine aQ rfl (hF _ _ aA) ?_;rintro _ _ _ ⟨rfl,rfl,u,rfl⟩;refine aL ?_)
   repeat refine aB ?_
   refine fB (M':=M0) (I':=I0) aF aD ?_
   refine tyS [6,7] rfl rfl (⟨rfl,rfl,u,rfl⟩)
  |some A=>
   rw [hf] at hF
   (refine aQ rfl (hF _ _ aA) ?_;rintro _ _ _ ⟨rfl,m,rfl,hmq,hmd,rfl⟩;refine aL ?_)
   repeat refine aB ?_
   refine fB (M':=M0) (I':=iB m kX::I0) aF aD ?_
   refine tyS [6,7] rfl rfl (⟨rfl,m,rfl,hmq,hmd,rfl⟩)
theorem aNL {kd:Nat} {q qs:Option Addr} {l:List Q4} {smp:List Int} {n c ns cs:Nat} (hk:kd≤2) (hl:l.length=n) (hn:n≤64) (hs:∀s∈l,s.near) (hsl:smp.length=ns) (hns:ns≤64) (hin:∀x∈smp,0≤x∧x < n) (hq:aH q (recs iL l)∈I0):
  CD Tryz.prog 44 [.int .i64 (kd:Int), .slice q n c, .slice qs ns cs] X w0 (.row qs ns cs (recs eZ smp) 3 1::M0) I0 (aCK (qJ kd (bV l smp)) kX (.row qs ns cs (recs eZ smp) 3 1::M0) I0):=by
 refine aX (φ:=aH q (recs iL l)) (Hv.mem hq) ?_
 refine gG Tryz.func44 rfl Tryz.ntmps44 rfl ?_
 repeat refine aB ?_
 refine iN 30 4 ?_
 refine lV [0,1,19,20] rfl (fun k G M I=>∃(i:Nat) (ps:List Q4) (qe:Option Addr) (ce:Nat),i≤ns∧k=ns - i∧ps=bV l (smp.take i)∧G=[(8, .slice qe ps.length ce),(21, .int .i64 i)]∧M= .row qe ps.length ce (recs iL ps) 30 4:: .row qs ns cs (recs eZ smp) 3 1::M0∧I=aH q (recs iL l)::I0) (ns) (⟨0,[],none,0,by omega,rfl,rfl,rfl,rfl,rfl⟩) ?_
 rintro kk G M I ⟨i,ps,qe,ce,hi,rfl,hps,rfl,rfl,rfl⟩
 have hpl:ps.length=i:=by rw [hps,pR,List.length_take];omega
 by_cases hin2:i < ns
 ·have hz:=hin _ (bD (ms:=smp) (i:=(i:Int)) (by omega))
  have ht:smp.take (i+1)=smp.take i++[gt smp (i:Int)]:=by rw [gtQ (by omega)];exact (List.take_append_getElem (by omega)).symm
  repeat refine aB ?_
  refine gX (cs:=recs iL [gt l (gt smp (i:Int))]) ([vQ4 (gt l (gt smp (i:Int)))]) rfl (fun b=>?_)
  refine wB (ys:=[gt l (gt smp (i:Int))]) 1 rfl rfl rfl (fun q2 c2=>?_)
  repeat refine aB ?_
  refine gJ (ns - (i+1)) (⟨i+1,ps++[gt l (gt smp (i:Int))],q2,c2,by omega,rfl,by rw [ht,rT,←hps],rfl,rfl,rfl⟩)
 ·obtain rfl:i=ns:=by omega
  rw [←hsl,List.take_length] at hps
  have hnr:=vL hs (by rw [hl];exact hin)
  rw [←hps] at hnr ⊢
  have hF:=fun M0 I0 h=>aGT (X:=X) (w0:=w0) (M0:=M0) (I0:=I0) (kd:=kd) (q:=qe) (l:=ps) (n:=ps.length) (c:=ce) hk rfl (by omega) hnr h
  repeat refine aB ?_
  refine eX .here ?_
  cases hf:qJ kd ps with
  |none=>
   rw [hf] at hF
   (refine aQ rfl (hF _ _ aA) ?_;rintro _ _ _ ⟨rfl,rfl,u,rfl⟩;refine aL ?_)
   repeat refine aB ?_
   refine fB (M':= .row qs i cs (recs eZ smp) 3 1::M0) (I':=I0) aF aD ?_
   refine tyS [6,7] rfl rfl (⟨rfl,rfl,u,rfl⟩)
  |some A=>
   rw [hf] at hF
   (refine aQ rfl (hF _ _ aA) ?_;rintro _ _ _ ⟨rfl,m,rfl,hmq,hmd,rfl⟩;refine aL ?_)
   repeat refine aB ?_
   refine fB (M':= .row qs i cs (recs eZ smp) 3 1::M0) (I':=iB m kX::I0) aF aD ?_
   refine tyS [6,7] rfl rfl (⟨rfl,m,rfl,hmq,hmd,rfl⟩)
end
end Go.Proofs.YtmmmfphealhapaaGreat
