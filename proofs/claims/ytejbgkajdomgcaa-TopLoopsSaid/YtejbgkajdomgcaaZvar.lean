/- TopLoops, plain: components by labels; depth-first search. -/
import Derived.Test.YtejbgkajdomgcaaZvaq
import Derived.Test.YtejbgkajdomgcaaZvak
import Derived.Test.YtejbgkajdomgcaaZval
import Derived.Test.YtejbgkajdomgcaaZvap
set_option linter.unusedSimpArgs false
set_option linter.unusedVariables false
set_option maxRecDepth 100000
set_option maxHeartbeats 4000000
namespace Go.Proofs.Ytejbgkajdomgcaa
open Go Go.Fx
def Lbl (n:Nat) (E:List (Int × Int)) (f:Int→Int):Prop:=∀x y:Int,0≤x→x < n→0≤y→y < n→(f x=f y↔Con E x y)
theorem Lbl.new (n:Nat):Lbl n [] id:=fun x y _ _ _ _=>⟨fun h=>by rw [show x=y from h];exact .refl y,fun h=>h.nil⟩
theorem tC (x y a b:Int):((if x=b then a else x)=(if y=b then a else y))↔(x=y∨(x=a∨x=b)∧(y=a∨y=b)):=by
 by_cases h1:x=b
 ·rw [if_pos h1]
  by_cases h2:y=b
  ·rw [if_pos h2];exact ⟨fun _=> .inl (h1.trans h2.symm),fun _=>rfl⟩
  ·rw [if_neg h2];exact ⟨fun h=> .inr ⟨.inr h1, .inl h.symm⟩,fun h=>h.elim (fun h=>absurd (h.symm.trans h1) h2) fun h=>h.2.elim (fun h=>h.symm) fun h=>absurd h h2⟩
 ·rw [if_neg h1]
  by_cases h2:y=b
  ·rw [if_pos h2];exact ⟨fun h=> .inr ⟨.inl h, .inr h2⟩,fun h=>h.elim (fun h=>absurd (h.trans h2) h1) fun h=>h.1.elim (fun h=>h) fun h=>absurd h h1⟩
  ·rw [if_neg h2];exact ⟨fun h=> .inl h,fun h=>h.elim (fun h=>h) fun h=>h.1.elim (fun p=>h.2.elim (fun q=>p.trans q.symm) fun q=>absurd q h2) fun p=>absurd p h1⟩
theorem xA (f:Int→Int) (e:Int × Int) (x y:Int):(wN f e x=wN f e y)↔(f x=f y∨(f x=f e.1∨f x=f e.2)∧(f y=f e.1∨f y=f e.2)):=by
 unfold wN
 rcases Int.le_total (f e.1) (f e.2) with h|h
 ·rw [show max (f e.1) (f e.2)=f e.2 by omega,show min (f e.1) (f e.2)=f e.1 by omega];exact tC ..
 ·rw [show max (f e.1) (f e.2)=f e.1 by omega,show min (f e.1) (f e.2)=f e.2 by omega]
  refine (tC (f x) (f y) (f e.2) (f e.1)).trans ⟨fun h=>?_,fun h=>?_⟩ <;>exact h.imp id fun ⟨p,q⟩=>⟨p.symm,q.symm⟩
theorem Lbl.snoc {n:Nat} {E:List (Int × Int)} {f:Int→Int} {a b:Int} (h:Lbl n E f) (ha:0≤a∧a < n) (hb:0≤b∧b < n):Lbl n (E++[(a,b)]) (fun x=>if f x=f b then f a else f x):=by
 intro x y x0 x1 y0 y1
 rw [←lo_iff,mJ]
 have k:∀u v:Int,0≤u→u < n→0≤v→v < n→(f u=f v↔lo E u=lo E v):=fun u v h1 h2 h3 h4=>(h u v h1 h2 h3 h4).trans lo_iff.symm
 refine (tC (f x) (f y) (f a) (f b)).trans ?_
 rw [xA]
 show _↔(lo E x=lo E y∨(lo E x=lo E a∨lo E x=lo E b)∧(lo E y=lo E a∨lo E y=lo E b))
 rw [k x y x0 x1 y0 y1,k x a x0 x1 ha.1 ha.2,k x b x0 x1 hb.1 hb.2,k y a y0 y1 ha.1 ha.2,k y b y0 y1 hb.1 hb.2]
theorem aDT {α:Type} [Inhabited α] {l:List α} {i:Int} (h:(l.length:Int)≤i):gt l i=default:=by
 unfold gt
 rw [List.getD_eq_getElem?_getD,List.getElem?_eq_none (by omega)];rfl
structure Gdq (q:Qn) (g:Qn) (r:Qn):Prop where
 nz:q.nz
 fit:(q.a.natAbs≤1048576∧q.b.natAbs≤1048576)∧q.c.natAbs≤1048576∧q.d.natAbs≤1048576
 rel:Qn.rel q (Qn.mul g r)
structure Dfs (n:Nat) (ms:List LK) (ls:List Int) (R:Int→Qn) (g:Qn) (kn:List Bool) (out:List Qn) (kn':List Bool) (out':List Qn):Prop where
 lk:kn'.length=n
 lo:out'.length=n
 mono:∀x:Int,0≤x→x < n→gt kn x=true→gt kn' x=true∧gt out' x=gt out x
 ok:∀x:Int,0≤x→x < n→gt kn x=false→gt kn' x=true→Gdq (gt out' x) g (R x)
 fin:∀x:Int,0≤x→x < n→gt kn x=false→gt kn' x=true→∀k∈ls,((gt ms k).a=x→gt kn' (gt ms k).b=true)∧((gt ms k).b=x→gt kn' (gt ms k).a=true)
structure Mid (n:Nat) (ms:List LK) (ls:List Int) (R:Int→Qn) (g:Qn) (kn:List Bool) (out:List Qn) (v:Int) (i:Nat) (kn':List Bool) (out':List Qn):Prop where
 lk:kn'.length=n
 lo:out'.length=n
 at_:gt kn' v=true∧gt out' v=gt out v
 mono:∀x:Int,0≤x→x < n→gt kn x=true→gt kn' x=true∧gt out' x=gt out x
 ok:∀x:Int,0≤x→x < n→gt kn x=false→gt kn' x=true→Gdq (gt out' x) g (R x)
 fin:∀x:Int,0≤x→x < n→gt kn x=false→x≠v→gt kn' x=true→∀k∈ls,((gt ms k).a=x→gt kn' (gt ms k).b=true)∧((gt ms k).b=x→gt kn' (gt ms k).a=true)
 part:∀k∈ls.take i,((gt ms k).a=v→gt kn' (gt ms k).b=true)∧((gt ms k).b=v→gt kn' (gt ms k).a=true)
theorem Mid.start {n:Nat} {ms:List LK} {ls:List Int} {R:Int→Qn} {g:Qn} {kn:List Bool} {out:List Qn} {v:Int} (lk:kn.length=n) (lo:out.length=n) (h0:0≤v) (h1:v < n) (hg:Gdq (gt out v) g (R v)):Mid n ms ls R g kn out v 0 (st kn v true) out:=by
 have key:∀x:Int,0≤x→gt (st kn v true) x=if x=v then true else gt kn x:=fun x hx=>gM _ ⟨h0,by omega⟩ hx
 refine ⟨by rw [aY];exact lk,lo,⟨by rw [key v h0,if_pos rfl],rfl⟩,fun x hx _ h=>⟨?_,rfl⟩,fun x hx _ h h'=>?_,fun x hx _ h hne h'=>?_,fun k hk=>absurd hk (by simp)⟩
 ·rw [key x hx,h];split <;>rfl
 ·rw [key x hx] at h'
  by_cases e:x=v
  ·rw [e];exact hg
  ·rw [if_neg e,h] at h';exact absurd h' (by decide)
 ·rw [key x hx,if_neg hne,h] at h';exact absurd h' (by decide)
theorem Mid.done {n:Nat} {ms:List LK} {ls:List Int} {R:Int→Qn} {g:Qn} {kn kn':List Bool} {out out':List Qn} {v:Int} {i:Nat} (h:Mid n ms ls R g kn out v i kn' out') (hi:ls.length≤i):Dfs n ms ls R g kn out kn' out':=by
 refine ⟨h.lk,h.lo,h.mono,h.ok,fun x x0 x1 hk hk' k hm=>?_⟩
 by_cases e:x=v
 ·rw [e];exact h.part k (by rw [List.take_of_length_le hi];exact hm)
 ·exact h.fin x x0 x1 hk e hk' k hm
theorem Mid.pass {n:Nat} {ms:List LK} {ls:List Int} {R:Int→Qn} {g:Qn} {kn kn':List Bool} {out out':List Qn} {v:Int} {i:Nat} (h:Mid n ms ls R g kn out v i kn' out') (hi:i < ls.length) (h1:(gt ms (gt ls i)).a=v→gt kn' (gt ms (gt ls i)).b=true) (h2:(gt ms (gt ls i)).b=v→gt kn' (gt ms (gt ls i)).a=true):Mid n ms ls R g kn out v (i+1) kn' out':=by
 refine ⟨h.lk,h.lo,h.at_,h.mono,h.ok,h.fin,fun k hk=>?_⟩
 rw [gD hi] at hk
 rcases List.mem_append.1 hk with hk|hk
 ·exact h.part k hk
 ·rw [List.mem_singleton.1 hk];exact ⟨h1,h2⟩
theorem Mid.next {n:Nat} {ms:List LK} {ls:List Int} {R:Int→Qn} {g:Qn} {kn kn1 kn2:List Bool} {out out1 out2:List Qn} {v y:Int} {q:Qn} {i:Nat} (h:Mid n ms ls R g kn out v i kn1 out1) (hi:i < ls.length) (y0:0≤y) (y1:y < n) (hv:0≤v∧v < n) (hy:gt kn1 y=false) (hd:Dfs n ms ls R g kn1 (st out1 y q) kn2 out2) (hy2:gt kn2 y=true)
  (hl:((gt ms (gt ls i)).a=v∧(gt ms (gt ls i)).b=y)∨((gt ms (gt ls i)).b=v∧(gt ms (gt ls i)).a=y)):Mid n ms ls R g kn out v (i+1) kn2 out2:=by
 have key:∀x:Int,0≤x→gt (st out1 y q) x=if x=y then q else gt out1 x:=fun x hx=>gM _ ⟨y0,by rw [h.lo];omega⟩ hx
 have up:∀x:Int,0≤x→x < n→gt kn1 x=true→gt kn2 x=true∧gt out2 x=gt out1 x:=fun x x0 x1 hx=>by
  obtain ⟨h1,h2⟩:=hd.mono x x0 x1 hx
  refine ⟨h1,?_⟩
  rw [h2,key x x0,if_neg (fun e=>by rw [e,hy] at hx;exact absurd hx (by decide))]
 have fb:∀x:Int,gt kn1 x=false∨gt kn1 x=true:=fun x=>by cases gt kn1 x <;>simp
 refine ⟨hd.lk,hd.lo,?_,fun x x0 x1 hx=>?_,fun x x0 x1 hx hx2=>?_,fun x x0 x1 hx hne hx2 k hk=>?_,fun k hk=>?_⟩
 ·obtain ⟨h1,h2⟩:=up v hv.1 hv.2 h.at_.1
  exact ⟨h1,h2.trans h.at_.2⟩
 ·obtain ⟨h1,h2⟩:=h.mono x x0 x1 hx
  obtain ⟨h3,h4⟩:=up x x0 x1 h1
  exact ⟨h3,h4.trans h2⟩
 ·rcases fb x with e|e
  ·exact hd.ok x x0 x1 e hx2
  ·rw [(up x x0 x1 e).2];exact h.ok x x0 x1 hx e
 ·rcases fb x with e|e
  ·exact hd.fin x x0 x1 e hx2 k hk
  ·obtain ⟨h1,h2⟩:=h.fin x x0 x1 hx hne e k hk
   have rng:∀z:Int,gt kn1 z=true→0≤z→gt kn2 z=true:=fun z hz z0=>by
    by_cases z1:z < n
    ·exact (up z z0 z1 hz).1
    ·rw [aDT (by rw [h.lk];omega)] at hz;exact absurd hz (by decide)
   have neg:∀z:Int,z < 0→gt kn1 z=true→gt kn2 z=true:=fun z z0 hz=>by
    have e1:gt kn1 z=gt kn1 0:=by unfold gt;rw [show z.toNat=(0:Int).toNat by omega]
    have e2:gt kn2 z=gt kn2 0:=by unfold gt;rw [show z.toNat=(0:Int).toNat by omega]
    rw [e2];rw [e1] at hz;exact rng 0 hz (by omega)
   have all:∀z:Int,gt kn1 z=true→gt kn2 z=true:=fun z hz=>by
    by_cases z0:0≤z
    ·exact rng z hz z0
    ·exact neg z (by omega) hz
   exact ⟨fun ha=>all _ (h1 ha),fun hb=>all _ (h2 hb)⟩
 ·have all:∀z:Int,gt kn1 z=true→gt kn2 z=true:=fun z hz=>by
   by_cases z0:0≤z
   ·by_cases z1:z < n
    ·exact (up z z0 z1 hz).1
    ·rw [aDT (by rw [h.lk];omega)] at hz;exact absurd hz (by decide)
   ·have e1:gt kn1 z=gt kn1 0:=by unfold gt;rw [show z.toNat=(0:Int).toNat by omega]
    have e2:gt kn2 z=gt kn2 0:=by unfold gt;rw [show z.toNat=(0:Int).toNat by omega]
    rw [e2];rw [e1] at hz;exact (up 0 (by omega) (by omega) hz).1
  rw [gD hi] at hk
  rcases List.mem_append.1 hk with hk|hk
  ·obtain ⟨h1,h2⟩:=h.part k hk
   exact ⟨fun ha=>all _ (h1 ha),fun hb=>all _ (h2 hb)⟩
  ·rw [List.mem_singleton.1 hk]
   rcases hl with ⟨e1,e2⟩|⟨e1,e2⟩
   ·exact ⟨fun _=>by rw [e2];exact hy2,fun e=>by rw [e1];exact (up v hv.1 hv.2 h.at_.1).1⟩
   ·exact ⟨fun _=>by rw [e1];exact (up v hv.1 hv.2 h.at_.1).1,fun _=>by rw [e2];exact hy2⟩
structure Rts (n:Nat) (ms:List LK) (ls:List Int) (tq:Int→Qn) (kn:List Bool) (out:List Qn):Prop where
 lk:kn.length=n
 lo:out.length=n
 nz:∀x:Int,0≤x→x < n→gt kn x=true→(gt out x).nz∧((gt out x).a.natAbs≤1048576∧(gt out x).b.natAbs≤1048576)∧(gt out x).c.natAbs≤1048576∧(gt out x).d.natAbs≤1048576
 cls:∀k∈ls,gt kn (gt ms k).a=gt kn (gt ms k).b
 agr:∀k∈ls,gt kn (gt ms k).a=true→oL ms tq (gt out) k
theorem Rts.next {n:Nat} {ms:List LK} {ls:List Int} {tq R:Int→Qn} {g q:Qn} {kn kn2:List Bool} {out out2:List Qn} {v:Int} (h:Rts n ms ls tq kn out) (hr:∀k∈ls,(0≤(gt ms k).a∧(gt ms k).a < n)∧(0≤(gt ms k).b∧(gt ms k).b < n)) (hR:∀k∈ls,oL ms tq R k) (v0:0≤v) (v1:v < n) (hv:gt kn v=false) (hd:Dfs n ms ls R g kn (st out v q) kn2 out2):Rts n ms ls tq kn2 out2:=by
 have key:∀x:Int,0≤x→gt (st out v q) x=if x=v then q else gt out x:=fun x hx=>gM _ ⟨v0,by rw [h.lo];omega⟩ hx
 have up:∀x:Int,0≤x→x < n→gt kn x=true→gt kn2 x=true∧gt out2 x=gt out x:=fun x x0 x1 hx=>by
  obtain ⟨h1,h2⟩:=hd.mono x x0 x1 hx
  refine ⟨h1,?_⟩
  rw [h2,key x x0,if_neg (fun e=>by rw [e,hv] at hx;exact absurd hx (by decide))]
 have fb:∀(l:List Bool) (x:Int),gt l x=false∨gt l x=true:=fun l x=>by cases gt l x <;>simp
 refine ⟨hd.lk,hd.lo,fun x x0 x1 hx=>?_,fun k hk=>?_,fun k hk hx=>?_⟩
 ·rcases fb kn x with e|e
  ·have:=hd.ok x x0 x1 e hx
   exact ⟨this.nz,this.fit⟩
  ·rw [(up x x0 x1 e).2];exact h.nz x x0 x1 e
 ·obtain ⟨⟨a0,a1⟩,b0,b1⟩:=hr k hk
  have hc:=h.cls k hk
  rcases fb kn (gt ms k).a with e|e
  ·have e':gt kn (gt ms k).b=false:=by rw [←hc];exact e
   rcases fb kn2 (gt ms k).a with e2|e2
   ·rcases fb kn2 (gt ms k).b with e3|e3
    ·rw [e2,e3]
    ·have:=(hd.fin _ b0 b1 e' e3 k hk).2 rfl
     rw [e2] at this;exact absurd this (by decide)
   ·rw [e2,(hd.fin _ a0 a1 e e2 k hk).1 rfl]
  ·rw [(up _ a0 a1 e).1,(up _ b0 b1 (by rw [←hc];exact e)).1]
 ·obtain ⟨⟨a0,a1⟩,b0,b1⟩:=hr k hk
  have hc:=h.cls k hk
  rcases fb kn (gt ms k).a with e|e
  ·have e':gt kn (gt ms k).b=false:=by rw [←hc];exact e
   have hb2:=(hd.fin _ a0 a1 e hx k hk).1 rfl
   have ga:=hd.ok _ a0 a1 e hx
   have gb:=hd.ok _ b0 b1 e' hb2
   have h1:=Qn.agr_left g (hR k hk)
   show Qn.rel (Qn.mul (gt out2 (gt ms k).b) (tq k)) (gt out2 (gt ms k).a)
   exact ((gb.rel.mul (Qn.rel.refl (tq k))).trans h1).trans ga.rel.symm
  ·have e':gt kn (gt ms k).b=true:=by rw [←hc];exact e
   have:=h.agr k hk e
   unfold oL at this ⊢
   rw [(up _ a0 a1 e).2,(up _ b0 b1 e').2]
   exact this
end Go.Proofs.Ytejbgkajdomgcaa
namespace Go.Fx
def cB:List (Int × Int)→Nat→List MapEntry
 |[],_=>[]
 |p::r,n=>⟨.int .i64 p.1, .int .i64 p.2,n⟩::cB r (n+1)
def gX (es:List (Int × Int)):Obj:= .map (cB es 0).toArray es.length
def look:List (Int × Int)→Int→Nat→Option (Nat × Int)
 |[],_,_=>none
 |p::r,k,n=>if k=p.1 then some (n,p.2) else look r k (n+1)
def vI (es:List (Int × Int)) (k v:Int):List (Int × Int):=match look es k 0 with|some q=>es.set q.1 (k,v)|none=>es++[(k,v)]
theorem sM {j:IntKind} {k:Int}:∀(es:List (Int × Int)) (n i:Nat),Instr.findNow (.int j) (.int .i64 k) (cB es n) i=some ((look es k i).map (fun p=>(p.1,Value.int .i64 p.2)))
 |[],_,_=>rfl
 |p::r,n,i=>by
  simp only [cB,Instr.findNow,Instr.sameNow,if_true,look]
  by_cases h:k=p.1
  ·simp [h]
  ·have:(k==p.1)=false:=by simpa using h
   simp only [this,if_neg h]
   exact sM r (n+1) (i+1)
theorem vB {k:Int}:∀{es:List (Int × Int)} {i:Nat} {q:Nat × Int},look es k i=some q→i≤q.1∧es[q.1 - i]?=some (k,q.2)
 |[],_,_,h=>by simp [look] at h
 |p::r,i,q,h=>by
  unfold look at h
  by_cases e:k=p.1
  ·rw [if_pos e] at h
   simp at h;subst h
   simp [e]
  ·rw [if_neg e] at h
   obtain ⟨h1,h2⟩:=vB h
   refine ⟨by omega,?_⟩
   have:q.1 - i=(q.1 - (i+1))+1:=by omega
   rw [this,List.getElem?_cons_succ];exact h2
theorem xS:∀(es:List (Int × Int)) (n j:Nat) (k v:Int) (w:Value),(es[j]?).map Prod.fst=some k→(cB es n).modify j (fun e=>⟨.int .i64 k, .int .i64 v,e.born⟩)=cB (es.set j (k,v)) n
 |[],_,_,_,_,_,h=>by simp at h
 |p::r,n,0,k,v,_,h=>by simp [cB]
 |p::r,n,j+1,k,v,w,h=>by
  simp only [cB,List.set_cons_succ,List.modify_succ_cons]
  rw [xS r (n+1) j k v w (by simpa using h)]
theorem vP:∀(es:List (Int × Int)) (n:Nat) (p:Int × Int),cB es n++[⟨.int .i64 p.1, .int .i64 p.2,n+es.length⟩]=cB (es++[p]) n
 |[],n,p=>rfl
 |q::r,n,p=>by
  have:=vP r (n+1) p
  simp only [cB,List.cons_append,List.length_cons]
  rw [←this,show n+1+r.length=n+(r.length+1) by omega]
theorem pK:∀(es:List (Int × Int)) (n i:Nat),(cB es n)[i]?=(es[i]?).map (fun p=>(⟨.int .i64 p.1, .int .i64 p.2,n+i⟩:MapEntry))
 |[],_,_=>by simp [cB]
 |p::r,n,0=>by simp [cB]
 |p::r,n,i+1=>by
  simp only [cB,List.getElem?_cons_succ]
  rw [pK r (n+1) i,show n+1+i=n+(i+1) by omega]
theorem yB:∀(es:List (Int × Int)) (n:Nat),(cB es n).length=es.length
 |[],_=>rfl
 |_::r,n=>by simp [cB,yB r (n+1)]
theorem aFB {es:List (Int × Int)} {n:Nat} {x:MapEntry} (h:x∈cB es n):∃i,i < es.length∧x.born=n+i∧∃p,es[i]?=some p∧x=⟨.int .i64 p.1, .int .i64 p.2,n+i⟩:=by
 obtain ⟨i,hi,e⟩:=List.mem_iff_getElem?.1 h|>.imp fun i h=>(⟨(List.getElem?_eq_some_iff.1 h).1,h⟩:i < _∧_)
 rw [yB] at hi
 rw [pK] at e
 obtain ⟨p,hp,e⟩:=Option.map_eq_some_iff.1 e
 exact ⟨i,hi,by rw [←e],p,hp,e.symm⟩
class MapTy (P:Program) (t:TypeId):Prop where
 go:∃k e,P.underlying t=some (.map k e)∧P.underlying k=some (.int .i64)∧∃i,P.info? e=some i∧i.zero=some (.int .i64 0)
section
variable {P:Program} {n:Nat} {G:Env} {ty:TypeId} {w:World}
theorem sG {k:TypeId} (h:P.underlying k=some (.int .i64)) (em:Bool) (x:Int) (w:World):(Instr.checkKey em 10000 k (.int .i64 x)).run P w= .ok () w:=
 MapKept.run_checkKey (n:=9999) h (by simp [MapKept.IsKey]) em
theorem uA {k:TypeId} (h:P.underlying k=some (.int .i64)) (es:List (Int × Int)) (x:Int) (w:World):(Instr.findKey k (.int .i64 x) (cB es 0)).run P w= .ok ((look es x 0).map (fun p=>(p.1,Value.int .i64 p.2))) w:=by
 simp only [Instr.findKey,Sem.run_bind,bL h,Result.andThen_ok,sM]
 rfl
theorem mF {b:Nat} {es:List (Int × Int)} (hb:w.heap[b]?=some (gX es)):(getObj b).run P w= .ok (.map (cB es 0).toArray es.length) w:=by
 simp [getObj,Sem.run,hb,gX]
theorem Eff_makeMap {t:TypeId}:Eff P n G (.makeMap t none) ty w (fun v w'=>∃b,b=w.heap.size∧v= .map (some b)∧w'.heap[b]?=some (gX [])∧Ext [] w w'):=by
 refine ⟨?_⟩
 intro a ha dst pos after guard
 refine jB (v:= .map (some w.heap.size)) (w':=w.alloc (.map #[] 0)) ?_ ⟨_,⟨_,rfl,rfl,?_,Ext.alloc _ _ _⟩,rfl⟩
 ·have hrun:(Instr.makeMap t none).run P w= .ok (.map (some w.heap.size)) (w.alloc (.map #[] 0)):=rfl
  simp [execOp,hrun]
 ·exact heap_alloc_new w _
theorem wD {b:Nat} {es es':List (Int × Int)} (hb:w.heap[b]?=some (gX es)):(setObj b (gX es')).run P w= .ok () {w with heap:=w.heap.setIfInBounds b (gX es')}:=by
 simp [setObj,Sem.run,hb,gX]
theorem Ext.setObj {b:Nat} {o:Obj}:Ext [b] w {w with heap:=w.heap.setIfInBounds b o}:=⟨rfl,rfl,rfl,by simp,fun k hk hx=>by
 simp only [List.mem_singleton] at hx
 show (w.heap.setIfInBounds b o)[k]?=_
 rw [Array.getElem?_setIfInBounds_ne (fun e=>hx e.symm)]⟩
theorem wS {t:TypeId} {x y z:Operand} {b:Nat} {k v:Int} {es:List (Int × Int)} [ht:MapTy P t] (hx:ev G x=some (.map (some b))) (hy:ev G y=some (.int .i64 k)) (hz:ev G z=some (.int .i64 v)) (hb:w.heap[b]?=some (gX es)):
  Eff P n G (.mapUpdate t x y z) ty w (fun u w'=>u=undef∧w'.heap[b]?=some (gX (vI es k v))∧Ext [b] w w'):=by
 refine ⟨?_⟩
 intro a ha dst pos after guard
 obtain ⟨kt,e,h1,h2,_⟩:=ht.go
 have hlt:b < w.heap.size:=(Array.getElem?_eq_some_iff.1 hb).1
 refine aJA (w':={w with heap:=w.heap.setIfInBounds b (gX (vI es k v))}) ?_ ⟨_,⟨rfl,?_,Ext.setObj⟩,rfl⟩
 ·have hrun:(Instr.mapUpdate t (.map (some b)) (.int .i64 k) (.int .i64 v)).run P w= .ok () {w with heap:=w.heap.setIfInBounds b (gX (vI es k v))}:=by
   simp only [Instr.mapUpdate,Sem.run_bind,bL h1,Result.andThen_ok,mF hb,sG h2,uA h2]
   cases hl:look es k 0 with
   |none=>
    have e1:(cB es 0).toArray.push ⟨.int .i64 k, .int .i64 v,es.length⟩=(cB (es++[(k,v)]) 0).toArray:=by
     rw [←vP];simp
    have e2:Obj.map (cB (es++[(k,v)]) 0).toArray (es.length+1)=gX (es++[(k,v)]):=by simp [gX]
    simp only [Option.map_none,e1]
    rw [e2,wD hb]
    simp [vI,hl]
   |some q=>
    obtain ⟨_,hg⟩:=vB hl
    simp only [Nat.sub_zero] at hg
    have hk0:(((cB es 0).toArray[q.1]?).map (·.key)).getD (.int .i64 k)= .int .i64 k:=by
     rw [List.getElem?_toArray,pK,hg];rfl
    have hst:(Instr.keyThatStays (.int .i64 k) (.int .i64 k)).run P w= .ok (.int .i64 k) w:=by
     simp [Instr.keyThatStays,Instr.sameBits]
    have e1:(cB es 0).toArray.modify q.1 (fun e=>{e with key:= .int .i64 k,val:= .int .i64 v})=(cB (es.set q.1 (k,v)) 0).toArray:=by
     rw [←xS es 0 q.1 k v (.bool false) (by rw [hg];rfl)]
     simp
    have e2:Obj.map (cB (es.set q.1 (k,v)) 0).toArray es.length=gX (es.set q.1 (k,v)):=by simp [gX]
    simp only [Option.map_some,Sem.run_bind,hk0,hst,Result.andThen_ok,e1]
    rw [e2,wD hb]
    simp [vI,hl]
  simp [execOp,ha.ev hx,ha.ev hy,ha.ev hz,hrun]
 ·show (w.heap.setIfInBounds b _)[b]?=_
  simp [hlt]
def rA (b:Nat) (es:List (Int × Int)) (seen:List Nat):Obj:= .mapIter (some b) es.length seen.toArray es.length
theorem aFP {t:TypeId} {x:Operand} {b:Nat} {es:List (Int × Int)} [ht:MapTy P t] (hx:ev G x=some (.map (some b))) (hb:w.heap[b]?=some (gX es)):
  Eff P n G (.range t x) ty w (fun v w'=>∃i,i=w.heap.size∧v= .pointer (some ⟨i,0,none⟩)∧w'.heap[i]?=some (rA b es [])∧Ext [] w w'):=by
 refine ⟨?_⟩
 intro a ha dst pos after guard
 obtain ⟨kt,e,h1,_⟩:=ht.go
 refine jB (v:= .pointer (some ⟨w.heap.size,0,none⟩)) (w':=w.alloc (.mapIter (some b) es.length #[] es.length)) ?_ ⟨_,⟨_,rfl,rfl,?_,Ext.alloc _ _ _⟩,rfl⟩
 ·have hrun:(Instr.range t (.map (some b))).run P w= .ok (.pointer (some ⟨w.heap.size,0,none⟩)) (w.alloc (.mapIter (some b) es.length #[] es.length)):=by
   simp only [Instr.range,Sem.run_bind,bL h1,Result.andThen_ok,mF hb,Sem.run_pure]
   rfl
  simp [execOp,ha.ev hx,hrun]
 ·exact heap_alloc_new w _
theorem xW {i b:Nat} {es:List (Int × Int)} {seen:List Nat} (hi:w.heap[i]?=some (rA b es seen)):(getObj i).run P w= .ok (.mapIter (some b) es.length seen.toArray es.length) w:=by
 simp [getObj,Sem.run,hi,rA]
theorem aFJ {i b:Nat} {es:List (Int × Int)} {seen seen':List Nat} (hi:w.heap[i]?=some (rA b es seen)):(setObj i (rA b es seen')).run P w= .ok () {w with heap:=w.heap.setIfInBounds i (rA b es seen')}:=by
 simp [setObj,Sem.run,hi,rA]
theorem aIE {i b:Nat} {es:List (Int × Int)} {seen:List Nat} (hi:w.heap[i]?=some (rA b es seen)) (hb:w.heap[b]?=some (gX es)):
  ((∀j,j < es.length→j∈seen)∧(Instr.next (.pointer (some ⟨i,0,none⟩)) false ty).run P w= .ok (.tuple #[.bool false]) w)∨
  ∃j,j < es.length∧j ∉ seen∧∃w1:World,(w1=w∨w1=w.drew)∧(Instr.next (.pointer (some ⟨i,0,none⟩)) false ty).run P w= .ok (.tuple #[.bool true, .int .i64 (gt es (j:Int)).1, .int .i64 (gt es (j:Int)).2]) {w1 with heap:=w1.heap.setIfInBounds i (rA b es (seen++[j]))}:=by
 have htest:(!seen.toArray.isEmpty && !(cB es 0).toArray.isEmpty && (cB es 0).toArray.all (fun x=>decide (x.born≥es.length)))=false:=by
  cases es with
  |nil=>simp [cB]
  |cons p r=>
   have:(cB (p::r) 0).toArray.all (fun x=>decide (x.born≥(p::r).length))=false:=by
    simp [cB]
   rw [this];simp
 simp only [Instr.next,Sem.run_bind,xW hi,mF hb,Result.andThen_ok,htest,Bool.false_eq_true,if_false]
 have hmem:∀x∈(Array.filter (fun e=> !seen.toArray.contains e.born) (cB es 0).toArray).toList,∃j,j < es.length∧j ∉ seen∧x=⟨.int .i64 (gt es (j:Int)).1, .int .i64 (gt es (j:Int)).2,j⟩:=fun x hx=>by
  simp only [Array.toList_filter,List.mem_filter] at hx
  obtain ⟨j,hj,hbn,p,hp,rfl⟩:=aFB hx.1
  simp only [Nat.zero_add] at hbn hx ⊢
  refine ⟨j,hj,by simpa using hx.2,?_⟩
  have:gt es (j:Int)=p:=by rw [aP hj];exact (List.getElem?_eq_some_iff.1 hp).2
  rw [this]
 have hall:(Array.filter (fun e=> !seen.toArray.contains e.born) (cB es 0).toArray).size=0→∀j,j < es.length→j∈seen:=fun h0 j hj=>by
  refine Classical.byContradiction (fun hn=>?_)
  have he:Array.filter (fun e=> !seen.toArray.contains e.born) (cB es 0).toArray=#[]:=Array.eq_empty_of_size_eq_zero h0
  rw [Array.filter_eq_empty_iff] at he
  have hx:=he ⟨.int .i64 (es[j]).1, .int .i64 (es[j]).2,j⟩ (by
   rw [List.mem_toArray]
   refine List.mem_iff_getElem?.2 ⟨j,?_⟩
   rw [pK,List.getElem?_eq_getElem hj];simp)
  exact hx (by simpa using hn)
 generalize Array.filter (fun e=> !seen.toArray.contains e.born) (cB es 0).toArray=L at hmem hall ⊢
 have e1:L.filter (fun x=>decide (x.born < es.length))=L:=Array.filter_eq_self.2 (fun x hx=>by
  obtain ⟨j,hj,_,rfl⟩:=hmem x (by simpa using hx)
  simpa using hj)
 have e2:L.filter (fun x=>decide (x.born≥es.length))=#[]:=by
  rw [Array.filter_eq_empty_iff]
  intro x hx
  obtain ⟨j,hj,_,rfl⟩:=hmem x (by simpa using hx)
  simpa using hj
 simp only [e1,e2,Array.append_empty]
 by_cases h0:L.size=0
 ·left
  refine ⟨hall h0,?_⟩
  have:L=#[]:=Array.eq_empty_of_size_eq_zero h0
  subst this
  simp [choose,Sem.run,Question.forced]
 ·right
  have hne:L.isEmpty=false:=by simp [Array.isEmpty,h0]
  simp only [hne,Bool.false_eq_true,if_false,Array.empty_append,Array.size_map]
  have hch:∃(j:Nat) (w1:World),j < L.size∧(w1=w∨w1=w.drew)∧(choose (Question.mapNext L.size)).run P w= .ok j w1:=by
   by_cases hf:L.size≤1
   ·exact ⟨0,w,by omega, .inl rfl,by simp [choose,Sem.run,Question.forced,hf]⟩
   ·exact ⟨_,w.drew,Nat.mod_lt _ (by omega), .inr rfl,by
     simp only [choose,Sem.run,Question.forced,decide_eq_true_eq,hf,if_false,Question.cut]
     rfl⟩
  obtain ⟨j,w1,hj,hal,hrun⟩:=hch
  obtain ⟨t,ht,hns,hLt⟩:=hmem L[j] (by simp)
  have hi1:w1.heap[i]?=some (rA b es seen):=by rcases hal with rfl|rfl <;>exact hi
  refine ⟨t,ht,hns,w1,hal,?_⟩
  have hpush:Obj.mapIter (some b) es.length (seen.toArray.push t) es.length=rA b es (seen++[t]):=by simp [rA]
  simp only [hrun,Array.getElem?_map,Array.getElem?_eq_getElem hj,Option.map_some,Sem.run_bind,Result.andThen_ok,hLt,hpush,aFJ hi1]
  rfl
theorem aIT {x:Operand} {i b:Nat} {es:List (Int × Int)} {seen:List Nat} (hx:ev G x=some (.pointer (some ⟨i,0,none⟩))) (hi:w.heap[i]?=some (rA b es seen)) (hb:w.heap[b]?=some (gX es)):
  Eff P n G (.next x false) ty w (fun u w'=>(u= .tuple #[.bool false]∧(∀j,j < es.length→j∈seen)∧w'=w)∨∃j,j < es.length∧j ∉ seen∧u= .tuple #[.bool true, .int .i64 (gt es (j:Int)).1, .int .i64 (gt es (j:Int)).2]∧w'.heap[i]?=some (rA b es (seen++[j]))∧Ext [i] w w'):=by
 refine ⟨?_⟩
 intro a ha dst pos after guard
 have hlt:i < w.heap.size:=(Array.getElem?_eq_some_iff.1 hi).1
 rcases aIE (P:=P) (ty:=ty) hi hb with ⟨h1,h2⟩|⟨j,h1,h2,w1,h3,h4⟩
 ·refine jB (v:= .tuple #[.bool false]) (w':=w) ?_ ⟨_, .inl ⟨rfl,h1,rfl⟩,rfl⟩
  simp [execOp,ha.ev hx,h2]
 ·refine jB (v:= .tuple #[.bool true, .int .i64 (gt es (j:Int)).1, .int .i64 (gt es (j:Int)).2]) (w':={w1 with heap:=w1.heap.setIfInBounds i (rA b es (seen++[j]))}) ?_ ⟨_, .inr ⟨j,h1,h2,rfl,?_,?_⟩,rfl⟩
  ·simp [execOp,ha.ev hx,h4]
  ·have:i < w1.heap.size:=by rcases h3 with rfl|rfl <;>exact hlt
   show (w1.heap.setIfInBounds i _)[i]?=_
   simp [this]
  ·rcases h3 with rfl|rfl
   ·exact Ext.setObj
   ·exact (Ext.drew _ _).trans Ext.setObj
theorem aEU {i b j:Nat} {es:List (Int × Int)} {seen:List Nat} (hj:j < es.length) (hi:w.heap[i]?=some (rA b es (seen++[j]))) (hb:w.heap[b]?=some (gX es)):
  (Instr.entry (.pointer (some ⟨i,0,none⟩))).run P w= .ok (.tuple #[.int .i64 (gt es (j:Int)).1, .int .i64 (gt es (j:Int)).2]) w:=by
 have hback:(seen++[j]).toArray.back?=some j:=by simp
 have hfind:∀(l:List (Int × Int)) (n k:Nat) (hk:k < l.length),(cB l n).find? (fun e=>e.born==n+k)=some ⟨.int .i64 l[k].1, .int .i64 l[k].2,n+k⟩:=by
  intro l
  induction l with
  |nil=>intro n k hk;simp at hk
  |cons p r ih=>
   intro n k hk
   cases k with
   |zero=>simp [cB]
   |succ k=>
    have:(n==n+(k+1))=false:=by simp
    simp only [cB,List.find?_cons,this]
    have:=ih (n+1) k (by simpa using hk)
    rw [show n+1+k=n+(k+1) by omega] at this
    simpa using this
 have hf:(cB es 0).toArray.find? (fun e=>e.born==j)=some ⟨.int .i64 (gt es (j:Int)).1, .int .i64 (gt es (j:Int)).2,j⟩:=by
  rw [←Array.find?_toList]
  have:=hfind es 0 j hj
  simp only [Nat.zero_add] at this
  rw [aP hj];exact this
 simp only [Instr.entry,Sem.run_bind,xW hi,hback,mF hb,Result.andThen_ok,bne_self_eq_false,Bool.false_eq_true,if_false,hf]
 rfl
theorem aGG {x:Operand} {i b j:Nat} {es:List (Int × Int)} {seen:List Nat} (hj:j < es.length) (hx:ev G x=some (.pointer (some ⟨i,0,none⟩))) (hi:w.heap[i]?=some (rA b es (seen++[j]))) (hb:w.heap[b]?=some (gX es)):
  Eff P n G (.entry x) ty w (fun u w'=>u= .tuple #[.int .i64 (gt es (j:Int)).1, .int .i64 (gt es (j:Int)).2]∧w'=w):=by
 refine ⟨?_⟩
 intro a ha dst pos after guard
 refine jB (v:=_) (w':=w) ?_ ⟨_,⟨rfl,rfl⟩,rfl⟩
 simp [execOp,ha.ev hx,aEU hj hi hb]
end
section
variable {P:Program} {n:Nat} {ops:List Oper} {Q:Exit→Act→World→Prop} {m:Mode} {G:Env} {ty:TypeId} {pos:String} {af:Array Edge} {g:Option (Nat × Bool)} {l:List Oper} {X:List Nat} {w0:World} {M M':List Ent} {M2:Nat→List Ent} {I:List aO}
theorem Mem.obj {w:World} {b:Nat} {o:Obj} (h:Mem X w0 M I w) (hm: .obj b o∈M):w.heap[b]?=some o:=h.ent _ hm
theorem aDB {d:Nat} {t:TypeId} (hg:iY ops G g=some true) (hd:Nat.ble (d+1) n=true)
  (k:∀b,OkD m X w0 (.obj b (gX [])::M) I∧RD P n ops Q m.nextE l ((d, .map (some b))::G) X w0 (.obj b (gX [])::M) I):
  RD P n ops Q m (⟨some d, .makeMap t none,ty,pos,af,g⟩::l) G X w0 M I:=
 oZ (d:=some d) (K:=fun v' M' I'=>∃b,v'= .map (some b)∧M'= .obj b (gX [])::M∧I'=I) hg
  (fun w hw=>Eff_makeMap.mono (fun _ w' ⟨b,hb,hp,hB,hE⟩=>⟨_,_,⟨b,hp,rfl,rfl⟩,hw.push hE (by simp [Ent.blocks,hb]) (by simp [Ent.blocks]) hB⟩)) rfl hd
  (fun _ _ _ ⟨b,hp,hM,hI⟩=>by subst hp;subst hM;subst hI;exact k b)
theorem aDW {d:Option Nat} {t:TypeId} {x y z:Operand} {b:Nat} {kk v:Int} {es:List (Int × Int)} [MapTy P t] (hx:ev G x=some (.map (some b))) (hy:ev G y=some (.int .i64 kk)) (hz:ev G z=some (.int .i64 v)) (hr:Rep (.obj b (gX es)) (.obj b (gX (vI es kk v))) M M') (hg:iY ops G g=some true) (hd:fits d n=true)
  (k:OkD m X w0 M' I∧RD P n ops Q m.nextE l (put G d undef) X w0 M' I):RD P n ops Q m (⟨d, .mapUpdate t x y z,ty,pos,af,g⟩::l) G X w0 M I:=
 oZ (K:=fun v' M2 I2=>v'=undef∧M2=M'∧I2=I) hg
  (fun w hw=>(wS hx hy hz (hw.obj hr.mem)).mono (fun _ w' ⟨hu,hB,hE⟩=>⟨_,_,⟨hu,rfl,rfl⟩,hw.upd hr hE (fun b hb=> .inl hb) (by simp [Ent.blocks]) hB⟩)) rfl hd
  (fun _ _ _ ⟨hu,hM,hI⟩=>by subst hu;subst hM;subst hI;exact k)
theorem aIQ {d:Nat} {t:TypeId} {x:Operand} {b:Nat} {es:List (Int × Int)} [MapTy P t] (hx:ev G x=some (.map (some b))) (hm: .obj b (gX es)∈M) (hg:iY ops G g=some true) (hd:Nat.ble (d+1) n=true)
  (k:∀i,OkD m X w0 (.obj i (rA b es [])::M) I∧RD P n ops Q m.nextE l ((d, .pointer (some ⟨i,0,none⟩))::G) X w0 (.obj i (rA b es [])::M) I):
  RD P n ops Q m (⟨some d, .range t x,ty,pos,af,g⟩::l) G X w0 M I:=
 oZ (d:=some d) (K:=fun v' M' I'=>∃i,v'= .pointer (some ⟨i,0,none⟩)∧M'= .obj i (rA b es [])::M∧I'=I) hg
  (fun w hw=>(aFP hx (hw.obj hm)).mono (fun _ w' ⟨i,hi,hp,hB,hE⟩=>⟨_,_,⟨i,hp,rfl,rfl⟩,hw.push hE (by simp [Ent.blocks,hi]) (by simp [Ent.blocks]) hB⟩)) rfl hd
  (fun _ _ _ ⟨b,hp,hM,hI⟩=>by subst hp;subst hM;subst hI;exact k b)
theorem aMH {d:Nat} {x:Operand} {i b:Nat} {es:List (Int × Int)} {seen:List Nat} (hx:ev G x=some (.pointer (some ⟨i,0,none⟩))) (hi: .obj i (rA b es seen)∈M) (hb: .obj b (gX es)∈M) (hr:∀j,Rep (.obj i (rA b es seen)) (.obj i (rA b es (seen++[j]))) M (M2 j)) (hg:iY ops G g=some true) (hd:Nat.ble (d+1) n=true)
  (k0:(∀j,j < es.length→j∈seen)→OkD m X w0 M I∧RD P n ops Q m.nextE l ((d, .tuple #[.bool false])::G) X w0 M I)
  (k1:∀j,j < es.length→j ∉ seen→OkD m X w0 (M2 j) I∧RD P n ops Q m.nextE l ((d, .tuple #[.bool true, .int .i64 (gt es (j:Int)).1, .int .i64 (gt es (j:Int)).2])::G) X w0 (M2 j) I):
  RD P n ops Q m (⟨some d, .next x false,ty,pos,af,g⟩::l) G X w0 M I:=
 oZ (d:=some d) (K:=fun v' M' I'=>I'=I∧((v'= .tuple #[.bool false]∧M'=M∧∀j,j < es.length→j∈seen)∨∃j,j < es.length∧j ∉ seen∧v'= .tuple #[.bool true, .int .i64 (gt es (j:Int)).1, .int .i64 (gt es (j:Int)).2]∧M'=M2 j)) hg
  (fun w hw=>(aIT hx (hw.obj hi) (hw.obj hb)).mono (fun _ w' h=>by
   rcases h with ⟨h1,h2,h3⟩|⟨j,h1,h2,h3,h4,h5⟩
   ·subst h3;exact ⟨M,I,⟨rfl, .inl ⟨h1,rfl,h2⟩⟩,hw⟩
   ·exact ⟨M2 j,I,⟨rfl, .inr ⟨j,h1,h2,h3,rfl⟩⟩,hw.upd (hr j) h5 (fun b hb=> .inl hb) (by simp [Ent.blocks]) h4⟩)) rfl hd
  (fun _ _ _ ⟨hI,h⟩=>by
   subst hI
   rcases h with ⟨h1,h2,h3⟩|⟨j,h1,h2,h3,h4⟩
   ·subst h1;subst h2;exact k0 h3
   ·subst h3;subst h4;exact k1 j h1 h2)
theorem aKA {d:Nat} {x:Operand} {i b j:Nat} {es:List (Int × Int)} {seen:List Nat} (hj:j < es.length) (hx:ev G x=some (.pointer (some ⟨i,0,none⟩))) (hi: .obj i (rA b es (seen++[j]))∈M) (hb: .obj b (gX es)∈M) (hg:iY ops G g=some true) (hd:Nat.ble (d+1) n=true)
  (k:OkD m X w0 M I∧RD P n ops Q m.nextE l ((d, .tuple #[.int .i64 (gt es (j:Int)).1, .int .i64 (gt es (j:Int)).2])::G) X w0 M I):
  RD P n ops Q m (⟨some d, .entry x,ty,pos,af,g⟩::l) G X w0 M I:=
 oZ (d:=some d) (K:=fun v' M' I'=>v'= .tuple #[.int .i64 (gt es (j:Int)).1, .int .i64 (gt es (j:Int)).2]∧M'=M∧I'=I) hg
  (fun w hw=>(aGG hj hx (hw.obj hi) (hw.obj hb)).mono (fun _ w' ⟨hu,hE⟩=>⟨_,_,⟨hu,rfl,rfl⟩,by rw [hE];exact hw⟩)) rfl hd
  (fun _ _ _ ⟨hu,hM,hI⟩=>by subst hu;subst hM;subst hI;exact k)
end
end Go.Fx
namespace Go.Fx
open Go
section
variable {P:Program} {n:Nat} {ops:List Oper} {Q:Exit→Act→World→Prop} {m:Mode} {G:Env} {ty:TypeId} {pos:String} {af:Array Edge} {g:Option (Nat × Bool)} {l:List Oper} {X:List Nat} {w0 w:World} {M M':List Ent} {I:List aO}
theorem aDH {t:TypeId} {x y:Operand} {b:Nat} {k:Int} {es:List (Int × Int)} [ht:MapTy P t] (hx:ev G x=some (.map (some b))) (hy:ev G y=some (.int .i64 k)) (hb:w.heap[b]?=some (gX es)):
  Eff P n G (.lookup t x y false) ty w (fun u w'=>u= .int .i64 (((look es k 0).map (·.2)).getD 0)∧w'=w):=by
 refine ⟨?_⟩
 intro a ha dst pos after guard
 obtain ⟨kt,e,h1,h2,i,h3,h4⟩:=ht.go
 have hrun:(Instr.lookup t (.map (some b)) (.int .i64 k) false).run P w= .ok (.int .i64 (((look es k 0).map (·.2)).getD 0)) w:=by
  simp only [Instr.lookup,Sem.run_bind,bL h1,Result.andThen_ok,mF hb,Sem.run_pure,sG h2,uA h2]
  cases hl:look es k 0 with
  |none=>simp [zeroValue,typeInfo,h3,h4]
  |some q=>simp
 refine jB (v:=_) (w':=w) ?_ ⟨_,⟨rfl,rfl⟩,rfl⟩
 simp [execOp,ha.ev hx,ha.ev hy,hrun]
theorem pM {d:Nat} {t:TypeId} {x y:Operand} {b:Nat} {kk:Int} {es:List (Int × Int)} [MapTy P t] (hx:ev G x=some (.map (some b))) (hy:ev G y=some (.int .i64 kk)) (hm: .obj b (gX es)∈M) (hg:iY ops G g=some true) (hd:Nat.ble (d+1) n=true)
  (k:OkD m X w0 M I∧RD P n ops Q m.nextE l ((d, .int .i64 (((look es kk 0).map (·.2)).getD 0))::G) X w0 M I):
  RD P n ops Q m (⟨some d, .lookup t x y false,ty,pos,af,g⟩::l) G X w0 M I:=
 oZ (d:=some d) (K:=fun v' M' I'=>v'= .int .i64 (((look es kk 0).map (·.2)).getD 0)∧M'=M∧I'=I) hg
  (fun w hw=>(aDH hx hy (hw.obj hm)).mono (fun _ w' ⟨hu,hE⟩=>⟨_,_,⟨hu,rfl,rfl⟩,by rw [hE];exact hw⟩)) rfl hd
  (fun _ _ _ ⟨hu,hM,hI⟩=>by subst hu;subst hM;subst hI;exact k)
end
end Go.Fx
namespace Go.Proofs.Ytejbgkajdomgcaa
open Go Go.Fx
instance mapTy:MapTy Try.prog 95:=⟨by
 obtain ⟨i,hi,hz⟩:=Option.bind_eq_some_iff.1 (show (Try.prog.info? 3).bind (fun i=>i.zero)=some (.int .i64 0) by kernel_rfl)
 exact ⟨_,_,Try.underlying95,Try.underlying3,i,hi,hz⟩⟩
theorem tJ {x:Int}:∀{es:List (Int × Int)} {j:Nat},(Fx.look es x j).isSome=true↔∃p∈es,p.1=x
 |[],j=>by simp [Fx.look]
 |p::r,j=>by
  unfold Fx.look
  by_cases e:x=p.1
  ·rw [if_pos e];simp [e]
  ·rw [if_neg e,tJ (es:=r)]
   constructor
   ·rintro ⟨q,hq,h⟩;exact ⟨q,List.Mem.tail _ hq,h⟩
   ·rintro ⟨q,hq,h⟩
    rcases List.mem_cons.1 hq with rfl|hq
    ·exact absurd h.symm e
    ·exact ⟨q,hq,h⟩
def nX (n:Nat) (f:Int→Int):List (Int × Int):=(List.range n).map (fun i:Nat=>((i:Int),f (i:Int)))
theorem jL (n:Nat) (f:Int→Int):(nX n f).length=n:=by simp [nX]
theorem wM {n:Nat} {f:Int→Int} {i:Nat} (h:i < n):(nX n f)[i]?=some ((i:Int),f (i:Int)):=by simp [nX,h]
theorem aOX {n:Nat} {f:Int→Int} {i:Nat} (h:i < n):gt (nX n f) (i:Int)=((i:Int),f (i:Int)):=by
 rw [aP (by rw [jL];exact h)]
 have:=wM (f:=f) h
 rw [List.getElem?_eq_getElem (by rw [jL];exact h)] at this
 exact Option.some.inj this
theorem aAB {n:Nat} {f:Int→Int} {x:Int} (h0:0≤x) (h1:x < n):Fx.look (nX n f) x 0=some (x.toNat,f x):=by
 have hs:(Fx.look (nX n f) x 0).isSome=true:=tJ.2 ⟨(x,f x),by
  refine List.mem_iff_getElem?.2 ⟨x.toNat,?_⟩
  rw [wM (by omega),Int.toNat_of_nonneg h0],rfl⟩
 obtain ⟨q,hq⟩:=Option.isSome_iff_exists.1 hs
 obtain ⟨_,hg⟩:=vB hq
 rw [Nat.sub_zero] at hg
 have hlt:q.1 < n:=by
  have:=(List.getElem?_eq_some_iff.1 hg).1
  rwa [jL] at this
 rw [wM hlt] at hg
 injection hg with hg
 injection hg with e1 e2
 rw [hq]
 have:q.1=x.toNat:=by omega
 rw [show q=(q.1,q.2) from rfl,this,←e2,e1]
theorem uT {n:Nat} {f:Int→Int} {x:Int} (h0:0≤x) (h1:x < n):((Fx.look (nX n f) x 0).map (·.2)).getD 0=f x:=by rw [aAB h0 h1];rfl
theorem aLI {n:Nat} {f:Int→Int} {x v:Int} (h0:0≤x) (h1:x < n):vI (nX n f) x v=nX n (fun y=>if y=x then v else f y):=by
 unfold vI
 rw [aAB h0 h1]
 refine List.ext_getElem? (fun i=>?_)
 by_cases hi:i < n
 ·rw [wM hi,List.getElem?_set]
  by_cases e:x.toNat=i
  ·rw [if_pos e,if_pos (by show x.toNat < (nX n f).length;rw [jL];omega),if_pos (by omega)]
   rw [show (i:Int)=x by omega]
  ·rw [if_neg e,wM hi,if_neg (by omega)]
 ·rw [List.getElem?_eq_none (by rw [List.length_set,jL];omega),List.getElem?_eq_none (by rw [jL];omega)]
theorem aMM {n:Nat}:vI (nX n id) n n=nX (n+1) id:=by
 unfold vI
 have:Fx.look (nX n id) n 0=none:=by
  rw [←Option.not_isSome_iff_eq_none,tJ]
  rintro ⟨p,hp,e⟩
  simp only [nX,List.mem_map,List.mem_range] at hp
  obtain ⟨i,hi,rfl⟩:=hp
  simp only at e
  omega
 rw [this]
 simp only
 unfold nX
 rw [List.range_succ,List.map_append];rfl
theorem pX {n:Nat} {f g:Int→Int} (h:∀i:Nat,i < n→f i=g i):nX n f=nX n g:=List.map_congr_left (fun i hi=>by rw [h i (List.mem_range.1 hi)])
theorem aMG (b n:Nat) (f g:Int→Int) (s:List Nat):rA b (nX n f) s=rA b (nX n g) s:=by unfold rA;rw [jL,jL]
def wO (f:Int→Int) (a b:Int) (seen:List Nat) (y:Int):Int:=if y.toNat∈seen∧f y=f b then f a else f y
theorem aKK (f:Int→Int) (a b:Int) (n:Nat):nX n (wO f a b [])=nX n f:=pX (fun i _=>by unfold wO;rw [if_neg (by simp)])
theorem aPK {f:Int→Int} {a b:Int} {seen:List Nat} {j:Nat} (h:j ∉ seen):wO f a b seen j=f j:=by
 unfold wO;rw [if_neg (by simp [h])]
theorem aLZ {f:Int→Int} {a b:Int} {seen:List Nat} {j n:Nat} (hn:j < n) (h:f j=f b):vI (nX n (wO f a b seen)) j (f a)=nX n (wO f a b (seen++[j])):=by
 rw [aLI (by omega) (by omega)]
 refine pX (fun i _=>?_)
 unfold wO
 by_cases e:i=j
 ·subst e
  rw [if_pos rfl,if_pos ⟨by simp,h⟩]
 ·rw [if_neg (by omega)]
  have:((i:Int).toNat∈seen++[j])↔((i:Int).toNat∈seen):=by simp [e]
  simp only [this]
theorem aOY {f:Int→Int} {a b:Int} {seen:List Nat} {j n:Nat} (h:¬f j=f b):nX n (wO f a b seen)=nX n (wO f a b (seen++[j])):=by
 refine pX (fun i _=>?_)
 unfold wO
 by_cases e:i=j
 ·subst e
  rw [if_neg (fun k=>h k.2),if_neg (fun k=>h k.2)]
 ·have:((i:Int).toNat∈seen++[j])↔((i:Int).toNat∈seen):=by simp [e]
  simp only [this]
theorem aMA {f:Int→Int} {a b:Int} {seen:List Nat} {n:Nat} (h:∀j,j < n→j∈seen):nX n (wO f a b seen)=nX n (fun y=>if f y=f b then f a else f y):=by
 refine pX (fun i hi=>?_)
 unfold wO
 have:(i:Int).toNat∈seen:=by rw [Int.toNat_natCast];exact h i hi
 simp only [this,true_and]
theorem aGX {n:Nat} {l:List Nat} (h:l.Nodup) (hl:∀x∈l,x < n):l.length≤n:=by
 have hn:(l.map (fun x:Nat=>(x:Int))).Nodup:=List.pairwise_map.2 (h.imp (fun hne e=>hne (by omega)))
 have:=nS (l.map (fun x:Nat=>(x:Int))) (rg n) hn (fun x hx=>by
  obtain ⟨y,hy,rfl⟩:=List.mem_map.1 hx
  exact jI.2 ⟨by omega,by have:=hl y hy;omega⟩)
 rw [List.length_map] at this
 simpa [rg] using this
def lks (E:List RX):List LK:=E.map (fun e=>⟨e.a,e.b,0⟩)
theorem mP (E:List RX):(lks E).length=E.length:=by simp [lks]
theorem mW {E:List RX} {k:Int} (h:0≤k∧k < E.length):gt (lks E) k=⟨(gt E k).a,(gt E k).b,0⟩:=by
 obtain ⟨i,rfl⟩:∃i:Nat,k=i:=⟨k.toNat,by omega⟩
 rw [aP (by rw [mP];omega),aP (by omega)]
 simp [lks]
structure TrOk (E:List RX) (i:Nat) (T:List Int):Prop where
 r:∀k∈T,0≤k∧k < i
 f:Fst [] (es (lks E) T)
 s:∀z:Nat,z < i→Con (es (lks E) T) (gt (lks E) z).b (gt (lks E) z).a
theorem TrOk.new (E:List RX):TrOk E 0 []:=⟨fun k hk=>absurd hk List.not_mem_nil,trivial,fun z hz=>absurd hz (by omega)⟩
theorem TrOk.old {E:List RX} {i:Nat} {T:List Int} (h:TrOk E i T) (hc:Con (es (lks E) T) (gt (lks E) i).a (gt (lks E) i).b):TrOk E (i+1) T:=
 ⟨fun k hk=>⟨(h.r k hk).1,by have:=(h.r k hk).2;omega⟩,h.f,fun z hz=>by
  by_cases e:z=i
  ·subst e;exact hc.symm
  ·exact h.s z (by omega)⟩
theorem TrOk.snoc {E:List RX} {i:Nat} {T:List Int} (h:TrOk E i T) (hc:¬Con (es (lks E) T) (gt (lks E) i).a (gt (lks E) i).b):TrOk E (i+1) (T++[(i:Int)]):=by
 have hsub:∀e∈es (lks E) T,e∈es (lks E) (T++[(i:Int)]):=qP (fun k hk=>List.mem_append_left _ hk)
 refine ⟨fun k hk=>?_,?_,fun z hz=>?_⟩
 ·rcases List.mem_append.1 hk with hk|hk
  ·exact ⟨(h.r k hk).1,by have:=(h.r k hk).2;omega⟩
  ·rw [List.mem_singleton.1 hk];omega
 ·rw [lI]
  exact Fst.snoc.2 ⟨h.f,by rw [List.nil_append];exact hc⟩
 ·by_cases e:z=i
  ·subst e
   have:Con (es (lks E) (T++[(z:Int)])) (gt (lks E) z).a (gt (lks E) z).b:= .link (List.mem_map_of_mem (f:=pr (lks E)) (List.mem_append_right T (List.mem_singleton.2 rfl)))
   exact this.symm
  ·exact (h.s z (by omega)).sub hsub
section
variable {X:List Nat} {w0:World} {M0:List Ent} {I0:List aO}
theorem aIR {p:Option Addr} {n:Nat} {E:List RX} {m c:Nat} (hm:E.length=m) (hm2:m≤256) (hn:1≤n∧n≤64) (he:∀e∈E,EdOk n e) (hp:aN p (recs eX E)∈I0):
  CD Try.prog 39 [.int .i64 n, .slice p m c] X w0 M0 I0 (fun v M I=>∃(q:Option Addr) (c2:Nat) (T:List Int),v= .slice q T.length c2∧(TrOk E m T∧T.length≤m)∧M=M0∧I=aN q (recs (eI .i64) T)::I0):=by
 refine bO Try.func39 rfl Try.ntmps39 rfl ?_
 refine lU ?_
 repeat refine aD ?_
 (refine aDB rfl rfl ?_;intro b5;refine cK ?_)
 repeat refine aD ?_
 refine qU [1,5,15] rfl (fun k G M I=>∃i:Nat,i≤n∧k=n - i∧G=[(16, .int .i64 i)]∧M= .obj b5 (gX (nX i id))::M0∧I0=I) (n) (⟨0,by omega,rfl,rfl,rfl,rfl⟩) ?_
 rintro kk G M I ⟨i,hi,rfl,rfl,rfl,rfl⟩
 by_cases hii:i < n
 ·repeat refine aD ?_
  (refine aDW rfl rfl rfl qE rfl rfl ⟨okF,?_⟩)
  rw [aMM]
  repeat refine aD ?_
  refine mI (n - (i+1)) (⟨i+1,by omega,rfl,rfl,rfl,rfl⟩)
 ·obtain rfl:n=i:=by omega
  repeat refine aD ?_
  refine pG 3 1 ?_
  refine qU [5,23,24] rfl (fun k G M I=>∃(i:Nat) (f:Int→Int) (T:List Int) (a:Option Addr) (c':Nat),i≤m∧k=m - i∧TrOk E i T∧Lbl n (es (lks E) T) f∧T.length≤i∧G=[(7, .slice a T.length c'),(25, .int .i64 i)]∧M= .obj b5 (gX (nX n f)):: .row a T.length c' (recs (eI .i64) T) 3 1::M0∧I0=I) (m) (⟨0,id,[],none,0,by omega,rfl,TrOk.new E,Lbl.new n,by simp,rfl,rfl,rfl⟩) ?_
  rintro kk G M I ⟨j,f,T,a,c',hj,rfl,hT,hf,hTl,rfl,rfl,rfl⟩
  by_cases hjm:j < m
  ·have hed:=he _ (eO (ms:=E) (i:=(j:Int)) ⟨by omega,by omega⟩)
   have hlk:=mW (E:=E) (k:=(j:Int)) ⟨by omega,by omega⟩
   obtain ⟨x,hx⟩:∃x,gt E (j:Int)=x:=⟨_,rfl⟩
   rw [hx] at hed hlk
   obtain ⟨⟨xa0,xa1⟩,xb0,xb1⟩:=hed.r
   have hla:gt (lks E) (j:Int)=⟨x.a,x.b,0⟩:=hlk
   repeat refine aD ?_
   refine iL (fun b9=>?_)
   rw [hx]
   repeat refine aD ?_
   refine oJ (cs:=eX x) .here ?_
   refine yQ (fun G M I=>G=[(5, .map (some b5)),(7, .slice a T.length c'),(8, .int .i64 j),(10, .int .i64 (f x.a)),(11, .int .i64 (f x.b)),(23, .slice p m c),(24, .int .i64 m),(25, .int .i64 j)]∧M= .obj b5 (gX (nX n f)):: .row a T.length c' (recs (eI .i64) T) 3 1::M0∧I0=I) ?_ ?_
   ·((repeat refine aL ?_);refine aDJ (.obj b5 (gX (nX n f)):: .row a T.length c' (recs (eI .i64) T) 3 1::M0) (aN (some ⟨b9,0,none⟩) (eX x)::I0) mixed ?_)
    refine vZ (fuel:=4) (listed':=#[true,true,true,false,true,true,true,false,false,false]) [0,1,2,4,5,6] [1,2,1,1,2,1] bN bR (by kernel_rfl) (by kernel_rfl) rfl rfl ?_
    repeat refine aD ?_
    refine tY (fuel:=3) (i:=3) (j:=7) (by kernel_rfl) ?_ ?_
    ·(refine pM rfl rfl aG rfl rfl ⟨okF,?_⟩;rw [uT xa0 xa1])
     refine gG ?_
     refine oG [8,7,9] [1,0,0] bN bR (by kernel_rfl) (by kernel_rfl) rfl rfl ?_
     repeat refine aD ?_
     (refine pM rfl rfl aG rfl rfl ⟨okF,?_⟩;rw [uT xb0 xb1])
     repeat refine aD ?_
     refine tyE ⟨rfl,rfl,rfl⟩
    ·(refine pM rfl rfl aG rfl rfl ⟨okF,?_⟩;rw [uT xb0 xb1])
     refine gG ?_
     refine oG [3,8,9] [0,0,0] bN bR (by kernel_rfl) (by kernel_rfl) rfl rfl ?_
     repeat refine aD ?_
     (refine pM rfl rfl aG rfl rfl ⟨okF,?_⟩;rw [uT xa0 xa1])
     repeat refine aD ?_
     refine tyE ⟨rfl,rfl,rfl⟩
   ·rintro G M I ⟨rfl,rfl,rfl⟩
    have hfe:=hf x.a x.b xa0 xa1 xb0 xb1
    have hce:Con (es (lks E) T) (gt (lks E) j).a (gt (lks E) j).b↔Con (es (lks E) T) x.a x.b:=by rw [hla]
    by_cases hfab:f x.a=f x.b
    ·repeat refine aD ?_
     refine mI (m - (j+1)) (⟨j+1,f,T,a,c',by omega,rfl,hT.old (hce.2 (hfe.1 hfab)),hf,by omega,rfl,rfl,rfl⟩)
    ·have hT2:=hT.snoc (fun h=>hfab (hfe.2 (hce.1 h)))
     have hf2:=hf.snoc (a:=x.a) (b:=x.b) ⟨xa0,xa1⟩ ⟨xb0,xb1⟩
     repeat refine aD ?_
     refine uU (cs:=recs (eI .i64) [(j:Int)]) ([.int .i64 j]) rfl (fun b43=>?_)
     refine tyP (ys:=[(j:Int)]) 2 rfl rfl rfl (fun a2 c2=>?_)
     repeat refine aD ?_
     (refine aIQ rfl aG rfl rfl ?_;intro it;refine cK ?_)
     rw [←aKK f x.a x.b n]
     repeat refine aD ?_
     refine qU [5,7,10,11,23,24,25,46] rfl (fun k G M I=>∃seen:List Nat,seen.Nodup∧(∀j∈seen,j < n)∧k=n - seen.length∧G=[]∧M= .obj it (rA b5 (nX n (wO f x.a x.b seen)) seen):: .obj b5 (gX (nX n (wO f x.a x.b seen))):: .row a2 (T++[(j:Int)]).length c2 (recs (eI .i64) (T++[(j:Int)])) 3 1::M0∧I0=I) (n) (⟨[],List.nodup_nil,fun j hj=>by simp at hj,rfl,rfl,rfl,rfl⟩) ?_
     rintro kk G M I ⟨seen,hnd,hse,rfl,rfl,rfl,rfl⟩
     repeat refine aD ?_
     refine aMH (M2:=fun j'=> .obj it (rA b5 (nX n (wO f x.a x.b seen)) (seen++[j'])):: .obj b5 (gX (nX n (wO f x.a x.b seen))):: .row a2 (T++[(j:Int)]).length c2 (recs (eI .i64) (T++[(j:Int)])) 3 1::M0) rfl aG aG (fun j=> .here) rfl rfl (fun hall=>?_) (fun y hy hyn=>?_)
     ·refine cK ?_
      rw [jL] at hall
      rw [aMA (f:=f) (a:=x.a) (b:=x.b) (seen:=seen) (n:=n) hall]
      repeat refine aD ?_
      refine mI (m - (j+1)) (⟨j+1,fun y=>if f y=f x.b then f x.a else f y,T++[(j:Int)],a2,c2,by omega,rfl,hT2,by rw [lI,show pr (lks E) (j:Int)=(x.a,x.b) by unfold pr;rw [hla]];exact hf2,by simp;omega,rfl,rfl,rfl⟩)
     ·refine cK ?_
      rw [jL] at hy
      have hnd2:(seen++[y]).Nodup:=by
       rw [List.nodup_append]
       exact ⟨hnd,by simp,fun u hu v hv e=>hyn (by rw [List.mem_singleton] at hv;rw [←hv,←e];exact hu)⟩
      have hse2:∀j∈seen++[y],j < n:=fun u hu=>by
       rcases List.mem_append.1 hu with hu|hu
       ·exact hse u hu
       ·rw [List.mem_singleton.1 hu];exact hy
      have hle:=aGX hnd2 hse2
      rw [List.length_append,List.length_singleton] at hle
      have hgy:gt (nX n (wO f x.a x.b seen)) (y:Int)=((y:Int),f (y:Int)):=by rw [aOX hy,aPK hyn]
      have hg1:(gt (nX n (wO f x.a x.b seen)) (y:Int)).1=(y:Int):=by rw [hgy]
      have hg2:(gt (nX n (wO f x.a x.b seen)) (y:Int)).2=f (y:Int):=by rw [hgy]
      rw [hg1,hg2]
      repeat refine aD ?_
      (refine aKA (es:=nX n (wO f x.a x.b seen)) (seen:=seen) (j:=y) (by rw [jL];exact hy) rfl aG aG rfl rfl ⟨okF,?_⟩)
      rw [hg1,hg2]
      by_cases hv:f (y:Int)=f x.b
      ·repeat refine aD ?_
       (refine aDW rfl rfl rfl qE rfl rfl ⟨okF,?_⟩)
       rw [aLZ (f:=f) (a:=x.a) (b:=x.b) (seen:=seen) (j:=y) (n:=n) hy hv,aMG b5 n (wO f x.a x.b seen) (wO f x.a x.b (seen++[y]))]
       repeat refine aD ?_
       refine mI (n - (seen.length+1)) (⟨seen++[y],hnd2,hse2,by rw [List.length_append,List.length_singleton],rfl,rfl,rfl⟩)
      ·rw [aOY (f:=f) (a:=x.a) (b:=x.b) (seen:=seen) (j:=y) (n:=n) hv]
       repeat refine aD ?_
       refine mI (n - (seen.length+1)) (⟨seen++[y],hnd2,hse2,by rw [List.length_append,List.length_singleton],rfl,rfl,rfl⟩)
  ·obtain rfl:m=j:=by omega
   repeat refine aD ?_
   refine mE (cs:=recs (eI .i64) T) rP ?_
   refine lL rfl rfl (⟨a,c',T,rfl,⟨hT,hTl⟩,rfl,rfl⟩)
end
end Go.Proofs.Ytejbgkajdomgcaa
