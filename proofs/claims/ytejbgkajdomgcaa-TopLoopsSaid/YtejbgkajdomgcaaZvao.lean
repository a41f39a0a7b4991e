/- Forest: insertion sort of numbers, Sort. -/
import Derived.Test.YtejbgkajdomgcaaZvan
import Derived.Test.YtejbgkajdomgcaaZvam
import Derived.Test.YtejbgkajdomgcaaZval
import Derived.Test.YtejbgkajdomgcaaZvai
set_option linter.unusedSimpArgs false
set_option linter.unusedVariables false
set_option maxRecDepth 100000
set_option maxHeartbeats 4000000
namespace Go.Proofs.Ytejbgkajdomgcaa
open Go Go.Fx
section
variable {X:List Nat} {w0:World} {M0:List Ent} {I0:List aO}
theorem aMC {b n c:Nat} {tl:List Value} {P B S:List Int} {a z:Int} (hn:n=(P++B++S).length)
  (ha:a=P.length) (hz:z=P.length+B.length) (hbd:(n:Int)≤1000000):
  CD Try.prog 55 [.slice (some ⟨b,0,none⟩) n c, .int .i64 a, .int .i64 z] X w0 (.blk b (recs (eI .i64) (P++B++S)++tl) 3::M0) I0
   (fun _ M I=> .blk b (recs (eI .i64) (P++jG id B++S)++tl) 3::M0=M∧I0=I):=by
 have hlen:(P++B++S).length=P.length+B.length+S.length:=by simp [Nat.add_assoc]
 refine aX Try.func55 rfl Try.ntmps55 rfl ?_
 repeat (refine gH ?_)
 refine aU [0,1,2] rfl (fun k G M I=>∃(q:Nat) (i:Int) (D:List Int),i=a+1+q∧k=B.length - q∧(i≤z∨q=0)∧D=P++(jG id (B.take (q+1))++(B.drop (q+1)++S))∧G=[(6, .int .i64 i)]∧M= .blk b (recs (eI .i64) D++tl) 3::M0∧I0=I) (B.length) _ _ _ aT aJ aI (⟨0,a+1,_,by omega,by omega, .inr rfl,?_,rfl,rfl,rfl⟩) ?_
 ·cases B with
  |nil=>simp [qY]
  |cons x r=>simp [jG,kC]
 rintro k G M I ⟨q,i,D,hi,rfl,hq,hD,rfl,rfl,rfl⟩
 have hDl:D.length=n:=by
  rw [hD,hn];simp [mR];omega
 repeat' (first|refine gH ?_|refine bG rfl (fun h=>?_) (fun h=>?_)|refine bI rfl rfl (fun h=>?_) (fun h=>?_)|fail)
 ·have hqB:q+1 < B.length:=by omega
  have hx:B.drop (q+1)=B[q+1]::B.drop (q+2):=List.drop_eq_getElem_cons hqB
  have hxB:B[q+1]∈B:=List.getElem_mem hqB
  have htk:B.take (q+2)=B.take (q+1)++[B[q+1]]:=List.take_succ_eq_append_getElem hqB
  generalize B[q+1]=x at hx hxB htk
  have hsl:=mR id (B.take (q+1))
  have htl:(B.take (q+1)).length=q+1:=by simp;omega
  refine aU [0,1,2,6] rfl (fun k G M I=>∃(P1 P2 D:List Int) (j:Int),jG id (B.take (q+1))=P1++P2∧j=P.length+P1.length∧k=P1.length∧(∀y∈P2,x < y)∧D=(P++P1)++x::(P2++(B.drop (q+2)++S))∧G=[(7, .int .i64 j)]∧M= .blk b (recs (eI .i64) D++tl) 3::M0∧I0=I) (q+1) _ _ _ aT aJ aI (⟨jG id (B.take (q+1)),[],D,i,by simp,by omega,by omega,by simp,by rw [hD,hx];simp,rfl,rfl,rfl⟩) ?_
  rintro k G M I ⟨P1,P2,D,j,hs,hj,rfl,hP2,hD',rfl,rfl,rfl⟩
  have hDl':D.length=n:=by
   have:=congrArg List.length hs
   rw [hD',hn];simp at this ⊢;omega
  have hasc:=pW id (B.take (q+1))
  rw [hs] at hasc
  have done1:(∀y∈P1,y≤x)→D=P++(jG id (B.take (q+1+1))++(B.drop (q+1+1)++S)):=fun h1=>by
   rw [show q+1+1=q+2 from rfl,htk,kW,hs,wG id h1 hP2,hD']
   simp
  have hl2:=congrArg List.length hs
  simp only [List.length_append] at hl2
  by_cases hja:a < j
  ·have hne:P1≠[]:=by intro e;subst e;simp at hj;omega
   obtain ⟨Q1,y,rfl⟩:∃Q1 y,P1=Q1++[y]:=⟨P1.dropLast,P1.getLast hne,(List.dropLast_concat_getLast hne).symm⟩
   have hyB:y∈B:=by
    have:y∈jG id (B.take (q+1)):=by rw [hs];simp
    exact List.mem_of_mem_take ((kR id y _ _ rfl).1 this)
   simp only [List.length_append,List.length_cons,List.length_nil] at hj hl2
   have hDe:D=(P++Q1)++y::x::(P2++(B.drop (q+2)++S)):=by rw [hD'];simp
   have gj:gt D j=x:=by rw [hD'];exact uF (by simp;omega)
   have gj1:gt D (j - 1)=y:=by rw [hDe];exact uF (by simp;omega)
   (repeat refine aL ?_);refine dW [0,1,2,3,4,5,6,7,8,9,10,11,12,13,14] [1,1,1,0,1,1,1,0,1,1,1,1,0,0,0] mixed (by kernel_rfl) ?_
   repeat (refine gH ?_)
   rw [gj,gj1]
   (refine bZ rfl (aLY (x:=x) (y:=y)) rfl rfl ?_;rintro _ _ _ ⟨rfl,rfl,rfl⟩;refine ⟨okD,?_⟩)
   by_cases hxy:x < y
   ·rw [dX hxy]
    repeat (refine gH ?_)
    (repeat refine aL ?_);refine lN [0,1,2,3,4,5,6,7,8,9,10,11,12,13,14,15,16,17] [0,0,1,1,1,0,0,0,0,0,1,1,1,0,0,0,0,0] mixed (by kernel_rfl) ?_
    repeat (refine gH ?_)
    rw [gj,gj1]
    refine aK (Q1.length) _ _ _ (by simp) aT aJ aI ⟨Q1,y::P2,_,j - 1,by rw [hs];simp,by omega,rfl,fun u hu=>?_,?_,rfl,rfl,rfl⟩
    ·rcases List.mem_cons.1 hu with rfl|hu
     ·exact hxy
     ·exact hP2 u hu
    ·rw [hDe,aCR (by simp;omega) (by simp;omega)]
     simp
   ·rw [bQ hxy]
    repeat (refine gH ?_)
    refine aK (B.length - (q+1)) _ _ _ (by first|omega|(simp only [List.length_append,List.length_cons,List.length_nil];omega)) aT aJ aI (⟨q+1,i+1,D,by omega,rfl, .inl (by omega),done1 (fun u hu=>?_),rfl,rfl,rfl⟩)
    rcases List.mem_append.1 hu with hu|hu
    ·have:u≤y:=Asc.cross id (Asc.left id hasc) u hu y (by simp)
     omega
    ·simp at hu;subst hu;omega
  ·have:P1=[]:=List.eq_nil_of_length_eq_zero (by omega)
   subst this
   (repeat refine aL ?_);refine dW [0,1,2,3,4,5,6,7,8,9,10,11,12,13,14] [1,1,1,0,1,1,1,0,1,1,1,1,0,0,0] mixed (by kernel_rfl) ?_
   repeat (refine gH ?_)
   refine aK (B.length - (q+1)) _ _ _ (by first|omega|(simp only [List.length_append,List.length_cons,List.length_nil];omega)) aT aJ aI (⟨q+1,i+1,D,by omega,rfl, .inl (by omega),done1 (by simp),rfl,rfl,rfl⟩)
 ·have h1:B.take (q+1)=B:=List.take_of_length_le (by omega)
  have h2:B.drop (q+1)=[]:=List.drop_eq_nil_of_le (by omega)
  rw [h1,h2] at hD
  simp only [List.nil_append,←List.append_assoc] at hD
  subst hD
  refine dH (by first|exact .inl rfl|exact .inr rfl) rfl _ _ aJ aI (⟨rfl,rfl⟩)
theorem aIB:CD Try.prog 55 [.slice none 0 0, .int .i64 0, .int .i64 0] X w0 M0 I0 (fun _ M I=>M0=M∧I0=I):=by
 refine aX Try.func55 rfl Try.ntmps55 rfl ?_
 repeat (refine gH ?_)
 refine aU [0,1,2] rfl (fun k G M I=>k=0∧G=[(6, .int .i64 1)]∧M0=M∧I0=I) (0) _ _ _ aT aJ aI (⟨rfl,rfl,rfl,rfl⟩) ?_
 rintro k G M I ⟨rfl,rfl,rfl,rfl⟩
 repeat (refine gH ?_)
 refine dH (by first|exact .inl rfl|exact .inr rfl) rfl _ _ aJ aI (⟨rfl,rfl⟩)
theorem aMR {b n c:Nat} {tl:List Value} {D:List Int} (hn:n=D.length) (hb:n≤12):
  CD Try.prog 35 [.slice (some ⟨b,0,none⟩) n c] X w0 (.blk b (recs (eI .i64) D++tl) 3::M0) I0 (fun _ M I=> .blk b (recs (eI .i64) (jG id D)++tl) 3::M0=M∧I0=I):=by
 have h1:=aMC (X:=X) (w0:=w0) (M0:=M0) (I0:=I0) (b:=b) (c:=c) (tl:=tl) (P:=[]) (B:=D) (S:=[]) (a:=0) (z:=D.length) (n:=n) (by simp [hn]) (by simp) (by simp) (by omega)
 simp only [List.append_nil,List.nil_append] at h1
 rw [←hn] at h1
 have hp:∀r:Int,CD Try.prog 47 [.slice (some ⟨b,0,none⟩) n c, .int .i64 0, .int .i64 n, .int .i64 r] X w0 (.blk b (recs (eI .i64) D++tl) 3::M0) I0 (fun _ M I=> .blk b (recs (eI .i64) (jG id D)++tl) 3::M0=M∧I0=I):=fun r=>by
  refine aX Try.func47 rfl Try.ntmps47 rfl ?_
  repeat (refine gH ?_)
  refine aU [0] rfl (fun k G M I=>k=0∧G=[(1, .int .i64 0),(2, .int .i64 n),(3, .int .i64 r),(8, .bool true),(9, .bool true)]∧M= .blk b (recs (eI .i64) D++tl) 3::M0∧I0=I) (0) _ _ _ aT aJ aI (⟨rfl,rfl,rfl,rfl⟩) ?_
  rintro k G M I ⟨rfl,rfl,rfl,rfl⟩
  repeat (refine gH ?_)
  (refine bZ rfl (h1) rfl rfl ?_;rintro _ _ _ ⟨rfl,rfl⟩;refine ⟨okD,?_⟩)
  repeat (refine gH ?_)
  refine dH (by first|exact .inl rfl|exact .inr rfl) rfl _ _ aJ aI (⟨rfl,rfl⟩)
 refine aX Try.func35 rfl Try.ntmps35 rfl ?_
 repeat (refine gH ?_)
 (refine bZ rfl (aEP (x:=(n:Int)) (by omega) (by omega)) rfl rfl ?_;rintro _ _ _ ⟨rfl,rfl,r,rfl⟩;refine ⟨okD,?_⟩)
 repeat (refine gH ?_)
 (refine bZ rfl (hp r) rfl rfl ?_;rintro _ _ _ ⟨rfl,rfl⟩;refine ⟨okD,?_⟩)
 repeat (refine gH ?_)
 refine dH (by first|exact .inl rfl|exact .inr rfl) rfl _ _ aJ aI (⟨rfl,rfl⟩)
theorem aIZ:CD Try.prog 35 [.slice none 0 0] X w0 M0 I0 (fun _ M I=>M0=M∧I0=I):=by
 have hp:∀r:Int,CD Try.prog 47 [.slice none 0 0, .int .i64 0, .int .i64 0, .int .i64 r] X w0 M0 I0 (fun _ M I=>M0=M∧I0=I):=fun r=>by
  refine aX Try.func47 rfl Try.ntmps47 rfl ?_
  repeat (refine gH ?_)
  refine aU [0] rfl (fun k G M I=>k=0∧G=[(1, .int .i64 0),(2, .int .i64 0),(3, .int .i64 r),(8, .bool true),(9, .bool true)]∧M0=M∧I0=I) (0) _ _ _ aT aJ aI (⟨rfl,rfl,rfl,rfl⟩) ?_
  rintro k G M I ⟨rfl,rfl,rfl,rfl⟩
  repeat (refine gH ?_)
  (refine bZ rfl (aIB) rfl rfl ?_;rintro _ _ _ ⟨rfl,rfl⟩;refine ⟨okD,?_⟩)
  repeat (refine gH ?_)
  refine dH (by first|exact .inl rfl|exact .inr rfl) rfl _ _ aJ aI (⟨rfl,rfl⟩)
 refine aX Try.func35 rfl Try.ntmps35 rfl ?_
 repeat (refine gH ?_)
 (refine bZ rfl (aEP (x:=0) (by omega) (by omega)) rfl rfl ?_;rintro _ _ _ ⟨rfl,rfl,r,rfl⟩;refine ⟨okD,?_⟩)
 repeat (refine gH ?_)
 (refine bZ rfl (hp r) rfl rfl ?_;rintro _ _ _ ⟨rfl,rfl⟩;refine ⟨okD,?_⟩)
 repeat (refine gH ?_)
 refine dH (by first|exact .inl rfl|exact .inr rfl) rfl _ _ aJ aI (⟨rfl,rfl⟩)
end
theorem aAS {l:List Int} (key:Int→Int) (h:l.Pairwise (fun a b=>key a≤key b)) (c:Int):∃P1 P2,l=P1++P2∧(∀y∈P1,key y≤c)∧∀y∈P2,c < key y:=by
 induction l with
 |nil=>exact ⟨[],[],rfl,fun y hy=>by simp at hy,fun y hy=>by simp at hy⟩
 |cons a l ih=>
  obtain ⟨h1,h2⟩:=List.pairwise_cons.1 h
  by_cases ha:key a≤c
  ·obtain ⟨P1,P2,e,h3,h4⟩:=ih h2
   exact ⟨a::P1,P2,by rw [e];rfl,fun y hy=>by
    rcases List.mem_cons.1 hy with e2|e2
    ·rw [e2];exact ha
    ·exact h3 y e2,h4⟩
  ·exact ⟨[],a::l,rfl,fun y hy=>by simp at hy,fun y hy=>by
    rcases List.mem_cons.1 hy with e2|e2
    ·rw [e2];omega
    ·have:=h1 y e2;omega⟩
theorem aOJ (ms:List LK) (n:Nat):(jG (wt ms) (rg n)).Pairwise (kl ms):=by
 induction n with
 |zero=>exact List.Pairwise.nil
 |succ n ih=>
  rw [aDL,kW]
  have ha:(jG (wt ms) (rg n)).Pairwise (fun a b=>wt ms a≤wt ms b):=ih.imp (fun {a b} h=>by unfold kl at h;omega)
  obtain ⟨P1,P2,e,h1,h2⟩:=aAS (wt ms) ha (wt ms (n:Int))
  have hm:∀y∈jG (wt ms) (rg n),0≤y∧y < n:=fun y hy=>jI.1 ((kR (wt ms) y _ _ rfl).1 hy)
  rw [e] at ih hm ⊢
  rw [wG (wt ms) h1 h2]
  rw [List.pairwise_append] at ih ⊢
  refine ⟨ih.1,List.pairwise_cons.2 ⟨fun y hy=> .inl (h2 y hy),ih.2.1⟩,fun a ha b hb=>?_⟩
  rcases List.mem_cons.1 hb with e2|e2
  ·subst e2
   have h3:=h1 a ha
   have h4:=hm a (List.mem_append.2 (.inl ha))
   unfold kl
   omega
  ·exact ih.2.2 a ha b e2
theorem aCC (ms:List LK) (n:Nat) (k:Int):k∈jG (wt ms) (rg n)↔k∈rg n:=kR (wt ms) k _ _ rfl
def sN (ms:List LK):List Int:=jG (wt ms) (rg ms.length)
theorem aNN (ms:List LK):(sN ms).Pairwise (kl ms):=aOJ ms _
theorem pY (ms:List LK) (k:Int):k∈sN ms↔k∈rg ms.length:=aCC ms _ k
theorem nV (ms:List LK):(sN ms).Nodup:=(aNN ms).imp (fun {a b} h (e:a=b)=>kl_ir ms b (by rw [e] at h;exact h))
theorem aNB (ms:List LK):(sN ms).length=ms.length:=by rw [sN,mR,sU]
def kt (ms:List LK):List Int:=(rg ms.length).filter (fun k=>decide (k∈kr ms (sN ms)))
theorem zM {ms:List LK} {k:Int}:k∈kt ms↔k∈kr ms (sN ms):=by
 unfold kt
 rw [List.mem_filter]
 exact ⟨fun h=>of_decide_eq_true h.2,fun h=>⟨(pY ms k).1 (vS h),decide_eq_true h⟩⟩
theorem aCD (ms:List LK):asc (kt ms):=(rg_pw _).filter _
theorem aCT (ms:List LK):uH ms.length (kt ms):=fun k hk=>jI.1 (List.mem_filter.1 hk).1
theorem aDR (ms:List LK):(kt ms).Perm (kr ms (sN ms)):=by
 refine (List.perm_ext_iff_of_nodup ?_ (oM (nV ms))).2 (fun k=>zM)
 exact List.Pairwise.imp (fun {a b} h (e:a=b)=>by omega) (aCD ms)
theorem aOF {ms:List LK} {x y:Int}:Con (es ms (kt ms)) x y↔Con (es ms (rg ms.length)) x y:=by
 have h1:Con (es ms (kt ms)) x y↔Con (es ms (kr ms (sN ms))) x y:=⟨fun h=>h.sub (qP (fun k h=>zM.1 h)),fun h=>h.sub (qP (fun k h=>zM.2 h))⟩
 rw [h1,aPM]
 exact ⟨fun h=>h.sub (qP (fun k h=>(pY ms k).1 h)),fun h=>h.sub (qP (fun k h=>(pY ms k).2 h))⟩
theorem aOL (ms:List LK):jG id (kr ms (sN ms))=kt ms:=by
 refine aFC (r:=fun a b:Int=>a < b) (fun a h=>by omega) (fun a b h h2=>by omega) ?_ (aCD ms) (fun x=>by rw [kR id x _ _ rfl,zM])
 have h1:=pW id (kr ms (sN ms))
 have hp:(jG id (kr ms (sN ms))).Perm (kr ms (sN ms)):=by
  have hc:∀(l:List Int) (x:Int),(l.Nodup→(jG id l).Nodup):=fun l x=>by
   induction l using lK with
   |h0=>intro h;exact h
   |h1 l a ih=>
    intro h
    rw [List.nodup_append] at h
    rw [kW]
    have ha:(jG id l).Pairwise (fun a b=>id a≤id b):=pW id l
    obtain ⟨P1,P2,e,h2,h3⟩:=aAS id ha (id a)
    have ih:=ih h.1
    have hm:∀y∈jG id l,y≠a:=fun y hy=>h.2.2 y ((kR id y _ _ rfl).1 hy) a (by simp)
    rw [e] at ih hm ⊢
    rw [wG id h2 h3]
    rw [List.nodup_append] at ih ⊢
    refine ⟨ih.1,List.nodup_cons.2 ⟨fun ha2=>hm a (List.mem_append.2 (.inr ha2)) rfl,ih.2.1⟩,fun x hx y hy=>?_⟩
    rcases List.mem_cons.1 hy with e2|e2
    ·rw [e2];exact hm x (List.mem_append.2 (.inl hx))
    ·exact ih.2.2 x hx y e2
  exact (List.perm_ext_iff_of_nodup (hc _ 0 (oM (nV ms))) (oM (nV ms))).2 (fun x=>kR id x _ _ rfl)
 have hn:(jG id (kr ms (sN ms))).Nodup:=hp.nodup_iff.2 (oM (nV ms))
 exact (List.pairwise_and_iff.2 ⟨h1,hn⟩).imp (fun {a b} h=>by have:=h.1;have:=h.2;simp only [id] at*;omega)
theorem aHA {ms:List LK} {n:Nat} (hg:Gd ms n):(kr ms (sN ms)).length≤n:=by
 have h1:=tZ (hg.nds (l:=kr ms (sN ms)) (fun k hk=>jI.1 ((pY ms k).1 (vS hk)))) (aCP ms (sN ms))
 rw [aJZ] at h1
 omega
end Go.Proofs.Ytejbgkajdomgcaa
namespace Go.Proofs.Ytejbgkajdomgcaa
open Go Go.Fx
theorem aBF {ms:List LK} {i:Nat} (h:i < (sN ms).length):kr ms ((sN ms).take (i+1))=kst ms (kr ms ((sN ms).take i)) (gt (sN ms) (i:Int)):=by
 rw [gD h,rU]
section
variable {X:List Nat} {w0:World} {M0:List Ent} {I0:List aO}
theorem aFI {p:Option Addr} {b1 n m c:Nat} {ms:List LK} {x y:Int} (hm:ms.length=m) (hm2:m≤1024) (hg:Gd ms n) (hx:0≤x∧x < m) (hy:0≤y∧y < m) (hp:aN p (recs eK ms)∈I0) (h1:aN (some ⟨b1,0,none⟩) [.int .i64 n, .slice p m c]∈I0):
  CD Try.prog 34 [.int .i64 x, .int .i64 y, .pointer (some ⟨b1,0,none⟩)] X w0 M0 I0 (fun v M I=>M0=M∧I0=I∧v= .int .i64 (wt ms x - wt ms y)):=by
 have w1:=hg.w x hx.1 (by omega)
 have w2:=hg.w y hy.1 (by omega)
 unfold wt at w1 w2 ⊢
 refine uM Try.func34 rfl Try.ntmps34 rfl ?_
 repeat refine aD ?_
 (repeat refine aL ?_);refine kG 0 [0,1,2,3,4,5,6,7,8,9,10,11,12,13] [0,0,0,0,0,0,0,0,0,0,0,0,0,0] mixed (by kernel_rfl) ?_
 repeat refine aD ?_
 refine lL rfl rfl (⟨rfl,rfl,rfl⟩)
theorem oV {p:Option Addr} {n:Nat} {ms:List LK} {m c:Nat} (hn:n≤12) (hm:ms.length=m) (hm2:m < 40) (hg:Gd ms n) (hp:aN p (recs eK ms)∈I0):
  CD Try.prog 19 [gv n p m c] X w0 M0 I0 (fun v M I=>M0=M∧∃q c',v= .slice q (kt ms).length c'∧(kt ms).length≤c'∧I=aN q (recs (eI .i64) (kt ms))::I0):=by
 have hkl:=aHA hg
 refine eZ Try.func19 rfl Try.ntmps19 rfl ?_
 refine lU ?_
 refine rF rfl (fun b1=>?_)
 refine aF .here ?_
 repeat refine aD ?_
 (refine iW (m) rfl rfl (by omega) (by omega) (by omega) (by omega) (lT _ _) rfl rfl ?_;intro b3;refine cK ?_)
 repeat refine aD ?_
 refine aU [1,3,14] rfl (fun k G M I=>∃(i:Nat) (u:List Int),i≤m∧k=m - i∧u.length=m∧(∀j:Nat,j < i→gt u j=j)∧G=[(15, .int .i64 i)]∧M= .blk b3 (recs (eI .i64) u) 3::M0∧I=aN (some ⟨b1,0,none⟩) [.int .i64 n, .slice p m c]::I0) (m) _ _ _ aT bN bR (⟨0,_,by omega,rfl,List.length_replicate,fun j hj=>by omega,rfl,rfl,rfl⟩) ?_
 rintro kk G M I ⟨i,u,hi,rfl,hl,hu,rfl,rfl,rfl⟩
 by_cases hin:i < m
 ·repeat refine aD ?_
  refine aK (m - (i+1)) _ _ _ (by first|omega|(simp only [List.length_append,List.length_cons,List.length_nil];omega)) aT bN bR (⟨i+1,_,by omega,rfl,by rw [aY,hl],fun j hj=>?_,rfl,rfl,rfl⟩)
  rw [gM _ (by omega) (by omega)]
  split
  ·omega
  ·exact hu j (by omega)
 obtain rfl:i=m:=by omega
 have hrg:u=rg i:=mV (by rw [sU,hl]) (fun j hj=>by rw [hu j (by omega),aNF (by omega)])
 subst hrg
 clear hu hl hi
 have hS:=fun M0 I0 (h1:aN p (recs eK ms)∈I0) (h2:aN (some ⟨b1,0,none⟩) [.int .i64 n, .slice p i c]∈I0)=>aMT (X:=X) (w0:=w0) (M0:=M0) (I0:=I0) (g:=34) (fs:=#[]) (cs':=#[.pointer (some ⟨b1,0,none⟩)]) (key:=wt ms) (Pr:=fun k=>0≤k∧k < i) (b:=b3) (c:=i) (tl:=[]) (D:=rg i) (fun cs x y hx hy=>CD.mono (aFI (c:=c) hm (by omega) hg hx hy h1 h2) (fun v M I h=>⟨h.1,h.2.1,_,h.2.2,by omega⟩)) (fun x hx=>jI.1 hx) (by rw [sU];omega)
 simp only [List.append_nil,sU] at hS
 have hoe:jG (wt ms) (rg i)=sN ms:=by rw [sN,hm]
 rw [hoe] at hS
 have hol:=aNB ms
 rw [hm] at hol
 have hom:∀j:Nat,j < i→0≤gt (sN ms) j∧gt (sN ms) j < i:=fun j hj=>by
  have:=jI.1 ((pY ms _).1 (eO (ms:=sN ms) (i:=(j:Int)) ⟨by omega,by omega⟩))
  rwa [hm] at this
 repeat refine aD ?_
 (refine dS rfl (hS _ _ aG aG) ?_;rintro _ _ _ ⟨rfl,rfl,rfl⟩;refine cK ?_)
 repeat refine aD ?_
 (refine dS rfl (aDZ (n:=n) (by omega)) ?_;rintro _ _ _ ⟨rfl,b5,rfl,rfl⟩;refine cK ?_)
 refine aF (b:=b3) rP ?_
 generalize hO:sN ms=O at*
 repeat refine aD ?_
 refine pG 3 1 ?_
 refine qU [1,5,29,30] rfl (fun k G M I=>∃(j:Nat) (u:List Int) (a:Option Addr) (c':Nat) (xs:List Int),j≤i∧k=i - j∧xs=kr ms (O.take j)∧Rp n u (lo (es ms xs))∧G=[(6, .slice a xs.length c'),(31, .int .i64 j)]∧M= .blk b5 (recs (eI .i64) u) 3:: .row a xs.length c' (recs (eI .i64) xs) 3 1::M0∧I=aN (some ⟨b3,0,none⟩) (recs (eI .i64) O)::aN (some ⟨b1,0,none⟩) [.int .i64 n, .slice p i c]::I0) (i) (⟨0,rg n,none,0,[],by omega,rfl,rfl,Rp.new n,rfl,rfl,rfl⟩) ?_
 rintro kk G M I ⟨j,u,a,c',xs,hj,rfl,hxs,hu,rfl,rfl,rfl⟩
 have hxl:xs.length≤40:=by
  have h1:xs.Nodup:=by
   rw [hxs]
   refine oM ?_
   rw [←hO]
   exact (List.take_sublist _ _).nodup (nV ms)
  have h2:(es ms xs).length+aFS n (es ms xs)=n:=tZ (hg.nds (fun k hk=>by
   rw [hxs] at hk
   have:=jI.1 ((pY ms k).1 (by rw [hO];exact List.mem_of_mem_take (vS hk)))
   exact this)) (by rw [hxs];exact aCP ms _)
  rw [aJZ] at h2
  omega
 by_cases hji:j < i
 ·have hk:=aBF (ms:=ms) (i:=j) (by rw [hO];omega)
  rw [hO,←hxs] at hk
  obtain ⟨x,hx⟩:∃x,gt O (j:Int)=x:=⟨_,rfl⟩
  have hxr:=hom j hji
  rw [hx] at hk hxr
  unfold kst pr at hk
  dsimp only at hk
  have hA:=hg.a x hxr.1 (by omega)
  have hB:=hg.b x hxr.1 (by omega)
  have hjn:=fun M0 I0=>aAW (X:=X) (w0:=w0) (M0:=M0) (I0:=I0) (b:=b5) (c:=n) (by omega) hu hA hB
  have hat:=aNE (ms:=ms) (l:=xs) (k:=x)
  obtain ⟨y,hy⟩:∃y,(gt ms x).a=y:=⟨_,rfl⟩
  obtain ⟨z,hz⟩:∃z,(gt ms x).b=z:=⟨_,rfl⟩
  rw [hy,hz] at hjn hk hat
  by_cases he:lo (es ms xs) y=lo (es ms xs) z
  ·rw [if_pos he] at hk
   rw [bQ (fun h=>h he)] at hjn
   repeat refine aD ?_
   rw [hx]
   (repeat refine aL ?_);refine tyW (.row a xs.length c' (recs (eI .i64) xs) 3 1::M0) (aN (some ⟨b3,0,none⟩) (recs (eI .i64) O)::aN (some ⟨b1,0,none⟩) [.int .i64 n, .slice p i c]::I0) [0,1,2,3,4,5,6,7,8,9,10,11,12,13] [0,1,1,1,1,1,0,1,1,1,1,1,0,0] mixed ?_
   repeat refine aD ?_
   rw [hy]
   repeat refine aD ?_
   rw [hz]
   (refine dS rfl (hjn _ _) ?_;rintro _ _ _ ⟨rfl,rfl,u2,hu2,rfl⟩;refine cK ?_)
   rw [aEC he] at hu2
   repeat refine aD ?_
   refine mI (i - (j+1)) (⟨j+1,u2,a,c',xs,by omega,rfl,hk.symm,hu2,rfl,rfl,rfl⟩)
  ·rw [if_neg he] at hk
   rw [dX he] at hjn
   repeat refine aD ?_
   rw [hx]
   (repeat refine aL ?_);refine tyW (.row a xs.length c' (recs (eI .i64) xs) 3 1::M0) (aN (some ⟨b3,0,none⟩) (recs (eI .i64) O)::aN (some ⟨b1,0,none⟩) [.int .i64 n, .slice p i c]::I0) [0,1,2,3,4,5,6,7,8,9,10,11,12,13] [0,1,1,1,1,1,0,1,1,1,1,1,0,0] mixed ?_
   repeat refine aD ?_
   rw [hy]
   repeat refine aD ?_
   rw [hz]
   (refine dS rfl (hjn _ _) ?_;rintro _ _ _ ⟨rfl,rfl,u2,hu2,rfl⟩;refine cK ?_)
   rw [←hat] at hu2
   repeat refine aD ?_
   refine uU (cs:=recs (eI .i64) [x]) ([.int .i64 x]) rfl (fun b7=>?_)
   refine tyP (ys:=[x]) 2 rfl rfl rfl (fun a2 c2=>?_)
   repeat refine aD ?_
   refine mI (i - (j+1)) (⟨j+1,u2,a2,c2,xs++[x],by omega,rfl,hk.symm,hu2,rfl,rfl,rfl⟩)
 obtain rfl:j=i:=by omega
 rw [List.take_of_length_le (by omega)] at hxs
 have hn12:xs.length≤12:=by rw [hxs];omega
 rw [←hO] at hxs
 have hks:=aOL ms
 rw [←hxs] at hks
 have hkt:(kt ms).length=xs.length:=by rw [←hks,mR]
 repeat refine aD ?_
 refine RD_w (M':= .row a xs.length c' (recs (eI .i64) xs) 3 1::M0) (I':=I0) bN bR ?_
 refine qZ (fun w hw=>Mem.rowLe hw) (fun hcc=>?_)
 refine aEV (fun e1 e2 e3=>?_) (fun b tl e1 e2=>?_)
 ·subst e1
  refine qZ (fun w hw=>Mem.rowC hw) (fun hc0=>?_)
  have hxn:xs=[]:=List.eq_nil_of_length_eq_zero e2
  subst hxn
  subst hc0
  (refine dS rfl (aIZ) ?_;rintro _ _ _ ⟨rfl,rfl⟩;refine cK ?_)
  repeat refine aD ?_
  refine mE rP ?_
  refine bF (by first|exact .inl rfl|exact .inr rfl) rfl rfl _ _ bN bR (⟨rfl,none,0,by rw [hkt],by rw [hkt];exact Nat.le_refl _,by rw [←hks];rfl⟩)
 ·subst e1
  (refine dS rfl (aMR (D:=xs) rfl hn12) ?_;rintro _ _ _ ⟨rfl,rfl⟩;refine cK ?_)
  rw [hks]
  repeat refine aD ?_
  refine qN (b:=b) rP ?_
  refine aJD (cs:=recs (eI .i64) (kt ms)) (tl:=tl) aG ?_
  refine bF (by first|exact .inl rfl|exact .inr rfl) rfl rfl _ _ bN bR (⟨rfl,some ⟨b,0,none⟩,c',by rw [hkt],by omega,rfl⟩)
end
end Go.Proofs.Ytejbgkajdomgcaa
namespace Go.Proofs.Ytejbgkajdomgcaa
open Go Go.Fx
def OD (d:List Int) (k:List Bool) (v:Int):Option Int:=if 0≤v∧gt k v=true then some (gt d v) else none
def hasFix (ms:List LK) (S:Int→Prop):Prop:=∃F,Fix ms S F
structure Rx (ms:List LK) (n:Nat) (S:Int→Prop) (T:Nat) (d0:List Int) (k0:List Bool) (i:Nat) (d:List Int) (k:List Bool) (ch:Bool):Prop where
 ld:d.length=n
 lk:k.length=n
 snd:Snd ms S (T+i) (OD d k)
 dec:∀v x,OD d0 k0 v=some x→∃y,OD d k v=some y∧y≤x
 prog:∀j:Int,0≤j→j < i→∀x,OD d0 k0 (gt ms j).a=some x→∃y,OD d k (gt ms j).b=some y∧y≤x+wt ms j
 zero:∀v:Int,0≤v→v < n→gt k v=false→gt d v=0
 keep:ch=false→d=d0∧k=k0
 lw:ch=true→∃v:Int,0≤v∧v < n∧∃y,OD d k v=some y∧∀x,OD d0 k0 v=some x→y < x
structure Ro (ms:List LK) (n:Nat) (S:Int→Prop) (t:Nat) (d:List Int) (k:List Bool):Prop where
 ld:d.length=n
 lk:k.length=n
 snd:Snd ms S (t*ms.length) (OD d k)
 src:Src S (OD d k)
 zero:∀v:Int,0≤v→v < n→gt k v=false→gt d v=0
 good:∀F,Fix ms S F→min t n≤cnt n (gdF F (OD d k))
end Go.Proofs.Ytejbgkajdomgcaa
namespace Go.Proofs.Ytejbgkajdomgcaa
open Go Go.Fx
section
variable {X:List Nat} {w0:World} {M0:List Ent} {I0:List aO}
end
end Go.Proofs.Ytejbgkajdomgcaa
namespace Go.Proofs.Ytejbgkajdomgcaa
open Go Go.Fx
theorem aNP {α:Type} [Inhabited α] {n:Nat} {x:α} {v:Int} (h:0≤v∧v < n):gt (List.replicate n x) v=x:=by
 obtain ⟨y,rfl⟩:∃y:Nat,v=y:=⟨v.toNat,by omega⟩
 rw [aP (by rw [List.length_replicate];omega)]
 simp
theorem wC {ms:List LK} {n:Nat} (hn:n≤256) (hm2:ms.length≤1024) (hg:Gd ms n):qH n ms=0:=xC (by omega) (by omega) (fun j hj=>by
 have h1:=hg.a j (by omega) (by omega)
 have h2:=hg.b j (by omega) (by omega)
 have h3:=hg.w j (by omega) (by omega)
 unfold wt at h3
 unfold lok
 omega)
section
variable {X:List Nat} {w0:World} {M0:List Ent} {I0:List aO}
theorem aHL {p:Option Addr} {n:Nat} {ms:List LK} {m c:Nat} (hn:n≤12) (hm:ms.length=m) (hm2:m < 40) (hg:Gd ms n) (hp:aN p (recs eK ms)∈I0):
  CD Try.prog 8 [gv n p m c] X w0 M0 I0 (fun v M I=>M0=M∧∃q c',v= .tuple #[.slice q (kt ms).length c', .int .i64 0]∧(kt ms).length≤c'∧I=aN q (recs (eI .i64) (kt ms))::I0):=by
 have hC:=fun M0 I0 h=>sP (X:=X) (w0:=w0) (M0:=M0) (I0:=I0) (p:=p) (N:=n) (ms:=ms) (c:=c) hm (by omega) h
 rw [wC (by omega) (by omega) hg] at hC
 refine eZ Try.func8 rfl Try.ntmps8 rfl ?_
 refine lU ?_
 refine rF rfl (fun b1=>?_)
 refine aF .here ?_
 repeat refine aD ?_
 refine iM rfl (hC _ _ aG) ?_
 repeat refine aD ?_
 (refine dS rfl (oV hn hm hm2 hg aG) ?_;rintro _ _ _ ⟨rfl,q,c',rfl,hc,rfl⟩;refine cK ?_)
 repeat refine aD ?_
 refine tyS [2,3] rfl rfl (⟨rfl,q,c',rfl,hc,rfl⟩)
end
end Go.Proofs.Ytejbgkajdomgcaa
namespace Go.Proofs.Ytejbgkajdomgcaa
open Go Go.Fx
def exL:List LK:=[⟨0,1,2⟩,⟨1,2,1⟩,⟨2,0,2⟩,⟨2,3,5⟩]
def exM:List LK:=[⟨0,1,2⟩,⟨1,2,1⟩,⟨2,0, -4⟩,⟨2,3,5⟩]
instance (ms:List LK) (a b:Int):Decidable (kl ms a b):=by unfold kl;exact inferInstance
def exD:List Int:=[0,2,3,8]
end Go.Proofs.Ytejbgkajdomgcaa
namespace Go.Proofs.Ytejbgkajdomgcaa
open Go Go.Fx
section
variable {X:List Nat} {w0:World} {M0:List Ent} {I0:List aO}
end
end Go.Proofs.Ytejbgkajdomgcaa
namespace Go.Proofs.Ytejbgkajdomgcaa
open Go Go.Fx
section
variable {X:List Nat} {w0:World} {M0:List Ent} {I0:List aO}
end
end Go.Proofs.Ytejbgkajdomgcaa
namespace Go.Proofs.Ytejbgkajdomgcaa
open Go Go.Fx
structure Sel (ms:List LK) (P L:List Int):Prop where
 asc:L.Pairwise (· < ·)
 mem:∀k,k∈P∨k∈L↔k∈rg ms.length
 pw:P.Pairwise (kl ms)
 lt:∀x∈P,∀y∈L,kl ms x y
end Go.Proofs.Ytejbgkajdomgcaa
namespace Go.Proofs.Ytejbgkajdomgcaa
open Go Go.Fx
section
variable {X:List Nat} {w0:World} {M0:List Ent} {I0:List aO}
end
end Go.Proofs.Ytejbgkajdomgcaa
namespace Go.Proofs.Ytejbgkajdomgcaa
open Go Go.Fx
section
variable {X:List Nat} {w0:World} {M0:List Ent} {I0:List aO}
end
end Go.Proofs.Ytejbgkajdomgcaa
namespace Go.Proofs.Ytejbgkajdomgcaa
open Go Go.Fx
def rJ (ms:List LK) (ls:List Int):Int:=if fA ms ls≠0 then fA ms ls else if ¬spn ms ls then 6 else if nQ ms ls≠nQ ms (kt ms) then 12 else 0
section
variable {X:List Nat} {w0:World} {M0:List Ent} {I0:List aO}
theorem zS {p q:Option Addr} {n:Nat} {ms:List LK} {ls:List Int} {m c t ct:Nat} (hn:n≤12) (hm:ms.length=m) (hm2:m < 40) (hg:Gd ms n) (ht:ls.length=t) (ht2:t≤100000) (hp:aN p (recs eK ms)∈I0) (hq:aN q (recs (eI .i64) ls)∈I0):
  CD Try.prog 7 [gv n p m c, .slice q t ct] X w0 M0 I0 (fun v M I=>M0=M∧I0=I∧v= .int .i64 (rJ ms ls)):=by
 have hC:=fun M0 I0 h=>sP (X:=X) (w0:=w0) (M0:=M0) (I0:=I0) (p:=p) (N:=n) (ms:=ms) (c:=c) hm (by omega) h
 rw [wC (by omega) (by omega) hg] at hC
 by_cases hf:fA ms ls=0
 rotate_left
 ·have hF:=fun M0 I0 h1 h2=>aBB (X:=X) (w0:=w0) (M0:=M0) (I0:=I0) (p:=p) (q:=q) (n:=n) (c:=c) (ct:=ct) (by omega) hm (by omega) hg ht ht2 hf h1 h2
  have hcc:rJ ms ls=fA ms ls:=if_pos hf
  rw [hcc]
  generalize fA ms ls=e at*
  refine bO Try.func7 rfl Try.ntmps7 rfl ?_
  refine lU ?_
  refine rF rfl (fun b2=>?_)
  refine aF .here ?_
  repeat refine aD ?_
  refine iM rfl (hC _ _ aG) ?_
  repeat refine aD ?_
  (refine dS rfl (hF _ _ aG aG) ?_;rintro _ _ _ ⟨rfl,rfl,rfl⟩;refine cK ?_)
  repeat refine aD ?_
  refine lL rfl rfl (⟨rfl,rfl,rfl⟩)
 have hri:=(wB hf).1
 rw [hm] at hri
 have hF:=fun M0 I0 h1 h2=>vF (X:=X) (w0:=w0) (M0:=M0) (I0:=I0) (p:=p) (q:=q) (n:=n) (c:=c) (ct:=ct) (by omega) hm (by omega) hg ht ht2 hf h1 h2
 by_cases hs:spn ms ls
 rotate_left
 ·have hcc:rJ ms ls=6:=by unfold rJ;rw [if_neg (fun h=>h hf),if_pos hs]
  rw [hcc]
  refine bO Try.func7 rfl Try.ntmps7 rfl ?_
  refine lU ?_
  refine rF rfl (fun b2=>?_)
  refine aF .here ?_
  repeat refine aD ?_
  refine iM rfl (hC _ _ aG) ?_
  repeat refine aD ?_
  (refine dS rfl (hF _ _ aG aG) ?_;rintro _ _ _ ⟨rfl,b,u,rfl,hu,rfl⟩;refine cK ?_)
  repeat refine aD ?_
  (refine dS rfl (rW (by omega) hm (by omega) hg hu aG) ?_;rintro _ _ _ ⟨rfl,rfl,u2,hu2,rfl⟩;refine cK ?_)
  rw [bQ (p:=∀l∈ms,lo (es ms ls) l.a=lo (es ms ls) l.b) hs]
  repeat refine aD ?_
  refine lL rfl rfl (⟨rfl,rfl,rfl⟩)
 have hW:=fun M0 I0 h1 h2=>vT (X:=X) (w0:=w0) (M0:=M0) (I0:=I0) (p:=p) (q:=q) (n:=n) (c:=c) (ct:=ct) hm (by omega) hg ht ht2 hri h1 h2
 have hkr:=aCT ms
 rw [hm] at hkr
 have hkl:(kt ms).length≤100000:=by
  have:=(aDR ms).length_eq
  have:=aHA hg
  omega
 have hW2:=fun q c2 M0 I0 h1 h2=>vT (X:=X) (w0:=w0) (M0:=M0) (I0:=I0) (p:=p) (q:=q) (n:=n) (c:=c) (ls:=kt ms) (t:=(kt ms).length) (ct:=c2) hm (by omega) hg rfl hkl hkr h1 h2
 have hcc:rJ ms ls=if nQ ms ls≠nQ ms (kt ms) then 12 else 0:=by unfold rJ;rw [if_neg (fun h=>h hf),if_neg (fun h=>h hs)]
 rw [hcc]
 by_cases hw:nQ ms ls=nQ ms (kt ms)
 ·rw [if_neg (fun h=>h hw)]
  rw [←hw] at hW2
  generalize nQ ms ls=a at*
  refine bO Try.func7 rfl Try.ntmps7 rfl ?_
  refine lU ?_
  refine rF rfl (fun b2=>?_)
  refine aF .here ?_
  repeat refine aD ?_
  refine iM rfl (hC _ _ aG) ?_
  repeat refine aD ?_
  (refine dS rfl (hF _ _ aG aG) ?_;rintro _ _ _ ⟨rfl,b,u,rfl,hu,rfl⟩;refine cK ?_)
  repeat refine aD ?_
  (refine dS rfl (rW (by omega) hm (by omega) hg hu aG) ?_;rintro _ _ _ ⟨rfl,rfl,u2,hu2,rfl⟩;refine cK ?_)
  rw [dX (p:=∀l∈ms,lo (es ms ls) l.a=lo (es ms ls) l.b) hs]
  repeat refine aD ?_
  (repeat refine aL ?_);refine tyW (M0) (aN (some ⟨b2,0,none⟩) [.int .i64 n, .slice p m c]::I0) [0,1,3,4,2,5,6,7] [2,2,2,2,0,0,0,0] mixed ?_
  repeat refine aD ?_
  refine iM rfl (hW _ _ aG aG) ?_
  (refine dS rfl (oV hn hm hm2 hg aG) ?_;rintro _ _ _ ⟨rfl,q3,c3,rfl,hc3,rfl⟩;refine cK ?_)
  refine iM rfl (hW2 _ _ _ _ aG aG) ?_
  repeat refine aD ?_
  refine lL rfl rfl (⟨rfl,rfl,rfl⟩)
 ·rw [if_pos hw]
  generalize nQ ms ls=a at*
  generalize nQ ms (kt ms)=d at*
  refine bO Try.func7 rfl Try.ntmps7 rfl ?_
  refine lU ?_
  refine rF rfl (fun b2=>?_)
  refine aF .here ?_
  repeat refine aD ?_
  refine iM rfl (hC _ _ aG) ?_
  repeat refine aD ?_
  (refine dS rfl (hF _ _ aG aG) ?_;rintro _ _ _ ⟨rfl,b,u,rfl,hu,rfl⟩;refine cK ?_)
  repeat refine aD ?_
  (refine dS rfl (rW (by omega) hm (by omega) hg hu aG) ?_;rintro _ _ _ ⟨rfl,rfl,u2,hu2,rfl⟩;refine cK ?_)
  rw [dX (p:=∀l∈ms,lo (es ms ls) l.a=lo (es ms ls) l.b) hs]
  repeat refine aD ?_
  (repeat refine aL ?_);refine tyW (M0) (aN (some ⟨b2,0,none⟩) [.int .i64 n, .slice p m c]::I0) [0,1,3,4,2,5,6,7] [2,2,2,2,0,0,0,0] mixed ?_
  repeat refine aD ?_
  refine iM rfl (hW _ _ aG aG) ?_
  (refine dS rfl (oV hn hm hm2 hg aG) ?_;rintro _ _ _ ⟨rfl,q3,c3,rfl,hc3,rfl⟩;refine cK ?_)
  refine iM rfl (hW2 _ _ _ _ aG aG) ?_
  repeat refine aD ?_
  refine lL rfl rfl (⟨rfl,rfl,rfl⟩)
end
end Go.Proofs.Ytejbgkajdomgcaa
namespace Go.Proofs.Ytejbgkajdomgcaa
open Go Go.Fx
structure Jx (ms:List LK) (n:Nat) (d k:List Int × List Bool) (i:Nat):Prop where
 ld:k.1.length=n
 lk:k.2.length=n
 eq:OD k.1 k.2=jr ms (OD d.1 d.2) i
 zero:∀v:Int,0≤v→v < n→gt k.2 v=false→gt k.1 v=0
structure Jo (ms:List LK) (n:Nat) (D0:Int→Option Int) (t:Nat) (d:List Int × List Bool):Prop where
 ld:d.1.length=n
 lk:d.2.length=n
 eq:OD d.1 d.2=DK ms D0 t
 zero:∀v:Int,0≤v→v < n→gt d.2 v=false→gt d.1 v=0
end Go.Proofs.Ytejbgkajdomgcaa
namespace Go.Proofs.Ytejbgkajdomgcaa
open Go Go.Fx
section
variable {X:List Nat} {w0:World} {M0:List Ent} {I0:List aO}
end
end Go.Proofs.Ytejbgkajdomgcaa
namespace Go.Proofs.Ytejbgkajdomgcaa
open Go Go.Fx
section
variable {X:List Nat} {w0:World} {M0:List Ent} {I0:List aO}
end
end Go.Proofs.Ytejbgkajdomgcaa
namespace Go.Proofs.Ytejbgkajdomgcaa
open Go Go.Fx
section
variable {X:List Nat} {w0:World} {M0:List Ent} {I0:List aO}
end
end Go.Proofs.Ytejbgkajdomgcaa
namespace Go.Proofs.Ytejbgkajdomgcaa
open Go Go.Fx
def okP (n:Nat) (ms:List LK) (l:List Int):Prop:=l.length=n∧(∀j:Nat,j < n→ -274877906944≤gt l j∧gt l j≤274877906944)∧Pot ms (gt l)
def bdP (n:Nat) (l:List Int):Prop:=∀j:Nat,j < n→ -274877906944≤gt l j∧gt l j≤274877906944
def PC (n:Nat) (ms:List LK) (l:List Int) (e:Int):Prop:=(l.length≠n∧e=4)∨(l.length=n∧¬bdP n l∧e=2)∨(l.length=n∧bdP n l∧¬Pot ms (gt l)∧e=12)∨(okP n ms l∧e=0)
section
variable {X:List Nat} {w0:World} {M0:List Ent} {I0:List aO}
end
section
variable {X:List Nat} {w0:World} {M0:List Ent} {I0:List aO}
end
end Go.Proofs.Ytejbgkajdomgcaa
namespace Go.Proofs.Ytejbgkajdomgcaa
open Go Go.Fx
section
variable {X:List Nat} {w0:World} {M0:List Ent} {I0:List aO}
end
end Go.Proofs.Ytejbgkajdomgcaa
namespace Go.Proofs.Ytejbgkajdomgcaa
open Go Go.Fx
def chn (ms:List LK) (l:List Int):Prop:=∀i:Nat,i < l.length→(gt ms (gt l i)).b=(gt ms (gt l (((i:Int)+1).tmod l.length))).a
def CC (ms:List LK) (l:List Int) (e:Int):Prop:=(¬uH ms.length l∧e=2)∨(uH ms.length l∧¬chn ms l∧e=12)∨(uH ms.length l∧chn ms l∧0≤nQ ms l∧e=12)∨(uH ms.length l∧chn ms l∧nQ ms l < 0∧e=0)
theorem aNS {m:Nat} {l:List Int} (h:uH m l) {j:Nat} (hj:j < l.length):0≤gt l j∧gt l j < m:=by
 rw [aP hj];exact h _ (List.getElem_mem hj)
section
variable {X:List Nat} {w0:World} {M0:List Ent} {I0:List aO}
end
end Go.Proofs.Ytejbgkajdomgcaa
namespace Go.Proofs.Ytejbgkajdomgcaa
open Go Go.Fx
section
variable {X:List Nat} {w0:World} {M0:List Ent} {I0:List aO}
end
end Go.Proofs.Ytejbgkajdomgcaa
namespace Go.Proofs.Ytejbgkajdomgcaa
open Go Go.Fx
def sk (s:Int):Int:=(if s < 0 then -s else s) - 1
def sa (ms:List LK) (s:Int):Int:=if 0 < s then (gt ms (sk s)).a else (gt ms (sk s)).b
def sb (ms:List LK) (s:Int):Int:=if 0 < s then (gt ms (sk s)).b else (gt ms (sk s)).a
inductive Trl (ms:List LK):List Int→Int→Int→Prop
 |nil (u:Int):Trl ms [] u u
 |cons {s v:Int} {l:List Int}:s≠0→Trl ms l (sb ms s) v→Trl ms (s::l) (sa ms s) v
theorem Trl.inv {ms:List LK} {s u v:Int} {l:List Int} (h:Trl ms (s::l) u v):s≠0∧u=sa ms s∧Trl ms l (sb ms s) v:=by
 cases h with
 |cons h1 h2=>exact ⟨h1,rfl,h2⟩
theorem Trl.nil_inv {ms:List LK} {u v:Int} (h:Trl ms [] u v):u=v:=by cases h;rfl
theorem Trl.app {ms:List LK} {l1 l2:List Int} {u v:Int}:Trl ms (l1++l2) u v↔∃w,Trl ms l1 u w∧Trl ms l2 w v:=by
 induction l1 generalizing u with
 |nil=>exact ⟨fun h=>⟨u, .nil u,h⟩,fun ⟨w,h1,h2⟩=>by rw [h1.nil_inv];exact h2⟩
 |cons s l ih=>
  constructor
  ·intro h
   obtain ⟨h1,rfl,h2⟩:=h.inv
   obtain ⟨w,h3,h4⟩:=ih.1 h2
   exact ⟨w, .cons h1 h3,h4⟩
  ·rintro ⟨w,h3,h4⟩
   obtain ⟨h1,rfl,h2⟩:=h3.inv
   exact .cons h1 (ih.2 ⟨w,h2,h4⟩)
theorem aHX {ms:List LK} {T:List Int} {s:Int} (h:sk s∈T):Con (es ms T) (sa ms s) (sb ms s):=by
 have h1:Con (es ms T) (gt ms (sk s)).a (gt ms (sk s)).b:= .link (List.mem_map_of_mem (f:=pr ms) h)
 unfold sa sb
 split
 ·exact h1
 ·exact h1.symm
theorem Trl.con {ms:List LK} {T l:List Int} {u v:Int} (h:Trl ms l u v) (hT:∀s∈l,sk s∈T):Con (es ms T) u v:=by
 induction h with
 |nil u=>exact .refl u
 | @cons s v l h1 h2 ih=>exact (aHX (hT s (by simp))).trans (ih (fun x hx=>hT x (by simp [hx])))
structure Trail (ms:List LK) (T:List Int) (l:List Int) (u v:Int):Prop where
 trl:Trl ms l u v
 mem:∀s∈l,sk s∈T
 nod:(l.map sk).Nodup
theorem Trail.split {ms:List LK} {T l:List Int} {k u v:Int} (h:Trail ms (T++[k]) l u v):Trail ms T l u v∨∃x s y,l=x++s::y∧sk s=k∧s≠0∧Trail ms T x u (sa ms s)∧Trail ms T y (sb ms s) v:=by
 by_cases hk:∃s∈l,sk s=k
 ·obtain ⟨s,hs,e⟩:=hk
  obtain ⟨x,y,rfl⟩:=List.append_of_mem hs
  obtain ⟨w,h1,h2⟩:=Trl.app.1 h.trl
  obtain ⟨h3,rfl,h4⟩:=h2.inv
  have hn:=h.nod
  rw [List.map_append,List.map_cons,List.nodup_append] at hn
  obtain ⟨n1,n2,n3⟩:=hn
  rw [List.nodup_cons] at n2
  refine .inr ⟨x,s,y,rfl,e,h3,⟨h1,fun z hz=>?_,n1⟩,⟨h4,fun z hz=>?_,n2.2⟩⟩
  ·have h5:=h.mem z (by simp [hz])
   rcases List.mem_append.1 h5 with h6|h6
   ·exact h6
   ·exact absurd ((List.mem_singleton.1 h6).trans e.symm) (n3 _ (List.mem_map_of_mem hz) _ (by simp))
  ·have h5:=h.mem z (by simp [hz])
   rcases List.mem_append.1 h5 with h6|h6
   ·exact h6
   ·have h7:sk z=sk s:=(List.mem_singleton.1 h6).trans e.symm
    exact absurd (by rw [←h7];exact List.mem_map_of_mem hz) n2.1
 ·refine .inl ⟨h.trl,fun s hs=>?_,h.nod⟩
  rcases List.mem_append.1 (h.mem s hs) with h6|h6
  ·exact h6
  ·exact absurd ⟨s,hs,List.mem_singleton.1 h6⟩ hk
theorem Trail.con {ms:List LK} {T l:List Int} {u v:Int} (h:Trail ms T l u v):Con (es ms T) u v:=h.trl.con h.mem
theorem aBX {s t:Int} (h:sk s=sk t) (hs:s≠0) (ht:t≠0):s=t∨s= -t:=by
 unfold sk at h
 split at h <;>split at h <;>omega
theorem wH {ms:List LK} {s:Int} (h:s≠0):sa ms (-s)=sb ms s:=by
 have h1:sk (-s)=sk s:=by unfold sk;split <;>split <;>omega
 unfold sa sb
 rw [h1]
 split <;>split <;>first|rfl|omega
theorem aDM {ms:List LK} {T:List Int} {s:Int} (h:¬Con (es ms T) (gt ms (sk s)).a (gt ms (sk s)).b):¬Con (es ms T) (sa ms s) (sb ms s):=fun h2=>by
 unfold sa sb at h2
 split at h2
 ·exact h h2
 ·exact h h2.symm
theorem Trail.uniq {ms:List LK} {T:List Int} (hf:Fst [] (es ms T)) {l l':List Int} {u v:Int} (h:Trail ms T l u v) (h':Trail ms T l' u v):l=l':=by
 obtain ⟨r,rfl⟩:∃r,T=r.reverse:=⟨T.reverse,(List.reverse_reverse T).symm⟩
 induction r generalizing l l' u v with
 |nil=>
  have e:∀l:List Int,(∀s∈l,sk s∈([]:List Int).reverse)→l=[]:=fun l hl=>by
   cases l with
   |nil=>rfl
   |cons s l=>exact absurd (hl s (by simp)) (by simp)
  rw [e l h.mem,e l' h'.mem]
 |cons k r ih=>
  rw [List.reverse_cons] at hf h h'
  have hes:es ms (r.reverse++[k])=es ms r.reverse++[pr ms k]:=by simp [es]
  rw [hes] at hf
  obtain ⟨f1,f2⟩:=Fst.snoc.1 hf
  rw [List.nil_append] at f2
  rcases h.split with h1|⟨x,s,y,rfl,e1,s0,hx,hy⟩
  ·rcases h'.split with h2|⟨x',s',y',rfl,e2,s0',hx',hy'⟩
   ·exact ih f1 h1 h2
   ·refine absurd ?_ (aDM (s:=s') (by rw [e2];exact f2))
    exact hx'.con.symm.trans (h1.con.trans hy'.con.symm)
  ·have f3:=aDM (s:=s) (by rw [e1];exact f2)
   rcases h'.split with h2|⟨x',s',y',rfl,e2,s0',hx',hy'⟩
   ·exact absurd (hx.con.symm.trans (h2.con.trans hy.con.symm)) f3
   ·rcases aBX (e2.trans e1.symm) s0' s0 with rfl|rfl
    ·rw [ih f1 hx hx',ih f1 hy hy']
    ·rw [wH s0] at hx'
     exact absurd (hx.con.symm.trans hx'.con) f3
end Go.Proofs.Ytejbgkajdomgcaa
namespace Go.Proofs.Ytejbgkajdomgcaa
open Go Go.Fx
theorem fwd {ms:List LK} {z:Int} (h:0≤z):z+1≠0∧sk (z+1)=z∧sa ms (z+1)=(gt ms z).a∧sb ms (z+1)=(gt ms z).b:=by
 have h1:sk (z+1)=z:=by unfold sk;rw [if_neg (by omega)];omega
 refine ⟨by omega,h1,?_,?_⟩
 ·unfold sa;rw [if_pos (by omega),h1]
 ·unfold sb;rw [if_pos (by omega),h1]
theorem bwd {ms:List LK} {z:Int} (h:0≤z): -z - 1≠0∧sk (-z - 1)=z∧sa ms (-z - 1)=(gt ms z).b∧sb ms (-z - 1)=(gt ms z).a:=by
 have h1:sk (-z - 1)=z:=by unfold sk;rw [if_pos (by omega)];omega
 refine ⟨by omega,h1,?_,?_⟩
 ·unfold sa;rw [if_neg (by omega),h1]
 ·unfold sb;rw [if_neg (by omega),h1]
theorem Trail.same_end {ms:List LK} {T:List Int} {u:Int}:Trail ms T [] u u:=⟨.nil u,fun _ h=>absurd h (by simp),List.nodup_nil⟩
structure Stp (ms:List LK) (T:List Int) (u v:Int) (l:List Int) (f:Bool):Prop where
 yes:f=true→Trail ms T l u v
 no:f=false→l=[]∧∀l',¬Trail ms T l' u v
theorem Stp.of {ms:List LK} {T l:List Int} {u v:Int} (h:Trail ms T l u v):Stp ms T u v l true:=⟨fun _=>h,fun h=>absurd h (by decide)⟩
end Go.Proofs.Ytejbgkajdomgcaa
namespace Go.Proofs.Ytejbgkajdomgcaa
open Go Go.Fx
section
variable {X:List Nat} {w0:World}
end
end Go.Proofs.Ytejbgkajdomgcaa
namespace Go.Proofs.Ytejbgkajdomgcaa
open Go Go.Fx
theorem sS {P:Program} {w:World} (t ty e:TypeId) (i:TypeInfo) (ht:P.underlying t=some (.slice e)) (hi:P.info? e=some i)
  (g off sLen sCap:Nat) (cur:Array Value) (hg:w.heap[g]?=some (.cells cur e (0,0)))
  (a:Addr) (m c:Nat) (news:List Value) (hl:news.length=m*i.size) (hnews:∀j u,news[j]?=some u→w.cell? (a.add j)=some u) (h1:∀u∈news,u.oneCell'=true)
  (hroom:sLen+m≤sCap) (hfit:off+sLen*i.size+news.length≤cur.size):
  (Builtin.append_ #[t,t] ty #[.slice (some ⟨g,off,none⟩) sLen sCap, .slice (some a) m c]).run P w=
   .ok (.slice (some ⟨g,off,none⟩) (sLen+m) sCap) (w.setRow g (cur.toList.take (off+sLen*i.size)++news++cur.toList.drop (off+sLen*i.size+news.length)).toArray):=by
 have hf:=run_firstCells_some (P:=P) w i.size m a m c news hl hnews
 have hst:=run_storeCells_at P g (off+sLen*i.size) e news 0 cur w hg (by simpa using hfit) h1
 simp only [Nat.add_zero] at hst
 simp [Builtin.append_,run_underlying ht,sizeOf,typeInfo,hi,Builtin.lenOf,hroom,hf,Addr.add_lit,hst]
section
variable {P:Program} {n:Nat} {G:Env} {ty:TypeId} {w:World}
theorem aIC {s x:Operand} {t e:TypeId} {sz' by_:Nat} {z:List Value} {b off len c b':Nat} {cs:List Value} {u:Value} [ht:SliceTy P t e sz'] [hz:ElemTy P e 1 by_ z]
  (hs:ev G s=some (.slice (some ⟨b,off,none⟩) len c)) (hx:ev G x=some (.slice (some ⟨b',0,none⟩) 1 1)) (hB:Blk w b cs e) (hB':Blk w b' [u] e) (h1:u.oneCell'=true) (hle:off+c≤cs.length) (hlc:len≤c) (hb:(len+1)*by_≤140737488355328) (h63:len+1≤9223372036854775807):
  Eff P n G (.call {callee:= .builtin .append,args:=#[s,x],argTypes:=#[t,t]}) ty w
   (fun v' w'=>∃(b2 off2 c2:Nat) (cs2:List Value),v'= .slice (some ⟨b2,off2,none⟩) (len+1) c2∧off2+c2≤cs2.length∧len+1≤c2∧(cs2.drop off2).take (len+1)=(cs.drop off).take len++[u]∧Blk w' b2 cs2 e∧Ext [b] w w'∧(b2=b∨w.heap.size≤b2)):=by
 refine ⟨?_⟩
 intro a ha dst pos after guard
 obtain ⟨i,vz,hi,hs2,hby,hzv,hcl⟩:=pO hz
 have hnews:∀j v,[u][j]?=some v→w.cell? ((⟨b',0,none⟩:Addr).add j)=some v:=fun j v hj=>by
  rw [Addr.add_lit]
  simpa using hB'.cell (o:=j) hj
 have ho1:∀v∈[u],v.oneCell'=true:=by simpa using h1
 by_cases hroom:len+1≤c
 ·have hr:=sS (P:=P) (w:=w) t ty e i ht.und hi b off len c cs.toArray hB ⟨b',0,none⟩ 1 1 [u] (by rw [hs2];rfl) hnews ho1 hroom (by rw [hs2];simp;omega)
  rw [hs2] at hr
  refine jB (v:= .slice (some ⟨b,off,none⟩) (len+1) c) (w':=w.setRow b (cs.take (off+len*1)++[u]++cs.drop (off+len*1+1)).toArray) ?_ ⟨_,⟨b,off,c,cs.take (off+len*1)++[u]++cs.drop (off+len*1+1),rfl,?_,hroom,?_,?_,Ext.setRow (by simp) _, .inl rfl⟩,rfl⟩
  ·simp at hr
   simp [execOp,resolve,invoke,builtin,ha.ev hs,ha.ev hx,hr]
  ·simp;omega
  ·rw [Nat.mul_one]
   apply List.ext_getElem?
   intro j
   rw [List.getElem?_take,List.getElem?_drop]
   by_cases hj:j < len+1
   ·rw [if_pos hj]
    by_cases hj2:j < len
    ·rw [List.append_assoc,List.getElem?_append_left (by rw [List.length_take];omega),List.getElem?_append_left (by rw [List.length_take,List.length_drop];omega),List.getElem?_take,List.getElem?_take,List.getElem?_drop,if_pos (by omega),if_pos hj2]
    ·have e1:j=len:=by omega
     subst e1
     have hL:(cs.take (off+j)++[u]++cs.drop (off+j+1))[off+j]?=some u:=by
      rw [List.append_assoc,List.getElem?_append_right (by rw [List.length_take];omega)]
      simp [List.length_take,show min (off+j) cs.length=off+j by omega]
     have hR:((cs.drop off).take j++[u])[j]?=some u:=by
      rw [List.getElem?_append_right (by rw [List.length_take,List.length_drop];omega)]
      simp [List.length_take,List.length_drop,show min j (cs.length - off)=j by omega]
     rw [hL,hR]
   ·rw [if_neg hj,List.getElem?_eq_none (by simp [List.length_take,List.length_drop];omega)]
  ·exact setRow_heap w b _ _ _ _ hB
 ·have e0:c=len:=by omega
  subst e0
  have hlo:((cs.drop off).take c).length=c:=by rw [List.length_take,List.length_drop];omega
  have holds:∀j v,((cs.drop off).take c)[j]?=some v→w.cell? ((⟨b,off,none⟩:Addr).add j)=some v:=fun j v hj=>by
   rw [Addr.add_lit]
   refine hB.cell ?_
   rw [List.getElem?_take] at hj
   split at hj
   ·rwa [List.getElem?_drop] at hj
   ·simp at hj
  have hr:=run_append_grow (P:=P) w t ty e i vz ht.und hi hzv ⟨b,off,none⟩ c c ((cs.drop off).take c) (by rw [hs2,hlo,Nat.mul_one]) holds ⟨b',0,none⟩ 1 1 [u] (by rw [hs2];rfl) hnews (by omega) (by omega) (growslice_fits (by omega) (by rw [hby];exact hb))
  have hge:=grownCap_ge w (c+1) c e
  have hzz:vz.cells.size=1:=by simp [hcl,hz.len]
  refine jB (v:= .slice (some ⟨w.heap.size,0,none⟩) (c+1) (grownCap w (c+1) c e)) (w':=w.drew.alloc (.cells (((cs.drop off).take c).toArray++[u].toArray++Builtin.zeroCells vz.cells (grownCap w (c+1) c e - (c+1))) e)) ?_ ⟨_,⟨w.heap.size,0,grownCap w (c+1) c e,(((cs.drop off).take c).toArray++[u].toArray++Builtin.zeroCells vz.cells (grownCap w (c+1) c e - (c+1))).toList,rfl,?_,hge,?_,?_,⟨rfl,rfl,rfl,by simp,fun k hk _=>heap_alloc_old w.drew _ hk⟩, .inr (Nat.le_refl _)⟩,rfl⟩
  ·simp [execOp,resolve,invoke,builtin,ha.ev hs,ha.ev hx,hr]
  ·rw [Array.length_toList,Array.size_append,Array.size_append,size_zeroCells,hzz]
   simp only [List.size_toArray,hlo,List.length_cons,List.length_nil]
   omega
  ·rw [List.drop_zero,Array.toList_append,Array.toList_append]
   exact List.take_left' (by simp [hlo])
  ·unfold Blk
   rw [Array.toArray_toList]
   exact heap_alloc_new w.drew _
end
section
variable {P:Program} {n:Nat} {Q:Exit→Act→World→Prop} {G:Env} {X:List Nat} {w0:World} {M:List Ent} {I:List aO}
theorem aEN {ops l:List Oper} {m:Fx.Mode} {ty:TypeId} {pos:String} {af:Array Edge} {g:Option (Nat × Bool)} {d:Nat} {s x:Operand} {t e:TypeId} {sz' by_:Nat} {z:List Value} {b off len c b':Nat} {cs:List Value} {u:Value} [SliceTy P t e sz'] [ElemTy P e 1 by_ z]
  (kk:Nat) (hs:ev G s=some (.slice (some ⟨b,off,none⟩) len c)) (hx:ev G x=some (.slice (some ⟨b',0,none⟩) 1 1)) (hm:M[kk]?=some (.blk b cs e)) (hm': .blk b' [u] e∈M) (h1:u.oneCell'=true) (hle:off+c≤cs.length) (hlc:len≤c) (hb:(len+1)*by_≤140737488355328) (h63:len+1≤9223372036854775807) (hg:iY ops G g=some true) (hd:Nat.ble (d+1) n=true)
  (k:∀(b2 off2 c2:Nat) (cs2:List Value),off2+c2≤cs2.length→len+1≤c2→(cs2.drop off2).take (len+1)=(cs.drop off).take len++[u]→OkD m X w0 (M.set kk (.blk b2 cs2 e)) I∧RD P n ops Q m.nextE l ((d, .slice (some ⟨b2,off2,none⟩) (len+1) c2)::G) X w0 (M.set kk (.blk b2 cs2 e)) I):
  RD P n ops Q m (⟨some d, .call {callee:= .builtin .append,args:=#[s,x],argTypes:=#[t,t]},ty,pos,af,g⟩::l) G X w0 M I:=
 oZ (d:=some d) (K:=fun v' M2 I2=>∃(b2 off2 c2:Nat) (cs2:List Value),v'= .slice (some ⟨b2,off2,none⟩) (len+1) c2∧off2+c2≤cs2.length∧len+1≤c2∧(cs2.drop off2).take (len+1)=(cs.drop off).take len++[u]∧M2=M.set kk (.blk b2 cs2 e)∧I2=I) hg
  (fun w hw=>by
   refine (aIC hs hx (hw.blk (List.mem_of_getElem? hm)) (hw.blk hm') h1 hle hlc hb h63).mono ?_
   rintro v' w' ⟨b2,off2,c2,cs2,rfl,g1,g2,g3,hB,hE,hbb⟩
   have hrep:Rep (.blk b cs e) (.blk b2 cs2 e) M (M.set kk (.blk b2 cs2 e)):=Rep.at hm
   refine ⟨M.set kk (.blk b2 cs2 e),I,⟨b2,off2,c2,cs2,rfl,g1,g2,g3,rfl,rfl⟩,hw.upd hrep hE ?_ (by simp [Ent.blocks]) hB⟩
   intro y hy
   simp [Ent.blocks] at hy
   subst hy
   rcases hbb with h|h
   ·exact .inl (by simp [Ent.blocks,h])
   ·exact .inr h) rfl hd
  (fun _ _ _ ⟨b2,off2,c2,cs2,hp,g1,g2,g3,hM,hI⟩=>by subst hp;subst hM;subst hI;exact k b2 off2 c2 cs2 g1 g2 g3)
end
end Go.Proofs.Ytejbgkajdomgcaa
