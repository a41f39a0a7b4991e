/- Forest: the stable sort of numbers. -/
import Derived.Test.YtejbgkajdomgcaaZvam
import Derived.Test.YtejbgkajdomgcaaZval
import Derived.Test.YtejbgkajdomgcaaZvak
set_option linter.unusedSimpArgs false
set_option linter.unusedVariables false
set_option maxRecDepth 100000
set_option maxHeartbeats 4000000
namespace Go.Proofs.Ytejbgkajdomgcaa
open Go Go.Fx
/- ---------- the stable sort of []int ---------- -/
section
variable {X:List Nat} {w0:World} {M0:List Ent} {I0:List aO}
def CmpI (g:FuncId) (fs cs':Array Value) (key:Int→Int) (Pr:Int→Prop) (X:List Nat) (w0:World) (b:Nat) (e:TypeId) (M0:List Ent) (I0:List aO):Prop:=
 ∀(cs:List Value) (x y:Int),Pr x→Pr y→CD Try.prog g (fs.toList++[(Value.int .i64) x,(Value.int .i64) y]++cs'.toList) X w0 (.blk b cs e::M0) I0 (fun v M I=> .blk b cs e::M0=M∧I0=I∧∃r:Int,v= .int .i64 r∧(r < 0↔key x < key y))
theorem yK {g:FuncId} [FnOk Try.prog g] {fs cs':Array Value} {key:Int→Int} {Pr:Int→Prop} {b n c:Nat} {tl:List Value} (hcmp:CmpI g fs cs' key Pr X w0 b 3 M0 I0) {P B S:List Int} {a z:Int} (hn:n=(P++B++S).length) (hPr:∀x∈B,Pr x)
  (ha:a=P.length) (hz:z=P.length+B.length) (hbd:(n:Int)≤1000000):
  CD Try.prog 53 [.slice (some ⟨b,0,none⟩) n c, .int .i64 a, .int .i64 z, .func (.func g) fs cs'] X w0 (.blk b (recs (eI .i64) (P++B++S)++tl) 3::M0) I0
   (fun _ M I=> .blk b (recs (eI .i64) (P++jG key B++S)++tl) 3::M0=M∧I0=I):=by
 have hlen:(P++B++S).length=P.length+B.length+S.length:=by simp [Nat.add_assoc]
 refine aX Try.func53 rfl Try.ntmps53 rfl ?_
 repeat (refine gH ?_)
 refine aU [0,1,2,3] rfl (fun k G M I=>∃(q:Nat) (i:Int) (D:List Int),i=a+1+q∧k=B.length - q∧(i≤z∨q=0)∧D=P++(jG key (B.take (q+1))++(B.drop (q+1)++S))∧G=[(8, .int .i64 i)]∧M= .blk b (recs (eI .i64) D++tl) 3::M0∧I0=I) (B.length) _ _ _ aT aJ aI (⟨0,a+1,_,by omega,by omega, .inr rfl,?_,rfl,rfl,rfl⟩) ?_
 ·cases B with
  |nil=>simp [qY]
  |cons x r=>simp [jG,kC]
 rintro k G M I ⟨q,i,D,hi,rfl,hq,hD,rfl,rfl,rfl⟩
 have hDl:D.length=n:=by
  rw [hD,hn];simp [mR];omega
 repeat' (first|refine gH ?_|refine bG rfl (fun h=>?_) (fun h=>?_)|refine bI rfl rfl (fun h=>?_) (fun h=>?_)|fail)
 ·have hqB:q+1 < B.length:=by omega
  have hx:B.drop (q+1)=B[q+1]::B.drop (q+2):=List.drop_eq_getElem_cons hqB
  have hxB:B[q+1]∈B:=List.getElem_mem hqB
  have htk:B.take (q+2)=B.take (q+1)++[B[q+1]]:=List.take_succ_eq_append_getElem hqB
  generalize B[q+1]=x at hx hxB htk
  have hsl:=mR key (B.take (q+1))
  have htl:(B.take (q+1)).length=q+1:=by simp;omega
  refine aU [0,1,2,3,8] rfl (fun k G M I=>∃(P1 P2 D:List Int) (j:Int),jG key (B.take (q+1))=P1++P2∧j=P.length+P1.length∧k=P1.length∧(∀y∈P2,key x < key y)∧D=(P++P1)++x::(P2++(B.drop (q+2)++S))∧G=[(9, .int .i64 j)]∧M= .blk b (recs (eI .i64) D++tl) 3::M0∧I0=I) (q+1) _ _ _ aT aJ aI (⟨jG key (B.take (q+1)),[],D,i,by simp,by omega,by omega,by simp,by rw [hD,hx];simp,rfl,rfl,rfl⟩) ?_
  rintro k G M I ⟨P1,P2,D,j,hs,hj,rfl,hP2,hD',rfl,rfl,rfl⟩
  have hDl':D.length=n:=by
   have:=congrArg List.length hs
   rw [hD',hn];simp at this ⊢;omega
  have hasc:=pW key (B.take (q+1))
  rw [hs] at hasc
  have done1:(∀y∈P1,key y≤key x)→D=P++(jG key (B.take (q+1+1))++(B.drop (q+1+1)++S)):=fun h1=>by
   rw [show q+1+1=q+2 from rfl,htk,kW,hs,wG key h1 hP2,hD']
   simp
  have hl2:=congrArg List.length hs
  simp only [List.length_append] at hl2
  by_cases hja:a < j
  ·have hne:P1≠[]:=by intro e;subst e;simp at hj;omega
   obtain ⟨Q1,y,rfl⟩:∃Q1 y,P1=Q1++[y]:=⟨P1.dropLast,P1.getLast hne,(List.dropLast_concat_getLast hne).symm⟩
   have hyB:y∈B:=by
    have:y∈jG key (B.take (q+1)):=by rw [hs];simp
    exact List.mem_of_mem_take ((kR key y _ _ rfl).1 this)
   simp only [List.length_append,List.length_cons,List.length_nil] at hj hl2
   have hDe:D=(P++Q1)++y::x::(P2++(B.drop (q+2)++S)):=by rw [hD'];simp
   have gj:gt D j=x:=by rw [hD'];exact uF (by simp;omega)
   have gj1:gt D (j - 1)=y:=by rw [hDe];exact uF (by simp;omega)
   (repeat refine aL ?_);refine dW [0,1,2,3,4,5,6,7,8,9,10,11,12,13,14,15,16] [1,1,1,0,0,1,1,1,0,1,1,1,1,0,0,0,0] mixed (by kernel_rfl) ?_
   repeat (refine gH ?_)
   rw [gj,gj1]
   (refine nG rfl rfl (hcmp _ x y (hPr x hxB) (hPr y hyB)) rfl rfl rfl ?_;rintro _ _ _ ⟨rfl,rfl,r,rfl,hr⟩;refine ⟨okD,?_⟩)
   by_cases hxy:key x < key y
   ·have hr0:r < 0:=hr.2 hxy
    repeat (refine gH ?_)
    (repeat refine aL ?_);refine lN [0,1,2,3,4,5,6,7,8,9,10,11,12,13,14,15,16,17] [0,0,1,1,1,0,0,0,0,0,1,1,1,0,0,0,0,0] mixed (by kernel_rfl) ?_
    repeat (refine gH ?_)
    rw [gj,gj1]
    refine aK (Q1.length) _ _ _ (by simp) aT aJ aI ⟨Q1,y::P2,_,j - 1,by rw [hs];simp,by omega,rfl,fun u hu=>?_,?_,rfl,rfl,rfl⟩
    ·rcases List.mem_cons.1 hu with rfl|hu
     ·exact hxy
     ·exact hP2 u hu
    ·rw [hDe,aCR (by simp;omega) (by simp;omega)]
     simp
   ·have hr0:¬r < 0:=fun h=>hxy (hr.1 h)
    repeat (refine gH ?_)
    refine aK (B.length - (q+1)) _ _ _ (by first|omega|(simp only [List.length_append,List.length_cons,List.length_nil];omega)) aT aJ aI (⟨q+1,i+1,D,by omega,rfl, .inl (by omega),done1 (fun u hu=>?_),rfl,rfl,rfl⟩)
    rcases List.mem_append.1 hu with hu|hu
    ·have:=Asc.cross key (Asc.left key hasc) u hu y (by simp)
     omega
    ·simp at hu;subst hu;omega
  ·have:P1=[]:=List.eq_nil_of_length_eq_zero (by omega)
   subst this
   (repeat refine aL ?_);refine dW [0,1,2,3,4,5,6,7,8,9,10,11,12,13,14,15,16] [1,1,1,0,0,1,1,1,0,1,1,1,1,0,0,0,0] mixed (by kernel_rfl) ?_
   repeat (refine gH ?_)
   refine aK (B.length - (q+1)) _ _ _ (by first|omega|(simp only [List.length_append,List.length_cons,List.length_nil];omega)) aT aJ aI (⟨q+1,i+1,D,by omega,rfl, .inl (by omega),done1 (by simp),rfl,rfl,rfl⟩)
 ·have h1:B.take (q+1)=B:=List.take_of_length_le (by omega)
  have h2:B.drop (q+1)=[]:=List.drop_eq_nil_of_le (by omega)
  rw [h1,h2] at hD
  simp only [List.nil_append,←List.append_assoc] at hD
  subst hD
  refine dH (by first|exact .inl rfl|exact .inr rfl) rfl _ _ aJ aI (⟨rfl,rfl⟩)
theorem zB {fv:Value} {b n c:Nat} {tl:List Value} {P U V W S:List Int} {a z k:Int} (hn:n=(P++U++V++W++S).length) (ha:a=P.length) (hz:z=P.length+U.length+V.length) (hk:k=U.length) (hUW:U.length=W.length) (hbd:(n:Int)≤1000000):
  CD Try.prog 86 [.slice (some ⟨b,0,none⟩) n c, .int .i64 a, .int .i64 z, .int .i64 k,fv] X w0 (.blk b (recs (eI .i64) (P++U++V++W++S)++tl) 3::M0) I0
   (fun _ M I=> .blk b (recs (eI .i64) (P++W++V++U++S)++tl) 3::M0=M∧I0=I):=by
 have hlen:(P++U++V++W++S).length=P.length+U.length+V.length+W.length+S.length:=by simp only [List.length_append]
 generalize hD0:P++U++V++W++S=D0 at*
 refine aX Try.func86 rfl Try.ntmps86 rfl ?_
 repeat (refine gH ?_)
 refine aU [0,1,2,3] rfl (fun k G M I=>∃(i:Nat) (D:List Int),i≤U.length∧k=U.length - i∧D.length=n∧(∀t:Int,0≤t→gt D t=if a≤t∧t < a+i then gt D0 (t - a+z) else if z≤t∧t < z+i then gt D0 (t - z+a) else gt D0 t)∧G=[(10, .int .i64 i)]∧M= .blk b (recs (eI .i64) D++tl) 3::M0∧I0=I) (U.length) _ _ _ aT aJ aI (⟨0,D0,by omega,rfl,by omega,fun t ht=>by rw [if_neg (by omega),if_neg (by omega)],rfl,rfl,rfl⟩) ?_
 rintro k' G M I ⟨i,D,hi,rfl,hDl,hD,rfl,rfl,rfl⟩
 repeat' (first|refine gH ?_|refine bG rfl (fun h=>?_) (fun h=>?_)|refine bI rfl rfl (fun h=>?_) (fun h=>?_)|fail)
 ·(repeat refine aL ?_);refine lN [0,1,2,3,4,5,6,7,8,9,10,11,12,13,14,15,16,17,18,19,20,21,22,23] [0,0,0,0,1,1,1,1,0,0,0,0,0,0,1,1,1,1,1,0,0,0,0,0] mixed (by kernel_rfl) ?_
  repeat (refine gH ?_)
  refine aK (U.length - (i+1)) _ _ _ (by first|omega|(simp only [List.length_append,List.length_cons,List.length_nil];omega)) aT aJ aI (⟨i+1,_,by omega,rfl,by rw [aY,aY];exact hDl,fun t ht=>?_,rfl,rfl,rfl⟩)
  rw [gM _ (by rw [aY];omega) ht,gM _ (by omega) ht]
  have e1:=hD (z+i) (by omega)
  rw [if_neg (by omega),if_neg (by omega)] at e1
  have e2:=hD (a+i) (by omega)
  rw [if_neg (by omega),if_neg (by omega)] at e2
  by_cases c1:t=z+i
  ·subst c1
   rw [if_pos rfl,e2,if_neg (by omega),if_pos (by omega)]
   congr 1;omega
  ·rw [if_neg c1]
   by_cases c2:t=a+i
   ·subst c2
    rw [if_pos rfl,e1,if_pos (by omega)]
    congr 1;omega
   ·rw [if_neg c2,hD t ht]
    by_cases c3:a≤t∧t < a+i
    ·rw [if_pos c3,if_pos (by omega)]
    ·rw [if_neg c3,if_neg (show ¬(a≤t∧t < a+(i+1:Nat)) by omega)]
     by_cases c4:z≤t∧t < z+i
     ·rw [if_pos c4,if_pos (by omega)]
     ·rw [if_neg c4,if_neg (by omega)]
 ·obtain rfl:i=U.length:=by omega
  have e:D=P++W++V++U++S:=by
   refine aCI (V:=V) (S:=S) hUW (by rw [hD0];omega) (fun t ht=>?_)
   rw [hD0,hD t (by omega)]
   by_cases c1:P.length≤t∧t < P.length+U.length
   ·rw [if_pos (by omega),if_pos c1];congr 1;omega
   ·rw [if_neg (by omega),if_neg c1]
    by_cases c2:P.length+U.length+V.length≤t∧t < P.length+U.length+V.length+W.length
    ·rw [if_pos (by omega),if_pos c2];congr 1;omega
    ·rw [if_neg (by omega),if_neg c2]
  rw [e]
  refine dH (by first|exact .inl rfl|exact .inr rfl) rfl _ _ aJ aI (⟨rfl,rfl⟩)
theorem aMU {fv:Value} {b n c:Nat} {tl:List Value} {P A B S:List Int} {a m z:Int} (hn:n=(P++A++B++S).length) (ha:a=P.length) (hm:m=P.length+A.length) (hz:z=P.length+A.length+B.length) (hA:0 < A.length) (hB:0 < B.length) (hbd:(n:Int)≤1000000):
  CD Try.prog 72 [.slice (some ⟨b,0,none⟩) n c, .int .i64 a, .int .i64 m, .int .i64 z,fv] X w0 (.blk b (recs (eI .i64) (P++A++B++S)++tl) 3::M0) I0
   (fun _ M I=> .blk b (recs (eI .i64) (P++B++A++S)++tl) 3::M0=M∧I0=I):=by
 have hn2:n=P.length+A.length+B.length+S.length:=by rw [hn];simp only [List.length_append]
 clear hn
 refine aX Try.func72 rfl Try.ntmps72 rfl ?_
 repeat (refine gH ?_)
 refine aU [0,2,4] rfl (fun k G M I=>∃(P' A' B' S' D:List Int) (i j:Int),P++B++A++S=P'++B'++A'++S'∧D=P'++A'++B'++S'∧(P'.length:Int)=m - i∧(A'.length:Int)=i∧(B'.length:Int)=j∧0 < i∧0 < j∧k=A'.length+B'.length∧G=[(10, .int .i64 i),(11, .int .i64 j)]∧M= .blk b (recs (eI .i64) D++tl) 3::M0∧I0=I) (A.length+B.length) _ _ _ aT aJ aI (⟨P,A,B,S,_,m - a,z - m,rfl,rfl,by omega,by omega,by omega,by omega,by omega,rfl,rfl,rfl,rfl⟩) ?_
 rintro k G M I ⟨P',A',B',S',D,i,j,hT,hD,hP',hA',hB',hi,hj,rfl,rfl,rfl,rfl⟩
 have hl:=congrArg List.length hT
 simp only [List.length_append] at hl
 repeat' (first|refine gH ?_|refine bG rfl (fun h=>?_) (fun h=>?_)|refine bI rfl rfl (fun h=>?_) (fun h=>?_)|fail)
 ·obtain ⟨A1,A2,rfl,hA1⟩:∃A1 A2,A'=A1++A2∧(A1.length:Int)=j:=⟨A'.take j.toNat,A'.drop j.toNat,by simp,by simp;omega⟩
  simp only [List.length_append] at hA' hl
  have hDe:D=P'++A1++A2++B'++S':=by rw [hD];simp
  rw [hDe]
  (refine bZ rfl (zB (P:=P') (U:=A1) (V:=A2) (W:=B') (S:=S') (by simp only [List.length_append];omega) (by omega) (by omega) (by omega) (by omega) hbd) rfl rfl ?_;rintro _ _ _ ⟨rfl,rfl⟩;refine ⟨okD,?_⟩)
  repeat (refine gH ?_)
  refine aK (A2.length+A1.length) _ _ _ (by first|omega|(simp only [List.length_append,List.length_cons,List.length_nil];omega)) aT aJ aI (⟨P'++B',A2,A1,S',_,_,_,by rw [hT];simp,by simp,by simp only [List.length_append];omega,by omega,hA1,by omega,by omega,rfl,rfl,rfl,rfl⟩)
 ·obtain ⟨B1,B2,rfl,hB1⟩:∃B1 B2,B'=B1++B2∧(B1.length:Int)=j - i:=⟨B'.take (j - i).toNat,B'.drop (j - i).toNat,by simp,by simp;omega⟩
  simp only [List.length_append] at hB' hl
  have hDe:D=P'++A'++B1++B2++S':=by rw [hD];simp
  rw [hDe]
  (refine bZ rfl (zB (P:=P') (U:=A') (V:=B1) (W:=B2) (S:=S') (by simp only [List.length_append];omega) (by omega) (by omega) (by omega) (by omega) hbd) rfl rfl ?_;rintro _ _ _ ⟨rfl,rfl⟩;refine ⟨okD,?_⟩)
  repeat (refine gH ?_)
  refine aK (B2.length+B1.length) _ _ _ (by simp only [List.length_append];omega) aT aJ aI ⟨P',B2,B1,A'++S',_,_,_,by rw [hT];simp,by simp,by omega,by omega,by omega,by omega,by omega,rfl,rfl,rfl,rfl⟩
 ·have hDe:D=P'++A'++[]++B'++S':=by rw [hD];simp
  rw [hDe]
  (refine bZ rfl (zB (P:=P') (U:=A') (V:=[]) (W:=B') (S:=S') (by simp only [List.length_append,List.length_nil];omega) (by omega) (by simp;omega) (by omega) (by omega) hbd) rfl rfl ?_;rintro _ _ _ ⟨rfl,rfl⟩;refine ⟨okD,?_⟩)
  repeat (refine gH ?_)
  rw [hT]
  refine dH (.inr rfl) rfl _ _ aJ aI ⟨by simp,rfl⟩
end
/- ---------- the stable sort of []int: merging in place ---------- -/
section
variable {X:List Nat} {w0:World} {M0:List Ent} {I0:List aO}
theorem aKE {g:FuncId} [FnOk Try.prog g] {fs cs':Array Value} {key:Int→Int} {Pr:Int→Prop} {b n c:Nat} {tl:List Value} (hcmp:CmpI g fs cs' key Pr X w0 b 3 M0 I0) (hbd:(n:Int)≤1000000):∀(N:Nat) {P A B S:List Int} {a m z:Int},A.length+B.length≤N→n=(P++A++B++S).length→
  (∀x∈A,Pr x)→(∀x∈B,Pr x)→Asc key A→Asc key B→a=P.length→m=P.length+A.length→z=P.length+A.length+B.length→0 < A.length→0 < B.length→
  CD Try.prog 54 [.slice (some ⟨b,0,none⟩) n c, .int .i64 a, .int .i64 m, .int .i64 z, .func (.func g) fs cs'] X w0 (.blk b (recs (eI .i64) (P++A++B++S)++tl) 3::M0) I0
   (fun _ M I=> .blk b (recs (eI .i64) (P++mg key A B++S)++tl) 3::M0=M∧I0=I):=by
 intro N
 induction N with
 |zero=>intro P A B S a m z h _ _ _ _ _ _ _ _ hA _;omega
 |succ N ih=>
 intro P A B S a m z hN hn hPA hPB hsA hsB ha hm hz hA hB
 have hn2:n=P.length+A.length+B.length+S.length:=by rw [hn];simp only [List.length_append]
 have hDl:(P++A++B++S).length=n:=hn.symm
 clear hn
 have gA:∀t:Int,P.length≤t→t < P.length+A.length→gt (P++A++B++S) t=gt A (t - P.length):=fun t h1 h2=>by
  obtain ⟨u,rfl⟩:∃u:Nat,t=u:=⟨t.toNat,by omega⟩
  rw [jD,if_pos (by simp only [List.length_append];omega),jD,if_pos (by simp only [List.length_append];omega),jD,if_neg (by omega)]
  congr 1;omega
 have gB:∀t:Int,P.length+A.length≤t→t < P.length+A.length+B.length→gt (P++A++B++S) t=gt B (t - P.length - A.length):=fun t h1 h2=>by
  obtain ⟨u,rfl⟩:∃u:Nat,t=u:=⟨t.toNat,by omega⟩
  rw [jD,if_pos (by simp only [List.length_append];omega),jD,if_neg (by simp only [List.length_append];omega)]
  congr 1;simp only [List.length_append];omega
 have pA:∀t:Int,P.length≤t→t < P.length+A.length→Pr (gt (P++A++B++S) t):=fun t h1 h2=>by
  rw [gA t h1 h2]
  have:=uP (ms:=A) (i:=t - P.length) (by omega)
  exact hPA _ (List.mem_of_getElem? this)
 have pB:∀t:Int,P.length+A.length≤t→t < P.length+A.length+B.length→Pr (gt (P++A++B++S) t):=fun t h1 h2=>by
  rw [gB t h1 h2]
  have:=uP (ms:=B) (i:=t - P.length - A.length) (by omega)
  exact hPB _ (List.mem_of_getElem? this)
 have aA:∀s t:Int,P.length≤s→s≤t→t < P.length+A.length→key (gt (P++A++B++S) s)≤key (gt (P++A++B++S) t):=fun s t h1 h2 h3=>by
  rw [gA s h1 (by omega),gA t (by omega) h3]
  have:=Asc.at key hsA (i:=(s - P.length).toNat) (j:=(t - P.length).toNat) (by omega) (by omega)
  rwa [show (((s - P.length).toNat:Nat):Int)=s - P.length by omega,show (((t - P.length).toNat:Nat):Int)=t - P.length by omega] at this
 have aB:∀s t:Int,P.length+A.length≤s→s≤t→t < P.length+A.length+B.length→key (gt (P++A++B++S) s)≤key (gt (P++A++B++S) t):=fun s t h1 h2 h3=>by
  rw [gB s h1 (by omega),gB t (by omega) h3]
  have:=Asc.at key hsB (i:=(s - P.length - A.length).toNat) (j:=(t - P.length - A.length).toNat) (by omega) (by omega)
  rwa [show (((s - P.length - A.length).toNat:Nat):Int)=s - P.length - A.length by omega,show (((t - P.length - A.length).toNat:Nat):Int)=t - P.length - A.length by omega] at this
 generalize hD:P++A++B++S=D at*
 refine aX Try.func54 rfl Try.ntmps54 rfl ?_
 by_cases hA1:A.length=1
 ·obtain ⟨x,rfl⟩:∃x,A=[x]:=List.length_eq_one_iff.1 hA1
  simp only [List.length_cons,List.length_nil] at*
  have gx:gt D a=x:=by rw [gA a (by omega) (by omega),show a - P.length=0 by omega];rfl
  repeat (refine gH ?_)
  refine aU [0,1,4] rfl (fun k G M I=>∃i j:Int,m≤i∧i≤j∧j≤z∧k=(j - i).toNat∧(∀t,m≤t→t < i→key (gt D t) < key x)∧(∀t,j≤t→t < z→key x≤key (gt D t))∧G=[(10, .int .i64 i),(11, .int .i64 j)]∧M= .blk b (recs (eI .i64) D++tl) 3::M0∧I0=I) ((z - m).toNat) _ _ _ aT aJ aI (⟨m,z,by omega,by omega,by omega,rfl,fun t h1 h2=>by omega,fun t h1 h2=>by omega,rfl,rfl,rfl⟩) ?_
  rintro k G M I ⟨i,j,hi,hij,hj,rfl,h1,h2,rfl,rfl,rfl⟩
  repeat' (first|refine gH ?_|refine bG rfl (fun h=>?_) (fun h=>?_)|refine bI rfl rfl (fun h=>?_) (fun h=>?_)|fail)
  ·(repeat refine aL ?_);refine dW [0,1,2,3,4,5,6,7,8,9,10] [0,1,1,1,0,1,1,1,0,0,0] mixed (by kernel_rfl) ?_
   repeat (refine gH ?_)
   rw [gx]
   (refine nG rfl rfl (hcmp _ (gt D ((i+j) / 2)) x (pB _ (by omega) (by omega)) (hPA x (by simp))) rfl rfl rfl ?_;rintro _ _ _ ⟨rfl,rfl,r,rfl,hr⟩;refine ⟨okD,?_⟩)
   repeat' (first|refine gH ?_|refine bG rfl (fun h=>?_) (fun h=>?_)|refine bI rfl rfl (fun h=>?_) (fun h=>?_)|fail)
   ·have hlt:=hr.1 (by assumption)
    refine aK ((j - ((i+j) / 2+1)).toNat) _ _ _ (by first|omega|(simp only [List.length_append,List.length_cons,List.length_nil];omega)) aT aJ aI (⟨(i+j) / 2+1,j,by omega,by omega,hj,rfl,fun t t1 t2=>?_,h2,rfl,rfl,rfl⟩)
    have:=aB t ((i+j) / 2) (by omega) (by omega) (by omega)
    omega
   ·have hge:¬key (gt D ((i+j) / 2)) < key x:=fun h=>absurd (hr.2 h) (by assumption)
    refine aK (((i+j) / 2 - i).toNat) _ _ _ (by first|omega|(simp only [List.length_append,List.length_cons,List.length_nil];omega)) aT aJ aI (⟨i,(i+j) / 2,hi,by omega,by omega,rfl,h1,fun t t1 t2=>?_,rfl,rfl,rfl⟩)
    have:=aB ((i+j) / 2) t (by omega) (by omega) (by omega)
    omega
  ·obtain rfl:i=j:=by omega
   obtain ⟨B1,B2,rfl,hB1⟩:∃B1 B2,B=B1++B2∧(B1.length:Int)=i - m:=⟨B.take (i - m).toNat,B.drop (i - m).toNat,by simp,by simp;omega⟩
   simp only [List.length_append] at*
   have hm1:mg key [x] (B1++B2)=B1++x::B2:=by
    refine aOD key (fun y hy=>?_) (fun y hy=>?_)
    ·obtain ⟨u,hu,rfl⟩:=List.mem_iff_getElem.1 hy
     have:=h1 (m+u) (by omega) (by omega)
     rw [gB _ (by omega) (by omega),show m+(u:Int) - P.length - ((0+1:Nat):Int)=(u:Int) by omega,jD,if_pos hu,aP hu] at this
     exact this
    ·obtain ⟨u,hu,rfl⟩:=List.mem_iff_getElem.1 hy
     have:=h2 (i+u) (by omega) (by omega)
     rw [gB _ (by omega) (by omega),show i+(u:Int) - P.length - ((0+1:Nat):Int)=((B1.length+u:Nat):Int) by omega,jD,if_neg (by omega),show B1.length+u - B1.length=u by omega,aP hu] at this
     exact this
   rw [hm1]
   refine aU [0,10] rfl (fun k G M I=>∃(q:Nat) (kk:Int) (D':List Int),kk=a+q∧q≤B1.length∧k=B1.length - q∧D'=(P++B1.take q)++x::(B1.drop q++(B2++S))∧G=[(13, .int .i64 kk)]∧M= .blk b (recs (eI .i64) D'++tl) 3::M0∧I0=I) (B1.length) _ _ _ aT aJ aI (⟨0,a,D,by omega,by omega,rfl,by rw [←hD];simp,rfl,rfl,rfl⟩) ?_
   rintro k G M I ⟨q,kk,D',hkk,hq,rfl,hD',rfl,rfl,rfl⟩
   have hl':D'.length=n:=by rw [hD'];simp only [List.length_append,List.length_cons,List.length_take,List.length_drop];omega
   repeat' (first|refine gH ?_|refine bG rfl (fun h=>?_) (fun h=>?_)|refine bI rfl rfl (fun h=>?_) (fun h=>?_)|fail)
   ·have hqB:q < B1.length:=by omega
    have e1:B1.drop q=B1[q]::B1.drop (q+1):=List.drop_eq_getElem_cons hqB
    have e2:B1.take (q+1)=B1.take q++[B1[q]]:=List.take_succ_eq_append_getElem hqB
    have htl:(B1.take q).length=q:=by simp;omega
    generalize B1[q]=y at e1 e2
    rw [e1] at hD'
    have g1:gt D' kk=x:=by rw [hD'];exact uF (by simp only [List.length_append];omega)
    have g2:gt D' (kk+1)=y:=by
     rw [hD',show (P++B1.take q)++x::(y::B1.drop (q+1)++(B2++S))=((P++B1.take q)++[x])++y::(B1.drop (q+1)++(B2++S)) by simp]
     exact uF (by simp only [List.length_append,List.length_cons,List.length_nil];omega)
    (repeat refine aL ?_);refine lN [0,1,2,3,4,5,6,7,8,9,10,11,12,13,14,15,16,17] [0,0,1,1,1,0,0,0,0,0,1,1,1,0,0,0,0,0] mixed (by kernel_rfl) ?_
    repeat (refine gH ?_)
    rw [g1,g2]
    refine aK (B1.length - (q+1)) _ _ _ (by first|omega|(simp only [List.length_append,List.length_cons,List.length_nil];omega)) aT aJ aI (⟨q+1,kk+1,_,by omega,by omega,rfl,?_,rfl,rfl,rfl⟩)
    rw [hD',List.cons_append,swap2 (by simp only [List.length_append];omega) (by simp only [List.length_append];omega),e2]
    simp
   ·obtain rfl:q=B1.length:=by omega
    have:D'=P++(B1++x::B2)++S:=by rw [hD'];simp
    rw [this]
    refine dH (by first|exact .inl rfl|exact .inr rfl) rfl _ _ aJ aI (⟨rfl,rfl⟩)
 by_cases hB1:B.length=1
 ·obtain ⟨y,rfl⟩:∃y,B=[y]:=List.length_eq_one_iff.1 hB1
  simp only [List.length_cons,List.length_nil] at*
  have gy:gt D m=y:=by rw [gB m (by omega) (by omega),show m - P.length - A.length=0 by omega];rfl
  repeat (refine gH ?_)
  refine aU [0,2,4] rfl (fun k G M I=>∃i j:Int,a≤i∧i≤j∧j≤m∧k=(j - i).toNat∧(∀t,a≤t→t < i→key (gt D t)≤key y)∧(∀t,j≤t→t < m→key y < key (gt D t))∧G=[(14, .int .i64 i),(15, .int .i64 j)]∧M= .blk b (recs (eI .i64) D++tl) 3::M0∧I0=I) ((m - a).toNat) _ _ _ aT aJ aI (⟨a,m,by omega,by omega,by omega,rfl,fun t h1 h2=>by omega,fun t h1 h2=>by omega,rfl,rfl,rfl⟩) ?_
  rintro k G M I ⟨i,j,hi,hij,hj,rfl,h1,h2,rfl,rfl,rfl⟩
  repeat' (first|refine gH ?_|refine bG rfl (fun h=>?_) (fun h=>?_)|refine bI rfl rfl (fun h=>?_) (fun h=>?_)|fail)
  ·(repeat refine aL ?_);refine dW [0,1,2,3,4,5,6,7,8,9,10,11] [0,1,1,1,0,1,1,1,0,0,0,0] mixed (by kernel_rfl) ?_
   repeat (refine gH ?_)
   rw [gy]
   (refine nG rfl rfl (hcmp _ y (gt D ((i+j) / 2)) (hPB y (by simp)) (pA _ (by omega) (by omega))) rfl rfl rfl ?_;rintro _ _ _ ⟨rfl,rfl,r,rfl,hr⟩;refine ⟨okD,?_⟩)
   repeat' (first|refine gH ?_|refine bG rfl (fun h=>?_) (fun h=>?_)|refine bI rfl rfl (fun h=>?_) (fun h=>?_)|fail)
   ·have hge:¬key y < key (gt D ((i+j) / 2)):=fun h=>absurd (hr.2 h) (by assumption)
    refine aK ((j - ((i+j) / 2+1)).toNat) _ _ _ (by first|omega|(simp only [List.length_append,List.length_cons,List.length_nil];omega)) aT aJ aI (⟨(i+j) / 2+1,j,by omega,by omega,hj,rfl,fun t t1 t2=>?_,h2,rfl,rfl,rfl⟩)
    have:=aA t ((i+j) / 2) (by omega) (by omega) (by omega)
    omega
   ·have hlt:=hr.1 (by omega)
    refine aK (((i+j) / 2 - i).toNat) _ _ _ (by first|omega|(simp only [List.length_append,List.length_cons,List.length_nil];omega)) aT aJ aI (⟨i,(i+j) / 2,hi,by omega,by omega,rfl,h1,fun t t1 t2=>?_,rfl,rfl,rfl⟩)
    have:=aA ((i+j) / 2) t (by omega) (by omega) (by omega)
    omega
  ·obtain rfl:i=j:=by omega
   obtain ⟨A1,A2,rfl,hA1⟩:∃A1 A2,A=A1++A2∧(A1.length:Int)=i - a:=⟨A.take (i - a).toNat,A.drop (i - a).toNat,by simp,by simp;omega⟩
   simp only [List.length_append] at*
   have hm1:mg key (A1++A2) [y]=A1++y::A2:=by
    refine wG key (fun u hu=>?_) (fun u hu=>?_)
    ·obtain ⟨v,hv,rfl⟩:=List.mem_iff_getElem.1 hu
     have:=h1 (a+v) (by omega) (by omega)
     rw [gA _ (by omega) (by omega),show a+(v:Int) - P.length=(v:Int) by omega,jD,if_pos hv,aP hv] at this
     exact this
    ·obtain ⟨v,hv,rfl⟩:=List.mem_iff_getElem.1 hu
     have:=h2 (i+v) (by omega) (by omega)
     rw [gA _ (by omega) (by omega),show i+(v:Int) - P.length=((A1.length+v:Nat):Int) by omega,jD,if_neg (by omega),show A1.length+v - A1.length=v by omega,aP hv] at this
     exact this
   rw [hm1]
   refine aU [0,14] rfl (fun k G M I=>∃(T R:List Int) (kk:Int) (D':List Int),A2=T++R∧kk=P.length+A1.length+T.length∧k=T.length∧D'=(P++A1++T)++y::(R++S)∧G=[(17, .int .i64 kk)]∧M= .blk b (recs (eI .i64) D'++tl) 3::M0∧I0=I) (A2.length) _ _ _ aT aJ aI (⟨A2,[],m,D,by simp,by omega,rfl,by rw [←hD];simp,rfl,rfl,rfl⟩) ?_
   rintro k G M I ⟨T,R,kk,D',hTR,hkk,rfl,hD',rfl,rfl,rfl⟩
   have hlTR:=congrArg List.length hTR
   simp only [List.length_append] at hlTR
   have hl':D'.length=n:=by rw [hD'];simp only [List.length_append,List.length_cons];omega
   repeat' (first|refine gH ?_|refine bG rfl (fun h=>?_) (fun h=>?_)|refine bI rfl rfl (fun h=>?_) (fun h=>?_)|fail)
   ·have hne:T≠[]:=by intro e;subst e;simp at hkk;omega
    obtain ⟨T',u,rfl⟩:∃T' u,T=T'++[u]:=⟨T.dropLast,T.getLast hne,(List.dropLast_concat_getLast hne).symm⟩
    simp only [List.length_append,List.length_cons,List.length_nil] at hkk hlTR
    have hDe:D'=(P++A1++T')++u::y::(R++S):=by rw [hD'];simp
    have g1:gt D' kk=y:=by rw [hD'];exact uF (by simp only [List.length_append,List.length_cons,List.length_nil];omega)
    have g2:gt D' (kk - 1)=u:=by rw [hDe];exact uF (by simp only [List.length_append];omega)
    (repeat refine aL ?_);refine lN [0,1,2,3,4,5,6,7,8,9,10,11,12,13,14,15,16,17] [0,0,1,1,1,0,0,0,0,0,1,1,1,0,0,0,0,0] mixed (by kernel_rfl) ?_
    repeat (refine gH ?_)
    rw [g1,g2]
    refine aK (T'.length) _ _ _ (by first|omega|(simp only [List.length_append,List.length_cons,List.length_nil];omega)) aT aJ aI (⟨T',u::R,kk - 1,_,by rw [hTR];simp,by omega,rfl,?_,rfl,rfl,rfl⟩)
    rw [hDe,aCR (by simp only [List.length_append];omega) (by simp only [List.length_append];omega)]
    simp
   ·obtain rfl:T=[]:=List.eq_nil_of_length_eq_zero (by omega)
    have:D'=P++(A1++y::A2)++S:=by rw [hD',hTR];simp
    rw [this]
    refine dH (by first|exact .inl rfl|exact .inr rfl) rfl _ _ aJ aI (⟨rfl,rfl⟩)
 iterate 7 (refine aL ?_;repeat' (first|refine dC ?_|refine jV ?_|refine gV ?_|refine dY ?_|refine dN ?_|refine gW ?_|refine eT ?_|refine eH ?_|refine eP ?_|refine jT ?_|refine jK ?_|refine jH ?_|refine jP rfl ?_|refine gG ?_|(refine fG ?_;first|refine fC rfl rfl rfl ?_|(refine fU rfl rfl ?_;refine dM rfl rfl rfl okD ?_)|refine fF rfl rfl (by omega) ?_|refine fE rfl rfl (by omega) ?_|refine zY rfl rfl (fun h=>?_) (fun h=>?_)|(fail_if_success (refine aHV rfl ?_);refine zK rfl rfl (fun h=>?_) (fun h=>?_)))|(refine bD ?_;refine aC rfl (fun _=>bV rfl) rfl rfl ?_)|refine aC rfl (fun _=>aM rfl) rfl rfl ?_|(refine fV ?_;first|refine aC rfl (fun _=>aR rfl rfl w_) rfl rfl ?_|refine aC rfl (fun _=>aS rfl rfl w_) rfl rfl ?_|refine aC rfl (fun _=>cZ rfl rfl w_) rfl rfl ?_|refine aC rfl (fun _=>dB rfl rfl (by omega) q_) rfl rfl ?_|refine aC rfl (fun _=>dA rfl rfl (by omega) rfl) rfl rfl ?_|refine aC rfl (fun _=>bW rfl rfl) rfl rfl ?_)|(refine bD ?_;first|refine aC rfl (fun _=>bY rfl w_) rfl rfl ?_)|(refine fQ ?_;first|refine aC rfl (fun _=>bM rfl w_) rfl rfl ?_)|(refine fO ?_;first|refine aC rfl (fun _=>aQ rfl) rfl rfl ?_|refine aC rfl (fun _=>bS rfl rfl) rfl rfl ?_|refine aC rfl (fun _=>bT rfl rfl) rfl rfl ?_|refine aC rfl (fun _=>bX rfl rfl rfl) rfl rfl ?_)|(refine fP ?_;first|refine fB rfl (by decide) rfl rfl ?_|refine iN rfl (by decide) rfl rfl ?_)|(refine fJ ?_;first|refine aC rfl (fun _=>bH rfl) rfl rfl ?_)|(refine fH ?_;first|refine iR rfl rfl gP rfl rfl ?_|refine iP nW rfl rfl gP aH iX rfl rfl ?_|refine iO nW rfl rfl gP aH iX rfl rfl ?_|refine aC rfl (fun _=>bA rfl rfl gP) rfl rfl ?_)|(refine fT ?_;first|refine iU nW rfl aH nA rfl rfl ?_|refine iT nW rfl aH nA rfl rfl ?_|refine iA nW rfl aH nA rfl rfl ?_|refine fD nW rfl aH nA rfl rfl ?_|refine jN nW rfl aH gJ dE rfl rfl ?_|refine jX nW rfl aH gJ dE rfl rfl ?_|refine jS nW rfl aH gJ dE rfl rfl ?_|refine gY nW rfl aH gJ dE rfl rfl ?_)|(refine fK ?_;first|refine aC rfl (fun _=>bC rfl rfl) rfl rfl ?_|refine aC rfl (fun _=>bB rfl) rfl rfl ?_)|(refine gT ?_;first|refine lZ rfl rfl rfl mH stC rfl rfl ⟨okD,?_⟩|refine iE rfl rfl dE rQ mH qW rfl rfl ⟨okD,?_⟩)|(refine gU ?_;first|refine bK rfl ?_|refine bE rfl ?_|refine jM rfl (by omega) ?_|refine mO rfl (by omega) ?_|refine aJX rfl (fun h=>?_) (fun h=>?_)|refine yY rfl (fun h=>?_) (fun h=>?_))))
 have hmid:a < (a+z) / 2∧(a+z) / 2 < z:=by omega
 generalize hmd:(a+z) / 2=md at*
 refine zC (fun G M I=>∃s r:Int,a≤s∧s≤r∧r≤m∧md+m - z≤s∧r≤md∧(s=a∨s=md+m - z)∧(r=m∨r=md)∧G=[(0, .slice (some ⟨b,0,none⟩) n c),(1, .int .i64 a),(2, .int .i64 m),(3, .int .i64 z),(4, .func (.func g) fs cs'),(18, .int .i64 md),(19, .int .i64 (md+m)),(20, .int .i64 s),(21, .int .i64 r)]∧
  M= .blk b (recs (eI .i64) D++tl) 3::M0∧I0=I) ?_ ?_
 ·refine aL ?_
  repeat' (first|refine gH ?_|refine bG rfl (fun h=>?_) (fun h=>?_)|refine bI rfl rfl (fun h=>?_) (fun h=>?_)|fail)
  ·refine jQ _ _ _ aT aJ aI ⟨md+m - z,md,by omega,by omega,by omega,by omega,by omega, .inr rfl, .inr rfl,rfl,rfl,rfl⟩
  ·refine jQ _ _ _ aT aJ aI ⟨a,m,by omega,by omega,by omega,by omega,by omega, .inl rfl, .inl rfl,rfl,rfl,rfl⟩
 rintro G M I ⟨s0,r0,q1,q2,q3,q4,q5,q6,q7,rfl,rfl,rfl⟩
 repeat (refine gH ?_)
 refine aU [0,1,2,3,4,18,19,22] rfl (fun k G M I=>∃s r:Int,s0≤s∧s≤r∧r≤r0∧k=(r - s).toNat∧(s=s0∨key (gt D (s - 1))≤key (gt D (md+m - s)))∧(r=r0∨key (gt D (md+m - 1 - r)) < key (gt D r))∧G=[(20, .int .i64 s),(21, .int .i64 r)]∧M= .blk b (recs (eI .i64) D++tl) 3::M0∧I0=I) ((r0 - s0).toNat) _ _ _ aT aJ aI (⟨s0,r0,by omega,by omega,by omega,rfl, .inl rfl, .inl rfl,rfl,rfl,rfl⟩) ?_
 rintro k G M I ⟨s,r,hs,hsr,hr,rfl,hL,hR,rfl,rfl,rfl⟩
 by_cases hlp:s < r
 ·repeat (refine gH ?_)
  (repeat refine aL ?_);refine dW [0,1,2,3,4,5,6,7,8,9,10,11,12,13] [0,1,1,1,1,1,0,1,1,1,0,0,0,0] mixed (by kernel_rfl) ?_
  repeat (refine gH ?_)
  (refine nG rfl rfl (hcmp _ (gt D (md+m - 1 - (s+r) / 2)) (gt D ((s+r) / 2)) (pB _ (by omega) (by omega)) (pA _ (by omega) (by omega))) rfl rfl rfl ?_;rintro _ _ _ ⟨rfl,rfl,rr,rfl,hrr⟩;refine ⟨okD,?_⟩)
  repeat' (first|refine gH ?_|refine bG rfl (fun h=>?_) (fun h=>?_)|refine bI rfl rfl (fun h=>?_) (fun h=>?_)|fail)
  ·have hge:¬key (gt D (md+m - 1 - (s+r) / 2)) < key (gt D ((s+r) / 2)):=fun h=>absurd (hrr.2 h) (by assumption)
   refine aK ((r - ((s+r) / 2+1)).toNat) _ _ _ (by first|omega|(simp only [List.length_append,List.length_cons,List.length_nil];omega)) aT aJ aI (⟨(s+r) / 2+1,r,by omega,by omega,hr,rfl, .inr ?_,hR,rfl,rfl,rfl⟩)
   rw [show (s+r) / 2+1 - 1=(s+r) / 2 by omega,show md+m - ((s+r) / 2+1)=md+m - 1 - (s+r) / 2 by omega]
   omega
  ·have hlt:=hrr.1 (by omega)
   refine aK (((s+r) / 2 - s).toNat) _ _ _ (by first|omega|(simp only [List.length_append,List.length_cons,List.length_nil];omega)) aT aJ aI (⟨s,(s+r) / 2,hs,by omega,by omega,rfl,hL, .inr hlt,rfl,rfl,rfl⟩)
 obtain rfl:s=r:=by omega
 have hse:a≤s∧s≤m∧m≤md+m - s∧md+m - s≤z:=by omega
 obtain ⟨A1,A2,hAe,hA1'⟩:∃A1 A2,A=A1++A2∧(A1.length:Int)=s - a:=⟨A.take (s - a).toNat,A.drop (s - a).toNat,by simp,by simp;omega⟩
 obtain ⟨B1,B2,hBe,hB1'⟩:∃B1 B2,B=B1++B2∧(B1.length:Int)=md - s:=⟨B.take (md - s).toNat,B.drop (md - s).toNat,by simp,by simp;omega⟩
 have c1:∀x∈A1,∀y∈B2,key x≤key y:=by
  intro x hx y hy
  obtain ⟨u,hu,rfl⟩:=List.mem_iff_getElem.1 hx
  obtain ⟨v,hv,rfl⟩:=List.mem_iff_getElem.1 hy
  have lA:=congrArg List.length hAe
  have lB:=congrArg List.length hBe
  simp only [List.length_append] at lA lB
  have e1:=gA (a+u) (by omega) (by omega)
  have e2:=gB (md+m - s+v) (by omega) (by omega)
  rw [show a+(u:Int) - P.length=(u:Int) by omega,hAe,jD,if_pos hu,aP hu] at e1
  rw [show md+m - s+(v:Int) - P.length - A.length=((B1.length+v:Nat):Int) by omega,hBe,jD,if_neg (by omega),show B1.length+v - B1.length=v by omega,aP hv] at e2
  rw [←e1,←e2]
  rcases hL with h|h
  ·omega
  ·have h1:=aA (a+u) (s - 1) (by omega) (by omega) (by omega)
   have h2:=aB (md+m - s) (md+m - s+v) (by omega) (by omega) (by omega)
   omega
 have c2:∀y∈B1,∀x∈A2,key y < key x:=by
  intro y hy x hx
  obtain ⟨u,hu,rfl⟩:=List.mem_iff_getElem.1 hx
  obtain ⟨v,hv,rfl⟩:=List.mem_iff_getElem.1 hy
  have lA:=congrArg List.length hAe
  have lB:=congrArg List.length hBe
  simp only [List.length_append] at lA lB
  have e1:=gA (s+u) (by omega) (by omega)
  have e2:=gB (m+v) (by omega) (by omega)
  rw [show s+(u:Int) - P.length=((A1.length+u:Nat):Int) by omega,hAe,jD,if_neg (by omega),show A1.length+u - A1.length=u by omega,aP hu] at e1
  rw [show m+(v:Int) - P.length - A.length=(v:Int) by omega,hBe,jD,if_pos hv,aP hv] at e2
  rw [←e1,←e2]
  rcases hR with h|h
  ·omega
  ·have h1:=aA s (s+u) (by omega) (by omega) (by omega)
   have h2:=aB (m+v) (md+m - 1 - s) (by omega) (by omega) (by omega)
   omega
 have hmg:=jO key A1 B1 A2 B2 c1 c2
 subst hAe
 subst hBe
 rw [hmg]
 clear gA gB pA pB aA aB hL hR
 simp only [List.length_append] at*
 have hDe:D=P++A1++A2++B1++(B2++S):=by rw [←hD];simp
 iterate 3 (refine aL ?_;repeat' (first|refine dC ?_|refine jV ?_|refine gV ?_|refine dY ?_|refine dN ?_|refine gW ?_|refine eT ?_|refine eH ?_|refine eP ?_|refine jT ?_|refine jK ?_|refine jH ?_|refine jP rfl ?_|refine gG ?_|(refine fG ?_;first|refine fC rfl rfl rfl ?_|(refine fU rfl rfl ?_;refine dM rfl rfl rfl okD ?_)|refine fF rfl rfl (by omega) ?_|refine fE rfl rfl (by omega) ?_|refine zY rfl rfl (fun h=>?_) (fun h=>?_)|(fail_if_success (refine aHV rfl ?_);refine zK rfl rfl (fun h=>?_) (fun h=>?_)))|(refine bD ?_;refine aC rfl (fun _=>bV rfl) rfl rfl ?_)|refine aC rfl (fun _=>aM rfl) rfl rfl ?_|(refine fV ?_;first|refine aC rfl (fun _=>aR rfl rfl w_) rfl rfl ?_|refine aC rfl (fun _=>aS rfl rfl w_) rfl rfl ?_|refine aC rfl (fun _=>cZ rfl rfl w_) rfl rfl ?_|refine aC rfl (fun _=>dB rfl rfl (by omega) q_) rfl rfl ?_|refine aC rfl (fun _=>dA rfl rfl (by omega) rfl) rfl rfl ?_|refine aC rfl (fun _=>bW rfl rfl) rfl rfl ?_)|(refine bD ?_;first|refine aC rfl (fun _=>bY rfl w_) rfl rfl ?_)|(refine fQ ?_;first|refine aC rfl (fun _=>bM rfl w_) rfl rfl ?_)|(refine fO ?_;first|refine aC rfl (fun _=>aQ rfl) rfl rfl ?_|refine aC rfl (fun _=>bS rfl rfl) rfl rfl ?_|refine aC rfl (fun _=>bT rfl rfl) rfl rfl ?_|refine aC rfl (fun _=>bX rfl rfl rfl) rfl rfl ?_)|(refine fP ?_;first|refine fB rfl (by decide) rfl rfl ?_|refine iN rfl (by decide) rfl rfl ?_)|(refine fJ ?_;first|refine aC rfl (fun _=>bH rfl) rfl rfl ?_)|(refine fH ?_;first|refine iR rfl rfl gP rfl rfl ?_|refine iP nW rfl rfl gP aH iX rfl rfl ?_|refine iO nW rfl rfl gP aH iX rfl rfl ?_|refine aC rfl (fun _=>bA rfl rfl gP) rfl rfl ?_)|(refine fT ?_;first|refine iU nW rfl aH nA rfl rfl ?_|refine iT nW rfl aH nA rfl rfl ?_|refine iA nW rfl aH nA rfl rfl ?_|refine fD nW rfl aH nA rfl rfl ?_|refine jN nW rfl aH gJ dE rfl rfl ?_|refine jX nW rfl aH gJ dE rfl rfl ?_|refine jS nW rfl aH gJ dE rfl rfl ?_|refine gY nW rfl aH gJ dE rfl rfl ?_)|(refine fK ?_;first|refine aC rfl (fun _=>bC rfl rfl) rfl rfl ?_|refine aC rfl (fun _=>bB rfl) rfl rfl ?_)|(refine gT ?_;first|refine lZ rfl rfl rfl mH stC rfl rfl ⟨okD,?_⟩|refine iE rfl rfl dE rQ mH qW rfl rfl ⟨okD,?_⟩)|(refine gU ?_;first|refine bK rfl ?_|refine bE rfl ?_|refine jM rfl (by omega) ?_|refine mO rfl (by omega) ?_|refine aJX rfl (fun h=>?_) (fun h=>?_)|refine yY rfl (fun h=>?_) (fun h=>?_))))
 have lAB:=hmg
 clear lAB
 refine zC (fun G M I=>G=[(0, .slice (some ⟨b,0,none⟩) n c),(1, .int .i64 a),(3, .int .i64 z),(4, .func (.func g) fs cs'),(18, .int .i64 md),(20, .int .i64 s),(24, .int .i64 (md+m - s))]∧
  M= .blk b (recs (eI .i64) (P++A1++B1++(A2++B2++S))++tl) 3::M0∧I0=I) ?_ ?_
 ·refine aL ?_
  repeat' (first|refine gH ?_|refine bG rfl (fun h=>?_) (fun h=>?_)|refine bI rfl rfl (fun h=>?_) (fun h=>?_)|fail)
  ·rw [hDe]
   (refine bZ rfl (aMU (P:=P++A1) (A:=A2) (B:=B1) (S:=B2++S) (by simp only [List.length_append];omega) (by simp only [List.length_append];omega) (by simp only [List.length_append];omega) (by simp only [List.length_append];omega) (by omega) (by omega) hbd) rfl rfl ?_;rintro _ _ _ ⟨rfl,rfl⟩;refine ⟨okD,?_⟩)
   repeat (refine gH ?_)
   rw [show P++A1++B1++A2++(B2++S)=P++A1++B1++(A2++B2++S) by simp]
   refine jQ _ _ _ aT aJ aI ⟨rfl,rfl,rfl⟩
  ·obtain rfl:B1=[]:=List.eq_nil_of_length_eq_zero (by omega)
   rw [show D=P++A1++[]++(A2++B2++S) by rw [hDe];simp]
   refine jQ _ _ _ aT aJ aI ⟨rfl,rfl,rfl⟩
  ·obtain rfl:A2=[]:=List.eq_nil_of_length_eq_zero (by omega)
   rw [show D=P++A1++B1++([]++B2++S) by rw [hDe];simp]
   refine jQ _ _ _ aT aJ aI ⟨rfl,rfl,rfl⟩
 rintro G M I ⟨rfl,rfl,rfl⟩
 have hPA1:∀x∈A1,Pr x:=fun x hx=>hPA x (List.mem_append.2 (.inl hx))
 have hPA2:∀x∈A2,Pr x:=fun x hx=>hPA x (List.mem_append.2 (.inr hx))
 have hPB1:∀x∈B1,Pr x:=fun x hx=>hPB x (List.mem_append.2 (.inl hx))
 have hPB2:∀x∈B2,Pr x:=fun x hx=>hPB x (List.mem_append.2 (.inr hx))
 have hll:=zU key A1 B1
 refine zC (fun G M I=>G=[(0, .slice (some ⟨b,0,none⟩) n c),(3, .int .i64 z),(4, .func (.func g) fs cs'),(18, .int .i64 md),(24, .int .i64 (md+m - s))]∧
  M= .blk b (recs (eI .i64) ((P++mg key A1 B1)++A2++B2++S)++tl) 3::M0∧I0=I) ?_ ?_
 ·refine aL ?_
  repeat' (first|refine gH ?_|refine bG rfl (fun h=>?_) (fun h=>?_)|refine bI rfl rfl (fun h=>?_) (fun h=>?_)|fail)
  ·(refine bZ rfl (ih (P:=P) (A:=A1) (B:=B1) (S:=A2++B2++S) (by omega) (by simp only [List.length_append];omega) hPA1 hPB1 (Asc.left key hsA) (Asc.left key hsB) (by omega) (by omega) (by omega) (by omega) (by omega)) rfl rfl ?_;rintro _ _ _ ⟨rfl,rfl⟩;refine ⟨okD,?_⟩)
   repeat (refine gH ?_)
   rw [show P++mg key A1 B1++(A2++B2++S)=P++mg key A1 B1++A2++B2++S by simp]
   refine jQ _ _ _ aT aJ aI ⟨rfl,rfl,rfl⟩
  ·obtain rfl:B1=[]:=List.eq_nil_of_length_eq_zero (by omega)
   rw [lX,show P++A1++[]++(A2++B2++S)=P++A1++A2++B2++S by simp]
   refine jQ _ _ _ aT aJ aI ⟨rfl,rfl,rfl⟩
  ·obtain rfl:A1=[]:=List.eq_nil_of_length_eq_zero (by omega)
   rw [kC,show P++[]++B1++(A2++B2++S)=P++B1++A2++B2++S by simp]
   refine jQ _ _ _ aT aJ aI ⟨rfl,rfl,rfl⟩
 rintro G M I ⟨rfl,rfl,rfl⟩
 refine aL ?_
 repeat' (first|refine gH ?_|refine bG rfl (fun h=>?_) (fun h=>?_)|refine bI rfl rfl (fun h=>?_) (fun h=>?_)|fail)
 ·(refine bZ rfl (ih (P:=P++mg key A1 B1) (A:=A2) (B:=B2) (S:=S) (by omega) (by simp only [List.length_append];omega) hPA2 hPB2 (Asc.right key hsA) (Asc.right key hsB) (by simp only [List.length_append];omega) (by simp only [List.length_append];omega) (by simp only [List.length_append];omega) (by omega) (by omega)) rfl rfl ?_;rintro _ _ _ ⟨rfl,rfl⟩;refine ⟨okD,?_⟩)
  repeat (refine gH ?_)
  rw [show P++mg key A1 B1++mg key A2 B2++S=P++(mg key A1 B1++mg key A2 B2)++S by simp]
  refine dH (by first|exact .inl rfl|exact .inr rfl) rfl _ _ aJ aI (⟨rfl,rfl⟩)
 ·obtain rfl:B2=[]:=List.eq_nil_of_length_eq_zero (by omega)
  rw [lX,show P++mg key A1 B1++A2++[]++S=P++(mg key A1 B1++A2)++S by simp]
  refine dH (by first|exact .inl rfl|exact .inr rfl) rfl _ _ aJ aI (⟨rfl,rfl⟩)
 ·obtain rfl:A2=[]:=List.eq_nil_of_length_eq_zero (by omega)
  rw [kC,show P++mg key A1 B1++[]++B2++S=P++(mg key A1 B1++B2)++S by simp]
  refine dH (by first|exact .inl rfl|exact .inr rfl) rfl _ _ aJ aI (⟨rfl,rfl⟩)
end
end Go.Proofs.Ytejbgkajdomgcaa
namespace Go.Proofs.Ytejbgkajdomgcaa
open Go Go.Fx
/- ---------- the stable sort of []int: whole, below 40 elements ---------- -/
section
variable {X:List Nat} {w0:World} {M0:List Ent} {I0:List aO}
theorem aMT {g:FuncId} [FnOk Try.prog g] {fs cs':Array Value} {key:Int→Int} {Pr:Int→Prop} {b c:Nat} {tl:List Value} {D:List Int} (hcmp:CmpI g fs cs' key Pr X w0 b 3 M0 I0) (hPr:∀x∈D,Pr x) (hbd:D.length < 40):
  CD Try.prog 33 [.slice (some ⟨b,0,none⟩) D.length c, .func (.func g) fs cs'] X w0 (.blk b (recs (eI .i64) D++tl) 3::M0) I0
   (fun v M I=>v= .tuple #[]∧ .blk b (recs (eI .i64) (jG key D)++tl) 3::M0=M∧I0=I):=by
 have hst:CD Try.prog 46 [.slice (some ⟨b,0,none⟩) D.length c, .int .i64 D.length, .func (.func g) fs cs'] X w0 (.blk b (recs (eI .i64) D++tl) 3::M0) I0
   (fun _ M I=> .blk b (recs (eI .i64) (jG key D)++tl) 3::M0=M∧I0=I):=by
  by_cases h20:D.length < 20
  ·have h1:=yK (P:=[]) (B:=D) (S:=[]) (a:=0) (z:=D.length) (n:=D.length) (c:=c) (tl:=tl) hcmp (by simp) hPr (by simp) (by simp) (by omega)
   simp only [List.append_nil,List.nil_append] at h1
   refine aX Try.func46 rfl Try.ntmps46 rfl ?_
   repeat (refine gH ?_)
   refine aU [0,1,2,6] rfl (fun k G M I=>k=0∧G=[(7, .int .i64 0),(8, .int .i64 20)]∧M= .blk b (recs (eI .i64) D++tl) 3::M0∧I0=I) (0) _ _ _ aT aJ aI (⟨rfl,rfl,rfl,rfl⟩) ?_
   rintro k G M I ⟨rfl,rfl,rfl,rfl⟩
   repeat (refine gH ?_)
   (refine bZ rfl (h1) rfl rfl ?_;rintro _ _ _ ⟨rfl,rfl⟩;refine ⟨okD,?_⟩)
   repeat (refine gH ?_)
   refine aU [0,1,2] rfl (fun k G M I=>k=0∧G=[(6, .int .i64 20)]∧M= .blk b (recs (eI .i64) (jG key D)++tl) 3::M0∧I0=I) (0) _ _ _ aT aJ aI (⟨rfl,rfl,rfl,rfl⟩) ?_
   rintro k G M I ⟨rfl,rfl,rfl,rfl⟩
   repeat (refine gH ?_)
   refine dH (by first|exact .inl rfl|exact .inr rfl) rfl _ _ aJ aI (⟨rfl,rfl⟩)
  ·obtain ⟨E,F,rfl,hE⟩:∃E F,D=E++F∧E.length=20:=⟨D.take 20,D.drop 20,by simp,by simp;omega⟩
   have hl:(E++F).length=E.length+F.length:=List.length_append
   have hsE:=mR key E
   have hsF:=mR key F
   have h1:=yK (P:=[]) (B:=E) (S:=F) (a:=0) (z:=20) (n:=(E++F).length) (c:=c) (tl:=tl) hcmp (by simp) (fun x hx=>hPr x (by simp [hx])) (by simp) (by simp;omega) (by omega)
   have h2:=yK (P:=jG key E) (B:=F) (S:=[]) (a:=20) (z:=(E++F).length) (n:=(E++F).length) (c:=c) (tl:=tl) hcmp (by simp;omega) (fun x hx=>hPr x (by simp [hx])) (by omega) (by omega) (by omega)
   simp only [List.append_nil,List.nil_append] at h1 h2
   have hsrt:jG key (E++F)=mg key (jG key E) (jG key F):=wJ key E _ F rfl
   refine aX Try.func46 rfl Try.ntmps46 rfl ?_
   repeat (refine gH ?_)
   refine aU [0,1,2,6] rfl (fun k G M I=>(k=1∧G=[(7, .int .i64 0),(8, .int .i64 20)]∧M= .blk b (recs (eI .i64) (E++F)++tl) 3::M0∧I0=I)∨(k=0∧G=[(7, .int .i64 20),(8, .int .i64 40)]∧M= .blk b (recs (eI .i64) (jG key E++F)++tl) 3::M0∧I0=I)) (1) _ _ _ aT aJ aI (.inl ⟨rfl,rfl,rfl,rfl⟩) ?_
   rintro k G M I (⟨rfl,rfl,rfl,rfl⟩|⟨rfl,rfl,rfl,rfl⟩)
   ·repeat (refine gH ?_)
    (refine bZ rfl (h1) rfl rfl ?_;rintro _ _ _ ⟨rfl,rfl⟩;refine ⟨okD,?_⟩)
    repeat (refine gH ?_)
    refine aK 0 _ _ _ (by omega) aT aJ aI (.inr ⟨rfl,rfl,rfl,rfl⟩)
   ·repeat (refine gH ?_)
    (refine bZ rfl (h2) rfl rfl ?_;rintro _ _ _ ⟨rfl,rfl⟩;refine ⟨okD,?_⟩)
    repeat (refine gH ?_)
    refine aU [0,1,2] rfl (fun k G M I=>(k=1∧G=[(6, .int .i64 20)]∧M= .blk b (recs (eI .i64) (jG key E++jG key F)++tl) 3::M0∧I0=I)∨(k=0∧G=[(6, .int .i64 40)]∧M= .blk b (recs (eI .i64) (jG key (E++F))++tl) 3::M0∧I0=I)) (1) _ _ _ aT aJ aI (.inl ⟨rfl,rfl,rfl,rfl⟩) ?_
    rintro k G M I (⟨rfl,rfl,rfl,rfl⟩|⟨rfl,rfl,rfl,rfl⟩)
    ·by_cases h0:F.length=0
     ·obtain rfl:F=[]:=List.eq_nil_of_length_eq_zero h0
      simp only [List.length_nil] at*
      repeat (refine gH ?_)
      rw [show jG key E++jG key []=jG key E by simp [qY],show jG key (E++[])=jG key E by rw [List.append_nil]]
      refine dH (by first|exact .inl rfl|exact .inr rfl) rfl _ _ aJ aI (⟨rfl,rfl⟩)
     ·have h3:=aKE (N:=40) (P:=[]) (A:=jG key E) (B:=jG key F) (S:=[]) (a:=0) (m:=20) (z:=(E++F).length) (n:=(E++F).length) (c:=c) (tl:=tl) hcmp (by omega) (by omega) (by simp;omega) (fun x hx=>hPr x (by simp [(kR key x _ _ rfl).1 hx])) (fun x hx=>hPr x (by simp [(kR key x _ _ rfl).1 hx])) (pW key E) (pW key F) (by simp) (by simp;omega) (by simp;omega) (by omega) (by omega)
      simp only [List.append_nil,List.nil_append] at h3
      rw [←hsrt] at h3
      repeat (refine gH ?_)
      refine aU [0,1,2,6] rfl (fun k G M I=>k=0∧G=[(7, .int .i64 0),(8, .int .i64 40)]∧M= .blk b (recs (eI .i64) (jG key E++jG key F)++tl) 3::M0∧I0=I) (0) _ _ _ aT aJ aI (⟨rfl,rfl,rfl,rfl⟩) ?_
      rintro k G M I ⟨rfl,rfl,rfl,rfl⟩
      repeat (refine gH ?_)
      (refine bZ rfl (h3) rfl rfl ?_;rintro _ _ _ ⟨rfl,rfl⟩;refine ⟨okD,?_⟩)
      repeat (refine gH ?_)
      refine aK 0 _ _ _ (by omega) aT aJ aI (.inr ⟨rfl,rfl,rfl,rfl⟩)
    ·repeat (refine gH ?_)
     refine dH (by first|exact .inl rfl|exact .inr rfl) rfl _ _ aJ aI (⟨rfl,rfl⟩)
 refine aX Try.func33 rfl Try.ntmps33 rfl ?_
 repeat (refine gH ?_)
 (refine bZ rfl (hst) rfl rfl ?_;rintro _ _ _ ⟨rfl,rfl⟩;refine ⟨okD,?_⟩)
 repeat (refine gH ?_)
 refine dH (by first|exact .inl rfl|exact .inr rfl) rfl _ _ aJ aI (⟨rfl,rfl,rfl⟩)
end
end Go.Proofs.Ytejbgkajdomgcaa
namespace Go.Proofs.Ytejbgkajdomgcaa
open Go Go.Fx
theorem vG {P:Program} {n:Nat} {G:Env} {ty:TypeId} {C:World→Prop} {t:TypeId} {x ix:Operand} {s:ByteArray} {k:IntKind} {i:Int} {b:UInt8} [ht:StrTy P t] (hx:ev G x=some (.string s)) (hi:ev G ix=some (.int k i)) (h0:0≤i) (hb:s[i.toNat]?=some b):
  Const P n G (.index t x ix) ty C (.int .u8 b.toNat):=by
 refine ⟨?_⟩
 intro st ha dst pos after guard w _
 simp [execOp,Instr.index,ha.ev hx,ha.ev hi,asIntOf,bL ht.und,h0,hb]
theorem aHC {P:Program} {n:Nat} {ops l:List Oper} {Q:Exit→Act→World→Prop} {m:Fx.Mode} {G:Env} {X:List Nat} {w0:World} {M:List Ent} {I:List aO} {ty:TypeId} {pos:String} {af:Array Edge} {g:Option (Nat × Bool)} {d:Nat} {t:TypeId} {x ix:Operand} {s:ByteArray} {kk:IntKind} {i:Int} [StrTy P t]
  (hx:ev G x=some (.string s)) (hi:ev G ix=some (.int kk i)) (h0:0≤i) (h1:i.toNat < s.size) (hg:iY ops G g=some true) (hd:Nat.ble (d+1) n=true)
  (k:∀b:Int,0≤b∧b < 256→RD P n ops Q m.next l ((d, .int .u8 b)::G) X w0 M I):RD P n ops Q m (⟨some d, .index t x ix,ty,pos,af,g⟩::l) G X w0 M I:=
 aC hg (fun _=>vG hx hi h0 (getElem?_pos s i.toNat h1)) rfl hd (k _ ⟨Int.natCast_nonneg _,by have:=UInt8.toNat_lt (s[i.toNat]'h1);omega⟩)
section
variable {X:List Nat} {w0:World} {M0:List Ent} {I0:List aO}
theorem aHY {x:Int}:CD Try.prog 49 [.int .i64 x] X w0 M0 I0 (fun v M I=>M0=M∧I0=I∧v= .bool false):=by
 refine eZ Try.func49 rfl Try.ntmps49 rfl ?_
 repeat refine aD ?_
 refine lL rfl rfl (⟨rfl,rfl,congrArg Value.bool (bQ (fun h=>h rfl))⟩)
theorem aLY {x y:Int}:CD Try.prog 36 [.int .i64 x, .int .i64 y] X w0 M0 I0 (fun v M I=>M0=M∧I0=I∧v= .bool (B (x < y))):=by
 refine bO Try.func36 rfl Try.ntmps36 rfl ?_
 repeat refine aD ?_
 refine iM rfl (aHY) ?_
 repeat refine aD ?_
 refine lL rfl rfl (⟨rfl,rfl,rfl⟩)
theorem aGR {x:Int} (h0:0≤x) (h1:x < 256):CD Try.prog 64 [.int .u64 x] X w0 M0 I0 (fun v M I=>M0=M∧I0=I∧∃r:Int,v= .int .i64 r):=by
 refine eZ Try.func64 rfl Try.ntmps64 rfl ?_
 repeat refine aD ?_
 refine aHC rfl rfl h0 (Nat.lt_of_lt_of_eq (show x.toNat < 256 by omega) rfl) rfl rfl (fun b hb=>?_)
 repeat refine aD ?_
 refine bF (by first|exact .inl rfl|exact .inr rfl) rfl rfl _ _ bN bR (⟨rfl,rfl,_,rfl⟩)
theorem aEP {x:Int} (h0:0≤x) (h1:x < 256):CD Try.prog 48 [.int .u64 x] X w0 M0 I0 (fun v M I=>M0=M∧I0=I∧∃r:Int,v= .int .i64 r):=by
 refine eZ Try.func48 rfl Try.ntmps48 rfl ?_
 repeat refine aD ?_
 (refine dS rfl (aGR h0 h1) ?_;rintro _ _ _ ⟨rfl,rfl,r,rfl⟩;refine cK ?_)
 repeat refine aD ?_
 refine lL rfl rfl (⟨rfl,rfl,r,rfl⟩)
end
end Go.Proofs.Ytejbgkajdomgcaa
