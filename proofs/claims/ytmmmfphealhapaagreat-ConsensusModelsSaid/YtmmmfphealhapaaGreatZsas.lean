/- Elimination of lists of rows is elimination of numbers. -/
import Derived.Test.YtmmmfphealhapaaGreatZsar
import Derived.Test.YtmmmfphealhapaaGreatZsao
import Derived.Test.YtmmmfphealhapaaGreatZsaq
set_option linter.unusedSimpArgs false
set_option linter.unusedVariables false
set_option maxRecDepth 100000
set_option maxHeartbeats 4000000
namespace Go.Proofs.YtmmmfphealhapaaGreat
open Go Go.Fx
def qG (A:Mt) (R C:Nat):Prop:=A.length=R∧∀i,i < R→(rowAt A i).length=C
theorem rowAt_set {A:Mt} {i a:Nat} {l:List Rat} (hi:i < A.length):rowAt (A.set i l) a=if a=i then l else rowAt A a:=by
 unfold rowAt
 simp only [List.getD,List.getElem?_set]
 by_cases e:a=i
 ·subst e;simp [hi]
 ·have e':¬i=a:=fun h=>e h.symm
  simp [e,e']
theorem aGA {A:Mt} {a:Nat} {f:Nat→List Rat→List Rat} (h:a < A.length):rowAt (A.mapIdx f) a=f a (rowAt A a):=by
 simp [rowAt,List.getD,h]
theorem rP {A:Mt} {R C r k a:Nat} (h:qG A R C) (hr:r < R) (hk:k < R):rowAt (swp A r k) a=rowAt A (tr r k a):=by
 unfold swp
 rw [rowAt_set (by rw [List.length_set,h.1];exact hk),rowAt_set (by rw [h.1];exact hr)]
 simp only [tr]
 by_cases e1:a=k
 ·subst e1
  rw [if_pos rfl]
  by_cases e2:a=r
  ·rw [if_pos e2,e2]
  ·rw [if_neg e2,if_pos rfl]
 ·rw [if_neg e1,if_neg e1]
  by_cases e2:a=r
  ·rw [if_pos e2,if_pos e2]
  ·rw [if_neg e2,if_neg e2]
theorem aJD {A:Mt} {R C r k:Nat} (h:qG A R C) (hr:r < R) (hk:k < R):qG (swp A r k) R C:=
 ⟨by unfold swp;rw [List.length_set,List.length_set];exact h.1,fun i hi=>by rw [rP h hr hk];exact h.2 _ (zY hr hk hi)⟩
theorem wI {l:List Rat} {f:Nat→Rat→Rat} {c:Nat} (h:c < l.length):(l.mapIdx f).getD c 0=f c (l.getD c 0):=by
 simp [List.getD,h]
theorem aDW {B:Mt} {r j a:Nat} {pr:List Rat} (h:a < B.length):rowAt (xE B r j pr) a=if a=r then rowAt B a else if (rowAt B a).getD j 0=0 then rowAt B a else kE j ((rowAt B a).getD j 0) pr (rowAt B a):=by
 unfold xE
 rw [aGA h]
theorem aWW {A:Mt} {R C r j x:Nat} (h:qG A R C) (hr:r < R) (hx:x < R):qG (vW A r j x) R C:=by
 have hs:=aJD (r:=r) (k:=x) h hr hx
 unfold vW
 refine ⟨by unfold xE;rw [List.length_mapIdx,List.length_set];exact hs.1,fun i hi=>?_⟩
 have hb:rowAt ((swp A r x).set r (iY j (1 / at2 (swp A r x) r j) (rowAt (swp A r x) r))) i=if i=r then iY j (1 / at2 (swp A r x) r j) (rowAt (swp A r x) r) else rowAt (swp A r x) i:=rowAt_set (by rw [hs.1];exact hr)
 rw [aDW (by rw [List.length_set,hs.1];exact hi),hb]
 by_cases e:i=r
 ·rw [if_pos e,if_pos e];simp only [iY,List.length_mapIdx];exact hs.2 r hr
 ·rw [if_neg e,if_neg e]
  split
  ·exact hs.2 i hi
  ·simp only [kE,List.length_mapIdx];exact hs.2 i hi
theorem aJM {A:Mt} {R C r j x:Nat} (h:qG A R C) (hr:r < R) (hx:x < R) (hj:j < C) (hz:∀b,b < j→at2 A x b=0):∀a b,a < R→b < C→
  at2 (vW A r j x) a b=elm r x (1 / at2 A x j) (fun a=>at2 A (tr r x a) j) (at2 A) a b:=by
 intro a b ha hb
 have hs:=aJD (r:=r) (k:=x) h hr hx
 have hat:∀i c,at2 (swp A r x) i c=at2 A (tr r x i) c:=fun i c=>by unfold at2;rw [rP h hr hx]
 have htr:tr r x r=x:=by simp [tr]
 have hrow:(rowAt (swp A r x) r)=rowAt A x:=by rw [rP h hr hx,htr]
 have hκ:at2 (swp A r x) r j=at2 A x j:=by rw [hat,htr]
 obtain ⟨κ,hk⟩:∃κ,κ=1 / at2 A x j:=⟨_,rfl⟩
 rw [←hk]
 have hpr:∀c,c < C→(iY j κ (rowAt A x)).getD c 0=κ*at2 A x c:=fun c hc=>by
  unfold iY
  rw [wI (by rw [h.2 x hx];exact hc)]
  by_cases e:c < j
  ·rw [if_pos e]
   have:=hz c e
   rw [this]
   unfold at2 at this
   rw [this];grind
  ·rw [if_neg e];rfl
 have e1:at2 (vW A r j x) a b=(rowAt (vW A r j x) a).getD b 0:=rfl
 rw [e1]
 unfold vW
 rw [hκ,hrow,←hk]
 have hbb:rowAt ((swp A r x).set r (iY j κ (rowAt A x))) a=if a=r then iY j κ (rowAt A x) else rowAt (swp A r x) a:=rowAt_set (by rw [hs.1];exact hr)
 rw [aDW (by rw [List.length_set,hs.1];exact ha),hbb]
 simp only [elm,htr]
 by_cases e:a=r
 ·rw [if_pos e,if_pos e,if_pos e];exact hpr b hb
 ·rw [if_neg e,if_neg e,if_neg e,rP h hr hx]
  have hc:(rowAt A (tr r x a)).getD j 0=at2 A (tr r x a) j:=rfl
  rw [hc]
  by_cases e0:at2 A (tr r x a) j=0
  ·rw [if_pos e0,e0]
   show at2 A (tr r x a) b=_
   grind
  ·rw [if_neg e0]
   unfold kE
   rw [wI (by rw [h.2 _ (zY hr hx ha)];exact hb)]
   show (if b < j then at2 A (tr r x a) b else at2 A (tr r x a) b - _)=_
   by_cases ej:b < j
   ·rw [if_pos ej,hz b ej];grind
   ·rw [if_neg ej,hpr b hb]
theorem yP {A:Mt} {j:Nat}:∀(f k:Nat),k+f=A.length→∀i,k≤i→i < lN A j f k→at2 A i j=0
 |0,k,_,i,h1,h2=>by simp [lN] at h2;omega
 |f+1,k,h,i,h1,h2=>by
  unfold lN at h2
  by_cases hc:k < A.length∧at2 A k j=0
  ·rw [if_pos hc] at h2
   by_cases e:i=k
   ·subst e;exact hc.2
   ·exact yP f (k+1) (by omega) i (by omega) h2
  ·rw [if_neg hc] at h2;omega
theorem iJ {A:Mt} {R C:Nat} (h:qG A R C):∀n,n≤C→qG (eP A n).1 R C∧∃s,Red R C n (at2 A) (at2 (eP A n).1) (eP A n).2 s
 |0,_=>⟨h,1,Red.start⟩
 |n+1,hn=>by
  obtain ⟨hd,s,hr⟩:=iJ h n (by omega)
  rw [uJ]
  generalize eP A n=st at hd hr
  obtain ⟨B,pv⟩:=st
  simp only at hd hr
  have hlen:=hr.len
  obtain ⟨f1,f2,f3⟩:=aAD (A:=B) (j:=n) (B.length - pv.length) pv.length (by rw [hd.1];omega)
  have f4:=yP (A:=B) (j:=n) (B.length - pv.length) pv.length (by rw [hd.1];omega)
  unfold aNK
  simp only
  generalize lN B n (B.length - pv.length) pv.length=x at f1 f2 f3 f4
  by_cases hx:x < B.length
  ·rw [if_pos hx]
   rw [hd.1] at hx
   refine ⟨aWW hd (by omega) hx,_,hr.step (x:=x) (by omega) f1 hx (f3 (by rw [hd.1];exact hx)) (aJM hd (by omega) hx (by omega) (fun b hb=>hr.zero x b f1 hx hb))⟩
  ·rw [if_neg hx]
   exact ⟨hd,s,hr.none (fun i h1 h2=>f4 i h1 (by rw [hd.1] at hx;omega))⟩
def vY (pv:List Nat) (z:Nat→Rat):Nat→Rat:=fun j=>if j∈pv then 0 else z j
theorem pQ {pv:List Nat} {i:Nat} (h:i < pv.length):pv.getD i 0=pv[i]:=by simp [List.getD,h]
theorem jQ {pv:List Nat} {j:Nat}:j∈pv↔∃t,t < pv.length∧pv.getD t 0=j:=by
 rw [List.mem_iff_getElem]
 constructor
 ·rintro ⟨t,ht,e⟩;exact ⟨t,ht,by simp [List.getD,ht,e]⟩
 ·rintro ⟨t,ht,e⟩;exact ⟨t,ht,by simpa [List.getD,ht] using e⟩
theorem Red.piv_lt {R C j:Nat} {f0 f:Nat→Nat→Rat} {pv:List Nat} {s:Rat} (h:Red R C j f0 f pv s) {t:Nat} (ht:t < pv.length):pv.getD t 0 < j:=(h.inc t ht).1
theorem Red.piv_inj {R C j:Nat} {f0 f:Nat→Nat→Rat} {pv:List Nat} {s:Rat} (h:Red R C j f0 f pv s) {t u:Nat} (ht:t < pv.length) (hu:u < pv.length) (e:pv.getD t 0=pv.getD u 0):t=u:=by
 rcases Nat.lt_trichotomy t u with l|l|l
 ·have:=(h.inc u hu).2.2 t l;omega
 ·exact l
 ·have:=(h.inc t ht).2.2 u l;omega
theorem Red.row {R C:Nat} {f0 f:Nat→Nat→Rat} {pv:List Nat} {s:Rat} (h:Red R C C f0 f pv s) {t:Nat} (ht:t < pv.length) (z:Nat→Rat):sm C (fun j=>f t j*z j)=z (pv.getD t 0)+sm C (fun j=>f t j*vY pv z j):=by
 have hR:=h.len
 have h1:sm C (fun j=>f t j*z j)=sm C (fun j=>(f t j*z j - f t j*vY pv z j)+f t j*vY pv z j):=bC (fun j _=>by grind)
 rw [h1,aHU]
 congr 1
 rw [pI (p:=pv.getD t 0) (h.piv_lt ht) (fun j hj hne=>?_)]
 ·have hm:pv.getD t 0∈pv:=jQ.2 ⟨t,ht,rfl⟩
  rw [h.unit t t ht (by omega)]
  simp only [vY,if_pos hm,nU,if_true];grind
 ·by_cases hm:j∈pv
  ·obtain ⟨u,hu,rfl⟩:=jQ.1 hm
   have:t≠u:=fun e=>hne (by rw [e])
   rw [h.unit u t hu (by omega)]
   simp only [nU,if_neg this];grind
  ·simp only [vY,if_neg hm];grind
theorem Red.kerE {R C:Nat} {f0 f:Nat→Nat→Rat} {pv:List Nat} {s:Rat} (h:Red R C C f0 f pv s) (z:Nat→Rat):Go.Proofs.YtmmmfphealhapaaGreat.ker R C f0 z↔∀t,t < pv.length→z (pv.getD t 0)+sm C (fun j=>f t j*vY pv z j)=0:=by
 rw [←h.ker z]
 constructor
 ·intro hk t ht
  rw [←h.row ht z];exact hk t (by have:=h.len;omega)
 ·intro hk i hi
  by_cases e:i < pv.length
  ·rw [h.row e z];exact hk i e
  ·exact lJ (fun j hj=>by rw [h.zero i j (by omega) hi hj];grind)
theorem hom {m n:Nat} (g:Nat→Nat→Rat) (hmn:m < n):∃w:Nat→Rat,(∀e,e < m→sm n (fun u=>g e u*w u)=0)∧∃u,u < n∧w u≠0:=by
 obtain ⟨_,s,h⟩:=iJ (A:=(List.range m).map (fun i=>(List.range n).map (g i))) (R:=m) (C:=n) ⟨by simp,fun i hi=>by simp [rowAt,List.getD,hi]⟩ n (Nat.le_refl _)
 generalize eP ((List.range m).map (fun i=>(List.range n).map (g i))) n=st at h
 obtain ⟨E,pv⟩:=st
 simp only at h
 have hg:∀i j,i < m→j < n→at2 ((List.range m).map (fun i=>(List.range n).map (g i))) i j=g i j:=fun i j hi hj=>by simp [at2,rowAt,List.getD,hi,hj]
 have hlen:=h.len
 -- a free place
 have hfree:∃j,j < n∧j ∉ pv:=by
  refine Classical.byContradiction (fun hno=>?_)
  have hall:∀j,j < n→j∈pv:=fun j hj=>Classical.byContradiction (fun hn=>hno ⟨j,hj,hn⟩)
  have:(List.range n).length≤pv.length:=by
   have hsub:∀x∈List.range n,x∈pv:=fun x hx=>hall x (List.mem_range.1 hx)
   exact List.Nodup.length_le_of_subset List.nodup_range hsub
  simp at this;omega
 obtain ⟨j,hj,hjp⟩:=hfree
 refine ⟨fun c=>if c∈pv then - at2 E (pv.idxOf c) j else if c=j then 1 else 0,?_,j,hj,by simp only [if_neg hjp,if_true];decide⟩
 have hk:ker m n (at2 ((List.range m).map (fun i=>(List.range n).map (g i)))) (fun c=>if c∈pv then - at2 E (pv.idxOf c) j else if c=j then 1 else 0):=by
  rw [h.kerE]
  intro t ht
  have hm:pv.getD t 0∈pv:=jQ.2 ⟨t,ht,rfl⟩
  have hidx:pv.idxOf (pv.getD t 0)=t:=by
   have h1:pv.idxOf (pv.getD t 0) < pv.length:=List.idxOf_lt_length_of_mem hm
   refine h.piv_inj h1 ht ?_
   have:=List.getElem_idxOf h1
   exact (pQ h1).trans this
  simp only [if_pos hm,hidx]
  rw [pI (p:=j) hj (fun c hc hne=>?_)]
  ·simp only [vY,if_neg hjp,if_true];grind
  ·simp only [vY]
   by_cases e:c∈pv
   ·rw [if_pos e];grind
   ·rw [if_neg e,if_neg e,if_neg hne];grind
 intro e he
 refine Eq.trans (bC (fun u hu=>?_)) (hk e he)
 rw [hg e u he hu]
theorem aZF {R C n:Nat} {f:Nat→Nat→Rat} {Z:Nat→Nat→Rat} {d:Nat→Rat} (h:∀i,i < n→ker R C f (Z i)):ker R C f (fun j=>sm n (fun i=>d i*Z i j)):=fun t ht=>by
 have h1:sm C (fun j=>f t j*sm n (fun i=>d i*Z i j))=sm C (fun j=>sm n (fun i=>d i*(f t j*Z i j))):=bC (fun j _=>by rw [←jF];exact bC (fun i _=>by grind))
 rw [h1,sU]
 exact lJ (fun i hi=>by rw [jF,h i hi t ht];grind)
theorem bAF {R C:Nat} {f:Nat→Nat→Rat} {x y:Nat→Rat} {c d:Rat} (hx:ker R C f x) (hy:ker R C f y):ker R C f (fun j=>c*x j+d*y j):=fun t ht=>by
 have:∀j,f t j*(c*x j+d*y j)=c*(f t j*x j)+d*(f t j*y j):=fun j=>by grind
 simp only [this]
 rw [aEW,hx t ht,hy t ht];grind
theorem Red.count {R C m k:Nat} {f0 f:Nat→Nat→Rat} {pv:List Nat} {s:Rat} (h:Red R C C f0 f pv s) (g:Nat→Nat→Rat) (Z:Nat→Nat→Rat)
  (hg:∀z,Go.Proofs.YtmmmfphealhapaaGreat.ker m C g z→Go.Proofs.YtmmmfphealhapaaGreat.ker R C f0 z) (hZ:∀i,i < k→Go.Proofs.YtmmmfphealhapaaGreat.ker R C f0 (Z i))
  (hi:∀d:Nat→Rat,Go.Proofs.YtmmmfphealhapaaGreat.ker m C g (fun j=>sm k (fun i=>d i*Z i j))→∀i,i < k→d i=0):pv.length+k≤m:=by
 refine Classical.byContradiction (fun hlt=>?_)
 obtain ⟨p,hp⟩:∃p,p=pv.length:=⟨_,rfl⟩
 rw [←hp] at hlt
 obtain ⟨w,hw,u,hu,hwu⟩:=hom (m:=m) (n:=p+k) (fun e u=>if u < p then g e (pv.getD u 0) else sm C (fun j=>g e j*Z (u - p) j)) (by omega)
 -- the vector
 obtain ⟨x,hx⟩:∃x:Nat→Rat,x=fun j=>sm p (fun t=>w t*nU (pv.getD t 0) j):=⟨_,rfl⟩
 obtain ⟨y,hy⟩:∃y:Nat→Rat,y=fun j=>sm k (fun i=>w (p+i)*Z i j):=⟨_,rfl⟩
 have kx:∀e,sm C (fun j=>g e j*x j)=sm p (fun t=>g e (pv.getD t 0)*w t):=fun e=>by
  have h1:sm C (fun j=>g e j*x j)=sm C (fun j=>sm p (fun t=>w t*(g e j*nU (pv.getD t 0) j))):=bC (fun j _=>by rw [hx,←jF];exact bC (fun i _=>by grind))
  rw [h1,sU]
  refine bC (fun t ht=>?_)
  rw [jF,pI (p:=pv.getD t 0) (h.piv_lt (by omega)) (fun j _ hne=>by simp only [nU];rw [if_neg (fun e=>hne e.symm)];grind)]
  simp only [nU,if_true];grind
 have ky:∀e,sm C (fun j=>g e j*y j)=sm k (fun i=>sm C (fun j=>g e j*Z i j)*w (p+i)):=fun e=>by
  have h1:sm C (fun j=>g e j*y j)=sm C (fun j=>sm k (fun i=>w (p+i)*(g e j*Z i j))):=bC (fun j _=>by rw [hy,←jF];exact bC (fun i _=>by grind))
  rw [h1,sU]
  exact bC (fun i _=>by rw [jF];grind)
 have kg:Go.Proofs.YtmmmfphealhapaaGreat.ker m C g (fun j=>1*x j+1*y j):=fun e he=>by
  have:∀j,g e j*(1*x j+1*y j)=1*(g e j*x j)+1*(g e j*y j):=fun j=>by grind
  simp only [this]
  rw [aEW,kx,ky]
  have:=hw e he
  rw [zA,bC (n:=p) (g:=fun t=>g e (pv.getD t 0)*w t) (fun t ht=>by rw [if_pos ht]),bC (n:=k) (g:=fun i=>sm C (fun j=>g e j*Z i j)*w (p+i)) (fun t _=>by rw [if_neg (by omega),Nat.add_sub_cancel_left])] at this
  grind
 have ky0:Go.Proofs.YtmmmfphealhapaaGreat.ker R C f0 y:=by rw [hy];exact aZF (d:=fun i=>w (p+i)) hZ
 have kx0:Go.Proofs.YtmmmfphealhapaaGreat.ker R C f0 x:=by
  have h1:=bAF (c:=1) (d:= -1) (hg _ kg) ky0
  have e:(fun j=>1*(1*x j+1*y j)+ -1*y j)=x:=by funext j;grind
  rwa [e] at h1
 have hx0:∀t,t < p→x (pv.getD t 0)=w t:=fun t ht=>by
  rw [hx]
  show sm p (fun u=>w u*nU (pv.getD u 0) (pv.getD t 0))=_
  rw [pI (p:=t) ht (fun u hu hne=>by simp only [nU];rw [if_neg (fun e=>hne (h.piv_inj (by omega) (by omega) e))];grind)]
  simp only [nU,if_true];grind
 have hoff:∀j,vY pv x j=0:=fun j=>by
  unfold vY
  by_cases e:j∈pv
  ·rw [if_pos e]
  ·rw [if_neg e,hx]
   exact lJ (fun t ht=>by simp only [nU];rw [if_neg (fun e'=>e (jQ.2 ⟨t,by omega,e'⟩))];grind)
 have hw0:∀t,t < p→w t=0:=fun t ht=>by
  have:=(h.kerE x).1 kx0 t (by omega)
  rw [hx0 t ht,lJ (fun j _=>by rw [hoff j];grind)] at this
  grind
 have hxz:∀j,x j=0:=fun j=>by rw [hx];exact lJ (fun t ht=>by rw [hw0 t ht];grind)
 have kgy:Go.Proofs.YtmmmfphealhapaaGreat.ker m C g (fun j=>sm k (fun i=>w (p+i)*Z i j)):=by
  have e:(fun j=>1*x j+1*y j)=(fun j=>sm k (fun i=>w (p+i)*Z i j)):=by funext j;rw [hxz j,hy];grind
  rwa [e] at kg
 have hd:=hi (fun i=>w (p+i)) kgy
 by_cases e:u < p
 ·exact hwu (hw0 u e)
 ·have:=hd (u - p) (by omega)
  rw [show p+(u - p)=u by omega] at this
  exact hwu this
theorem Red.kerP {R C:Nat} {f0 f:Nat→Nat→Rat} {pv:List Nat} {s:Rat} (h:Red R C C f0 f pv s) (z:Nat→Rat):Go.Proofs.YtmmmfphealhapaaGreat.ker pv.length C f z↔Go.Proofs.YtmmmfphealhapaaGreat.ker R C f0 z:=by
 rw [h.kerE]
 constructor
 ·intro hk t ht;rw [←h.row ht z];exact hk t ht
 ·intro hk t ht;rw [h.row ht z];exact hk t ht
section
variable {R C R':Nat} {f0 f g0 g:Nat→Nat→Rat} {pv qv:List Nat} {s s':Rat}
theorem Red.le (h:Red R C C f0 f pv s) (h':Red R' C C g0 g qv s') (hk:∀z,Go.Proofs.YtmmmfphealhapaaGreat.ker R' C g0 z→Go.Proofs.YtmmmfphealhapaaGreat.ker R C f0 z):pv.length≤qv.length:=by
 have:=h.count (k:=0) g (fun _ _=>0) (fun z hz=>hk z ((h'.kerP z).1 hz)) (fun i hi=>by omega) (fun d _ i hi=>by omega)
 omega
end
def zD (f:Nat→Nat→Rat) (pv:List Nat) (j c:Nat):Rat:=if c∈pv then - f (pv.idxOf c) j else if c=j then 1 else 0
def kR (pv:List Nat) (C:Nat):List Nat:=(List.range C).filter (fun j=>decide (j ∉ pv))
def kZ (E:Mt) (pv:List Nat) (C j:Nat):List Rat:=(List.range C).map (zD (at2 E) pv j)
def aLS (E:Mt) (pv:List Nat) (C:Nat):Mt:=(kR pv C).map (kZ E pv C)
def xY (A:Mt) (C:Nat):Mt:=aLS (eP A C).1 (eP A C).2 C
def rk (A:Mt) (C:Nat):Nat:=(eP A C).2.length
theorem zU {E:Mt} {pv:List Nat} {C j c:Nat} (h:c < C):(kZ E pv C j).getD c 0=zD (at2 E) pv j c:=by simp [kZ,List.getD,h]
theorem Red.idx {R C j:Nat} {f0 f:Nat→Nat→Rat} {pv:List Nat} {s:Rat} (h:Red R C j f0 f pv s) {t:Nat} (ht:t < pv.length):pv.idxOf (pv.getD t 0)=t:=by
 have hm:pv.getD t 0∈pv:=jQ.2 ⟨t,ht,rfl⟩
 have h1:pv.idxOf (pv.getD t 0) < pv.length:=List.idxOf_lt_length_of_mem hm
 exact h.piv_inj h1 ht ((pQ h1).trans (List.getElem_idxOf h1))
theorem Red.idx_lt {pv:List Nat} {c:Nat} (hm:c∈pv):pv.idxOf c < pv.length∧pv.getD (pv.idxOf c) 0=c:=by
 have h1:pv.idxOf c < pv.length:=List.idxOf_lt_length_of_mem hm
 exact ⟨h1,(pQ h1).trans (List.getElem_idxOf h1)⟩
section
variable {R C:Nat} {f0 f:Nat→Nat→Rat} {pv:List Nat} {s:Rat}
theorem Red.null (h:Red R C C f0 f pv s) {j:Nat} (hj:j < C) (hp:j ∉ pv):Go.Proofs.YtmmmfphealhapaaGreat.ker R C f0 (zD f pv j):=by
 rw [h.kerE]
 intro t ht
 have hm:pv.getD t 0∈pv:=jQ.2 ⟨t,ht,rfl⟩
 simp only [zD,if_pos hm,h.idx ht]
 rw [pI (p:=j) hj (fun c hc hne=>?_)]
 ·simp only [vY,zD,if_neg hp,if_true];grind
 ·simp only [vY,zD]
  by_cases e:c∈pv
  ·rw [if_pos e];grind
  ·rw [if_neg e,if_neg e,if_neg hne];grind
theorem Red.nodup (h:Red R C C f0 f pv s):pv.Nodup:=by
 rw [List.nodup_iff_pairwise_ne,List.pairwise_iff_getElem]
 intro i j hi hj hij e
 have:=h.piv_inj (t:=i) (u:=j) hi hj (by rw [pQ hi,pQ hj];exact e)
 omega
theorem aDG (p:Nat→Bool):∀l:List Nat,(l.filter p).length+(l.filter (fun x=> !p x)).length=l.length
 |[]=>rfl
 |x::l=>by
  have ih:=aDG p l
  rw [List.filter_cons,List.filter_cons,List.length_cons]
  cases p x <;>simp <;>omega
theorem Red.free_len (h:Red R C C f0 f pv s):(kR pv C).length+pv.length=C:=by
 have h1:((List.range C).filter (fun j=>decide (j ∉ pv))).length+((List.range C).filter (fun j=> !decide (j ∉ pv))).length=C:=by
  have:=aDG (fun j=>decide (j ∉ pv)) (List.range C)
  rw [List.length_range] at this;omega
 have h2:((List.range C).filter (fun j=> !decide (j ∉ pv))).length=pv.length:=by
  apply Nat.le_antisymm
  ·refine List.Nodup.length_le_of_subset (List.Pairwise.filter _ List.nodup_range) (fun x hx=>?_)
   have:=(List.mem_filter.1 hx).2
   simpa using this
  ·refine List.Nodup.length_le_of_subset h.nodup (fun x hx=>?_)
   obtain ⟨t,ht,rfl⟩:=jQ.1 hx
   refine List.mem_filter.2 ⟨List.mem_range.2 (h.piv_lt ht),by simpa using hx⟩
 unfold kR
 omega
end
/- systems: the right side is the column C of a wider matrix -/
section
variable {R C W:Nat} {f0 f:Nat→Nat→Rat} {pv:List Nat} {s:Rat}
def aWP (f:Nat→Nat→Rat) (pv:List Nat) (C c:Nat):Rat:=if c∈pv then f (pv.idxOf c) C else 0
def aXP (R C:Nat) (f:Nat→Nat→Rat) (pv:List Nat):Prop:=∀i,pv.length≤i→i < R→f i C=0
def aLQ (C:Nat) (x:Nat→Rat) (y:Rat):Nat→Rat:=fun j=>if j < C then x j else if j=C then y else 0
theorem aDB {C W:Nat} (hW:C < W) {g x:Nat→Rat} {y:Rat}:sm W (fun j=>g j*aLQ C x y j)=sm C (fun j=>g j*x j)+g C*y:=by
 obtain ⟨d,rfl⟩:∃d,W=C+1+d:=⟨W - (C+1),by omega⟩
 rw [zA]
 have h1:sm (C+1) (fun j=>g j*aLQ C x y j)=sm C (fun j=>g j*x j)+g C*y:=by
  simp only [sm]
  rw [bC (n:=C) (g:=fun j=>g j*x j) (fun j hj=>by simp only [aLQ,if_pos hj])]
  simp only [aLQ,Nat.lt_irrefl,if_false,if_true]
 have h2:sm d (fun k=>g (C+1+k)*aLQ C x y (C+1+k))=0:=lJ (fun k _=>by
  simp only [aLQ,if_neg (show ¬C+1+k < C by omega),if_neg (show ¬C+1+k=C by omega)];grind)
 rw [h1,h2];grind
theorem Red.rowC (h:Red R W C f0 f pv s) {t:Nat} (ht:t < pv.length) (x:Nat→Rat):sm C (fun j=>f t j*x j)=x (pv.getD t 0)+sm C (fun j=>f t j*vY pv x j):=by
 have hR:=h.len
 have h1:sm C (fun j=>f t j*x j)=sm C (fun j=>(f t j*x j - f t j*vY pv x j)+f t j*vY pv x j):=bC (fun j _=>by grind)
 rw [h1,aHU]
 congr 1
 rw [pI (p:=pv.getD t 0) (h.piv_lt ht) (fun j hj hne=>?_)]
 ·have hm:pv.getD t 0∈pv:=jQ.2 ⟨t,ht,rfl⟩
  rw [h.unit t t ht (by omega)]
  simp only [vY,if_pos hm,nU,if_true];grind
 ·by_cases hm:j∈pv
  ·obtain ⟨u,hu,rfl⟩:=jQ.1 hm
   have:t≠u:=fun e=>hne (by rw [e])
   rw [h.unit u t hu (by omega)]
   simp only [nU,if_neg this];grind
  ·simp only [vY,if_neg hm];grind
theorem Red.sol (h:Red R W C f0 f pv s) (hW:C < W) (x:Nat→Rat):(∀i,i < R→sm C (fun j=>f0 i j*x j)=f0 i C)↔(∀i,i < R→sm C (fun j=>f i j*x j)=f i C):=by
 have k0:Go.Proofs.YtmmmfphealhapaaGreat.ker R W f0 (aLQ C x (-1))↔(∀i,i < R→sm C (fun j=>f0 i j*x j)=f0 i C):=by
  unfold Go.Proofs.YtmmmfphealhapaaGreat.ker
  constructor
  ·intro hk i hi;have:=hk i hi;rw [aDB hW] at this;grind
  ·intro hk i hi;have:=hk i hi;rw [aDB hW];grind
 have k1:Go.Proofs.YtmmmfphealhapaaGreat.ker R W f (aLQ C x (-1))↔(∀i,i < R→sm C (fun j=>f i j*x j)=f i C):=by
  unfold Go.Proofs.YtmmmfphealhapaaGreat.ker
  constructor
  ·intro hk i hi;have:=hk i hi;rw [aDB hW] at this;grind
  ·intro hk i hi;have:=hk i hi;rw [aDB hW];grind
 exact (k0.symm.trans (h.ker _).symm).trans k1
theorem Red.sol_x (h:Red R W C f0 f pv s) (hW:C < W) (ok:aXP R C f pv):∀i,i < R→sm C (fun j=>f0 i j*aWP f pv C j)=f0 i C:=by
 rw [h.sol hW]
 intro i hi
 by_cases e:i < pv.length
 ·rw [h.rowC e]
  have hm:pv.getD i 0∈pv:=jQ.2 ⟨i,e,rfl⟩
  rw [lJ (fun j _=>by
   simp only [vY,aWP]
   by_cases hj:j∈pv
   ·rw [if_pos hj];grind
   ·rw [if_neg hj,if_neg hj];grind)]
  simp only [aWP,if_pos hm,h.idx e];grind
 ·rw [lJ (fun j hj=>by rw [h.zero i j (by omega) hi hj];grind),ok i (by omega) hi]
theorem Red.sol_iff (h:Red R W C f0 f pv s) (hW:C < W):aXP R C f pv↔∃x:Nat→Rat,∀i,i < R→sm C (fun j=>f0 i j*x j)=f0 i C:=by
 constructor
 ·intro ok;exact ⟨_,h.sol_x hW ok⟩
 ·rintro ⟨x,hx⟩ i hp hi
  have:=(h.sol hW x).1 hx i hi
  rw [←this]
  exact lJ (fun j hj=>by rw [h.zero i j hp hi hj];grind)
end
abbrev pvI (q:Option Addr) (pv:List Nat):aM:=aH q (recs eZ (zs pv))
def EchP (A:Mt) (R C k:Nat) (M0:List Ent) (I0:List aM) (v:Value) (M:List Ent) (I:List aM):Prop:=
 M0=M∧∃(m:MX) (pv:List Nat) (q:Option Addr) (c:Nat),v= .tuple #[mv m, .slice q pv.length c, .int .i64 0]∧eP A C=(m.q,pv)∧m.dim R C∧I=pvI q pv::iB m k::I0
def NlP (A:Mt) (C k:Nat) (M0:List Ent) (I0:List aM) (v:Value) (M:List Ent) (I:List aM):Prop:=
 M0=M∧∃m:MX,v= .tuple #[mv m, .int .i64 0]∧m.q=xY A C∧(∀r∈m.rows,r.es.length=C)∧I=iB m k::I0
theorem aIV {pv:List Nat} {j:Nat}:(j:Int)∈zs pv↔j∈pv:=by
 rw [List.mem_map]
 exact ⟨fun ⟨x, hx, e⟩ => by obtain rfl : x = j := by omega
                             exact hx,fun h=>⟨j,h,rfl⟩⟩
theorem bCJ {pv:List Nat} {r:Nat} (h:r < pv.length):gt (zs pv) (r:Int)=((pv.getD r 0:Nat):Int):=by
 rw [dP (by simpa using h)]
 rw [pQ h]
 simp
theorem vE {pv:List Nat} {j:Nat}:kR pv (j+1)=if j∈pv then kR pv j else kR pv j++[j]:=by
 unfold kR
 rw [List.range_succ,List.filter_append]
 by_cases h:j∈pv
 ·rw [if_pos h];simp [h]
 ·rw [if_neg h];simp [h]
theorem aIO {a:MX} {R C:Nat} (h:a.dim R C):qG a.q R C:=⟨by simp [h.1],fun i hi=>by
 rw [aCW (by have:=h.1;omega)];simp [h.row hi]⟩
theorem MX.dim.red {a:MX} {R C:Nat} (h:a.dim R C) {E:Mt} {pv:List Nat} (hr:eP a.q C=(E,pv)):∃s,Red R C C (at2 a.q) (at2 E) pv s:=by
 obtain ⟨_,s,h2⟩:=iJ (aIO h) C (Nat.le_refl _)
 rw [hr] at h2
 exact ⟨s,h2⟩
section
variable {X:List Nat} {w0:World} {M:List Ent} {I:List aM}
theorem Mem.blkL {w:World} {b k:Nat} {es:List RE} {ty:TypeId} (h:Mem X w0 (.blk b (recs eR es) ty::M) I w) (ha:aU es k∈I):Mem X w0 M (iQ ⟨some ⟨b,0,none⟩,es.length,es⟩ k::I) w:=by
 have h1:=h.freezeB .here
 refine (h1.add (φ:=iQ ⟨some ⟨b,0,none⟩,es.length,es⟩ k) ⟨(h1.sl (List.Mem.head _)),(((h1.imm _ (List.Mem.tail _ ha)).2:AllR es k _ w)).go,⟨Nat.le_refl _, .inl (Ok.mk _ _)⟩⟩).inc (.of fun φ hφ=>?_)
 rcases List.mem_cons.1 hφ with rfl|hφ
 ·exact List.Mem.head _
 ·exact List.Mem.tail _ (List.Mem.tail _ hφ)
variable {P:Program} {n:Nat} {Q:Exit→Act→World→Prop} {G:Env}
theorem aZK {ops l:List Oper} {m:Fx.Mode} {b k:Nat} {es:List RE} {ty:TypeId} (ha:aU es k∈I) (h:RD P n ops Q m l G X w0 M (iQ ⟨some ⟨b,0,none⟩,es.length,es⟩ k::I)):RD P n ops Q m l G X w0 (.blk b (recs eR es) ty::M) I:=vX (fun _ hw=>Mem.blkL hw ha) h
theorem aPT {cd:Code} {b k:Nat} {es:List RE} {ty:TypeId} (ha:aU es k∈I) (h:TD P n cd Q G X w0 M (iQ ⟨some ⟨b,0,none⟩,es.length,es⟩ k::I)):TD P n cd Q G X w0 (.blk b (recs eR es) ty::M) I:=aFP (fun _ hw=>Mem.blkL hw ha) h
end
section
variable {X:List Nat} {w0:World} {M0:List Ent} {I0:List aM}
/- reduce, and what it changed is only read from now on -/
/- a matrix made is only read from now on -/
end
def hD (k:Nat):Nat→Nat
 |0=>k
 |n+1=>(n+2)*(k+hD k n+1)
section
variable {X:List Nat} {w0:World} {M0:List Ent} {I0:List aM}
theorem xA {x:Int} (hx:x.natAbs≤1):CD Tryz.prog 150 [.int .i64 x] X w0 M0 I0 (RQ (x:Rat) 0 M0 I0):=by
 have hW:=fun M0 I0=>aFC (X:=X) (w0:=w0) (M0:=M0) (I0:=I0) (x:=x) (by omega) (k:=0) hx
 refine aS Tryz.func150 rfl Tryz.ntmps150 rfl ?_
 refine iH ?_
 refine dS (fun b=>?_)
 repeat refine aB ?_
 (refine aQ rfl (hW _ _) ?_;rintro _ _ _ ⟨rfl,e,rfl,he,rfl⟩;refine aL ?_)
 repeat refine aB ?_
 refine aT (cs:=eR e) (.inl rfl) rfl rfl aA rfl M0 (bW e 0::I0) aF aD ⟨rfl,e,rfl,he,rfl⟩
theorem aTZ {m:MX} {n j k0:Nat} (hn:n≤100) (hd:m.dim (n+1) (n+1)) (hj:j≤n) (hw:iB m k0∈I0):
  CD Tryz.prog 152 [mv m, .int .i64 0, .int .i64 (j:Int)] X w0 M0 I0 (XQ (xC n n (fun i c=>at2 m.q (i+1) (sk j c))) n n k0 M0 I0):=by
 have hl:=hd.1
 refine aX (φ:=aH (m).p (recs eL (m).rows)) (Hv.xsl aA) ?_
 refine gG Tryz.func152 rfl Tryz.ntmps152 rfl ?_
 repeat refine aB ?_
 (refine gX (cs:=recs eL []) ([]) rfl (fun bo=>?_);refine gF (mm:=0) 1 .here rfl (by omega) ?_)
 repeat refine aB ?_
 refine bH (φ:=dX [] k0) Hv.nilL ?_
 refine bX [0,1,2] rfl (fun k G M I=>∃(i:Nat) (rs:List RL) (q:Option Addr) (c:Nat),i≤n+1∧k=n+1 - i∧rs.length=i - 1∧(∀r∈rs,r.es.length=n)∧rs.map RL.q=(List.range (i - 1)).map (fun t=>(List.range n).map (fun c=>at2 m.q (t+1) (sk j c)))∧G=[(7, .slice q rs.length c),(8, .int .i64 i)]∧M= .row q rs.length c (recs eL rs) 70 1::M0∧I=dX rs k0::aH m.p (recs eL m.rows)::I0) (n+1) _ _ _ dE aF aD (⟨0,[],_,_,by omega,rfl,rfl,by simp,rfl,rfl,rfl,rfl⟩) ?_
 rintro kk G M I ⟨i,rs,q,c,hi,rfl,hrl,hrc,hrq,rfl,rfl,rfl⟩
 by_cases hin:i < n+1
 ·by_cases hi0:i=0
  ·subst hi0
   repeat refine aB ?_
   refine gJ (n+1 - (0+1)) (⟨0+1,rs,q,c,by omega,rfl,hrl,hrc,hrq,rfl,rfl,rfl⟩)
  ·have hrow:=hd.row hin
   refine bH (φ:=aH (gt (m).rows (i:Int)).p (recs eR (gt (m).rows (i:Int)).es)) (Hv.xrsl aA (by omega)) ?_
   repeat refine aB ?_
   (refine gX (cs:=recs eR []) ([]) rfl (fun bl=>?_);refine gF (mm:=0) 4 .here rfl (by omega) ?_)
   repeat refine aB ?_
   refine bH (φ:=aU [] k0) Hv.nilR ?_
   refine bX [0,1,2,7,8] rfl (fun k G M I=>∃(u:Nat) (es:List RE) (ql:Option Addr) (cl:Nat),u≤n+1∧k=n+1 - u∧es.length=(if u≤j then u else u - 1)∧qs es=(List.range (if u≤j then u else u - 1)).map (fun c=>at2 m.q i (sk j c))∧G=[(9, .slice ql es.length cl),(10, .int .i64 u)]∧M= .row ql es.length cl (recs eR es) 77 4:: .row q rs.length c (recs eL rs) 70 1::M0∧I=aU es k0::aH (gt m.rows (i:Int)).p (recs eR (gt m.rows (i:Int)).es)::dX rs k0::aH m.p (recs eL m.rows)::I0) (n+1) _ _ _ dE aF aD (⟨0,[],_,_,by omega,rfl,by simp,by simp,rfl,rfl,rfl⟩) ?_
   rintro kk G M I ⟨u,es,ql,cl,hu,rfl,hel,heq,rfl,rfl,rfl⟩
   have hel2:es.length≤n+1:=by rw [hel];split <;>omega
   by_cases hun:u < n+1
   ·by_cases huj:u=j
    ·repeat refine aB ?_
     refine gJ (n+1 - (u+1)) (⟨u+1,es,ql,cl,by omega,rfl,?_,?_,rfl,rfl,rfl⟩)
     ·rw [hel,if_pos (by omega),if_neg (by omega)];omega
     ·rw [heq,if_pos (by omega),if_neg (by omega),Nat.add_sub_cancel]
    ·repeat refine aB ?_
     refine cK (φ:=bW (gt (gt m.rows (i:Int)).es (u:Int)) k0) (Hv.xel aA (by omega) (by omega)) ?_
     refine gX (cs:=recs eR [gt (gt m.rows (i:Int)).es (u:Int)]) ([rv (gt (gt m.rows (i:Int)).es (u:Int))]) rfl (fun b=>?_)
     refine wB (ys:=[gt (gt m.rows (i:Int)).es (u:Int)]) 1 rfl rfl rfl (fun q2 c2=>?_)
     repeat refine aB ?_
     refine dF (φ:=aU (es++[gt (gt m.rows (i:Int)).es (u:Int)]) k0) (Hv.snoc aA aA) ?_
     refine gJ (n+1 - (u+1)) (⟨u+1,es++[gt (gt m.rows (i:Int)).es (u:Int)],q2,c2,by omega,rfl,?_,?_,rfl,rfl,rfl⟩)
     ·rw [List.length_append,hel,List.length_singleton]
      by_cases h1:u≤j
      ·rw [if_pos h1,if_pos (by omega)]
      ·rw [if_neg h1,if_neg (by omega)];omega
     ·have hat:=qP (m:=m) (i:=i) (j:=u) (by omega) (by omega)
      show (es++[_]).map RE.q=_
      rw [List.map_append]
      show qs es++[(gt (gt m.rows (i:Int)).es (u:Int)).q]=_
      rw [heq,←hat]
      by_cases h1:u≤j
      ·rw [if_pos h1,if_pos (by omega),List.range_succ,List.map_append]
       simp [sk,show u < j by omega]
      ·rw [if_neg h1,if_neg (by omega),show u+1 - 1=(u - 1)+1 by omega,List.range_succ,List.map_append]
       simp [sk,show ¬u - 1 < j by omega,show u - 1+1=u by omega]
   ·obtain rfl:u=n+1:=by omega
    rw [if_neg (by omega)] at hel heq
    repeat refine aB ?_
    refine aHM aA ?_
    refine gX (cs:=recs eL [(⟨ql,cl,es⟩:RL)]) ([lv (⟨ql,cl,es⟩:RL)]) rfl (fun b=>?_)
    refine wB (ys:=[(⟨ql,cl,es⟩:RL)]) 1 rfl rfl rfl (fun q2 c2=>?_)
    repeat refine aB ?_
    refine dF (φ:=dX (rs++[(⟨ql,cl,es⟩:RL)]) k0) (Hv.snocL aA aA) ?_
    refine gJ (n+1 - (i+1)) (⟨i+1,rs++[(⟨ql,cl,es⟩:RL)],q2,c2,by omega,rfl,?_,?_,?_,rfl,rfl,rfl⟩)
    ·rw [List.length_append,hrl,List.length_singleton];omega
    ·intro r hr
     rcases List.mem_append.1 hr with h|h
     ·exact hrc r h
     ·rw [List.mem_singleton.1 h];exact hel
    ·rw [aXX,hrq,show i+1 - 1=(i - 1)+1 by omega,List.range_succ,List.map_append]
     show _++[qs es]=_
     rw [heq]
     simp [show i - 1+1=i by omega]
 ·obtain rfl:i=n+1:=by omega
  repeat refine aB ?_
  refine aDZ aA ?_
  refine iA rfl rfl (⟨rfl,⟨q,c,rs⟩,rfl,hrq,⟨hrl,hrc⟩,rfl⟩)
theorem aQS:∀(n:Nat) {M0:List Ent} {I0:List aM} {m:MX} {k0:Nat},1≤n→n≤100→hD k0 n≤50000000000→m.dim n n→iB m k0∈I0→CD Tryz.prog 75 [mv m] X w0 M0 I0 (RQ (dt n (at2 m.q)) (hD k0 n) M0 I0)
 |0,_,_,_,_,h,_,_,_,_=>by omega
 |1,M0,I0,m,k0,_,_,hK,hd,hw=>by
  have hl:=hd.1
  have hrow:(gt m.rows 0).es.length=1:=hd.row (i:=0) (by omega)
  have hKK:2*(k0+k0+1)≤50000000000:=hK
  refine aX (φ:=aH (m).p (recs eL (m).rows)) (Hv.xsl aA) ?_
  refine aX (φ:=aH (gt (m).rows 0).p (recs eR (gt (m).rows 0).es)) (Hv.xrsl aA (by omega)) ?_
  refine aS Tryz.func75 rfl Tryz.ntmps75 rfl ?_
  refine iH ?_
  refine dS (fun b2=>?_)
  repeat refine aB ?_
  refine dF (φ:=bW (gt (gt m.rows 0).es 0) k0) (Hv.xel aA (by omega) (by omega)) ?_
  refine dF (φ:=bW (gt (gt m.rows 0).es 0) (hD k0 1)) (Hv.q (k:=k0) (List.Mem.head _) (by show k0≤2*(k0+k0+1);omega)) ?_
  refine aT (cs:=eR (gt (gt m.rows 0).es 0)) (.inl rfl) rfl rfl aA rfl M0 (bW (gt (gt m.rows 0).es 0) (hD k0 1)::I0) aF aD ⟨rfl,_,rfl,?_,rfl⟩
  have hat:at2 m.q 0 0=(gt (gt m.rows 0).es 0).q:=qP (m:=m) (i:=0) (j:=0) (by omega) (by show 0 < (gt m.rows 0).es.length;omega)
  show (gt (gt m.rows 0).es 0).q=0+sgd 0*at2 m.q 0 0*1
  rw [hat]
  simp only [sgd]
  grind
 |n+2,M0,I0,m,k0,_,hn,hK,hd,hw=>by
  have hl:=hd.1
  have hrow:(gt m.rows 0).es.length=n+2:=hd.row (i:=0) (by omega)
  obtain ⟨hh,hhe⟩:∃hh,hh=hD k0 (n+1):=⟨_,rfl⟩
  have hKe:hD k0 (n+2)=(n+3)*(k0+hh+1):=by rw [hhe];rfl
  rw [hKe] at hK ⊢
  obtain ⟨c,hc⟩:∃c,c=k0+hh+1:=⟨_,rfl⟩
  rw [←hc] at hK ⊢
  have hc1:c≤50000000000:=Nat.le_trans (Nat.le_mul_of_pos_left c (by omega)) hK
  have ih:=fun (m':MX) M0 I0 h1 h2=>aQS (n+1) (M0:=M0) (I0:=I0) (m:=m') (k0:=k0) (by omega) (by omega) (by omega) h1 h2
  rw [←hhe] at ih
  have hW:=fun M0 I0=>xA (X:=X) (w0:=w0) (M0:=M0) (I0:=I0) (x:=0) (by decide)
  have hMi:=fun (t:Nat) M0 I0 ht h2=>aTZ (X:=X) (w0:=w0) (M0:=M0) (I0:=I0) (m:=m) (n:=n+1) (j:=t) (k0:=k0) (by omega) hd ht h2
  refine aX (φ:=aH (m).p (recs eL (m).rows)) (Hv.xsl aA) ?_
  refine aX (φ:=aH (gt (m).rows 0).p (recs eR (gt (m).rows 0).es)) (Hv.xrsl aA (by omega)) ?_
  refine aS Tryz.func75 rfl Tryz.ntmps75 rfl ?_
  refine iH ?_
  refine dS (fun b2=>?_)
  repeat refine aB ?_
  (refine aQ rfl (hW _ _) ?_;rintro _ _ _ ⟨rfl,s0,rfl,hs0,rfl⟩;refine aL ?_)
  repeat refine aB ?_
  refine dS (fun b3=>?_)
  repeat refine aB ?_
  refine lV [0,2,3] rfl (fun k G M I=>∃(t:Nat) (s:RE),t≤n+2∧k=n+2 - t∧s.q=sm t (fun j=>sgd j*at2 m.q 0 j*dt (n+1) (fun i c=>at2 m.q (i+1) (sk j c)))∧G=[(4, .int .i64 t)]∧M= .blk b3 (eR s) 77:: .blk b2 [.bool false, .slice none 0 0, .bool false, .slice none 0 0] 77::M0∧I=bW s (t*c)::aH (gt m.rows 0).p (recs eR (gt m.rows 0).es)::aH m.p (recs eL m.rows)::I0) (n+2) (⟨0,s0,by omega,rfl,hs0,rfl,rfl,by rw [Nat.zero_mul]⟩) ?_
  rintro kk G M I ⟨t,s,ht,rfl,hs,rfl,rfl,rfl⟩
  by_cases htn:t < n+2
  ·have hu2:(t+1)*c=t*c+c:=Nat.succ_mul t c
   have hu3:(t+1)*c≤50000000000:=Nat.le_trans (Nat.mul_le_mul_right c (show t+1≤n+3 by omega)) hK
   have hat:at2 m.q 0 t=(gt (gt m.rows 0).es (t:Int)).q:=qP (m:=m) (i:=0) (j:=t) (by omega) (by show t < (gt m.rows 0).es.length;omega)
   have hEl:∀I,iB m k0∈I→Hv I (bW (gt (gt m.rows 0).es (t:Int)) k0):=fun I h=>Hv.xel h (by omega) (by omega)
   have hS:=fun M0 I0 h=>rQ (X:=X) (w0:=w0) (M0:=M0) (I0:=I0) (e:=gt (gt m.rows 0).es (t:Int)) (k:=k0) (by omega) h
   generalize t*c=u at*
   by_cases hx0:(gt (gt m.rows 0).es (t:Int)).q=0
   ·rw [(nO _).2 hx0] at hS
    repeat refine aB ?_
    refine dK rfl (hS _ _ (hEl _ aA)) ?_
    repeat refine aB ?_
    refine dF (φ:=bW s ((t+1)*c)) (Hv.q (k:=u) aA (by omega)) ?_
    refine gJ (n+2 - (t+1)) (⟨t+1,s,by omega,rfl,?_,rfl,rfl,rfl⟩)
    simp only [sm]
    have hx1:at2 m.q 0 t=0:=by rw [hat];exact hx0
    rw [hs,hx1];grind
   ·have hs0:¬(gt (gt m.rows 0).es (t:Int)).q.num.sign=0:=fun h=>hx0 ((nO _).1 h)
    generalize (gt (gt m.rows 0).es (t:Int)).q.num.sign=sg1 at*
    repeat refine aB ?_
    refine dK rfl (hS _ _ (hEl _ aA)) ?_
    repeat refine aB ?_
    refine nJ (fun G M I=>∃(b5:Nat) (e:RE),e.q=at2 m.q 0 t*dt (n+1) (fun i c=>at2 m.q (i+1) (sk t c))∧G=[(0,mv m),(2, .pointer (some ⟨b2,0,none⟩)),(3, .pointer (some ⟨b3,0,none⟩)),(4, .int .i64 (t:Int)),(5, .pointer (some ⟨b5,0,none⟩))]∧M= .blk b5 (eR e) 77:: .blk b3 (eR s) 77:: .blk b2 [.bool false, .slice none 0 0, .bool false, .slice none 0 0] 77::M0∧I=bW e (k0+hh)::bW s u::aH (gt m.rows 0).p (recs eR (gt m.rows 0).es)::aH m.p (recs eL m.rows)::I0) ?_ ?_
    ·have hfin:∀(y:MX) (e3:RE),y.q=xC (n+1) (n+1) (fun i c=>at2 m.q (i+1) (sk t c))→e3.q=(gt (gt m.rows 0).es (t:Int)).q*dt (n+1) (at2 y.q)→e3.q=at2 m.q 0 t*dt (n+1) (fun i c=>at2 m.q (i+1) (sk t c)):=fun y e3 h1 h2=>by
      rw [h2,hat]
      congr 1
      exact jM (fun i j hi hj=>by rw [h1,tF hi hj])
     ((repeat refine aG ?_);refine pV (.blk b3 (eR s) 77:: .blk b2 [.bool false, .slice none 0 0, .bool false, .slice none 0 0] 77::M0) (bW s u::aH (gt m.rows 0).p (recs eR (gt m.rows 0).es)::aH m.p (recs eL m.rows)::I0) mixed ?_)
     refine dM (fuel:=5) (listed':=#[true,true,true,true,true,true,true,true,false,false,false,false,false]) [0,1,2,3,4,5,6,7] [4,4,4,4,4,3,3,3] aF aD (by kernel_rfl) (by kernel_rfl) rfl rfl ?_
     repeat refine aB ?_
     refine bB (fuel:=4) (i:=8) (j:=11) (by kernel_rfl) ?_ ?_
     ·(refine aQ rfl (hMi t _ _ (by omega) aA) ?_;rintro _ _ _ ⟨rfl,y,rfl,hy,hyd,rfl⟩;refine aL ?_)
      refine bK ?_
      repeat refine aB ?_
      refine bB (fuel:=3) (i:=9) (j:=11) (by kernel_rfl) ?_ ?_
      ·(refine aQ rfl (ih y _ _ hyd aA) ?_;rintro _ _ _ ⟨rfl,e2,rfl,he2,rfl⟩;refine aL ?_)
       refine bK ?_
       repeat refine aB ?_
       refine bB (fuel:=2) (i:=10) (j:=11) (by kernel_rfl) ?_ ?_
       ·(refine aQ rfl (wE (k:=k0) (m:=hh) (by omega) (hEl _ aA) (Hv.mem aA)) ?_;rintro _ _ _ ⟨rfl,e3,rfl,he3,rfl⟩;refine aL ?_)
        refine bK ?_
        refine bL [11,12] [0,0] aF aD (by kernel_rfl) (by kernel_rfl) rfl rfl ?_
        repeat refine aB ?_
        refine dS (fun b5=>?_)
        repeat refine aB ?_
        refine yA ⟨b5,e3,hfin y e3 hy (by rw [he3,he2]),rfl,rfl,rfl⟩
       ·refine dS (fun b5=>?_)
        refine bK ?_
        refine bL [10,12] [0,0] aF aD (by kernel_rfl) (by kernel_rfl) rfl rfl ?_
        repeat refine aB ?_
        (refine aQ rfl (wE (k:=k0) (m:=hh) (by omega) (hEl _ aA) (Hv.mem aA)) ?_;rintro _ _ _ ⟨rfl,e3,rfl,he3,rfl⟩;refine aL ?_)
        repeat refine aB ?_
        refine yA ⟨b5,e3,hfin y e3 hy (by rw [he3,he2]),rfl,rfl,rfl⟩
      ·refine dS (fun b5=>?_)
       refine bK ?_
       refine bL [9,10,12] [0,0,0] aF aD (by kernel_rfl) (by kernel_rfl) rfl rfl ?_
       repeat refine aB ?_
       (refine aQ rfl (ih y _ _ hyd aA) ?_;rintro _ _ _ ⟨rfl,e2,rfl,he2,rfl⟩;refine aL ?_)
       repeat refine aB ?_
       (refine aQ rfl (wE (k:=k0) (m:=hh) (by omega) (hEl _ aA) (Hv.mem aA)) ?_;rintro _ _ _ ⟨rfl,e3,rfl,he3,rfl⟩;refine aL ?_)
       repeat refine aB ?_
       refine yA ⟨b5,e3,hfin y e3 hy (by rw [he3,he2]),rfl,rfl,rfl⟩
     ·refine dS (fun b5=>?_)
      refine bK ?_
      refine bL [8,9,10,12] [0,0,0,0] aF aD (by kernel_rfl) (by kernel_rfl) rfl rfl ?_
      repeat refine aB ?_
      (refine aQ rfl (hMi t _ _ (by omega) aA) ?_;rintro _ _ _ ⟨rfl,y,rfl,hy,hyd,rfl⟩;refine aL ?_)
      repeat refine aB ?_
      (refine aQ rfl (ih y _ _ hyd aA) ?_;rintro _ _ _ ⟨rfl,e2,rfl,he2,rfl⟩;refine aL ?_)
      repeat refine aB ?_
      (refine aQ rfl (wE (k:=k0) (m:=hh) (by omega) (hEl _ aA) (Hv.mem aA)) ?_;rintro _ _ _ ⟨rfl,e3,rfl,he3,rfl⟩;refine aL ?_)
      repeat refine aB ?_
      refine yA ⟨b5,e3,hfin y e3 hy (by rw [he3,he2]),rfl,rfl,rfl⟩
    ·rintro G M I ⟨b5,e,he,rfl,rfl,rfl⟩
     have htm:(t:Int).tmod 2=(t:Int) % 2:=Int.tmod_eq_emod_of_nonneg (by omega)
     by_cases hodd:t % 2=1
     ·repeat refine aB ?_
      (refine aQ rfl (zP (k:=k0+hh) (by omega) (Hv.mem aA)) ?_;rintro _ _ _ ⟨rfl,e4,rfl,he4,rfl⟩;refine aL ?_)
      repeat refine aB ?_
      (refine aQ rfl (aFG (k:=u) (m:=k0+hh) (by omega) (Hv.mem aA) (Hv.mem aA)) ?_;rintro _ _ _ ⟨rfl,e5,rfl,he5,rfl⟩;refine aL ?_)
      repeat refine aB ?_
      refine dF (φ:=bW e5 ((t+1)*c)) (Hv.q (k:=u+(k0+hh)+1) aA (by omega)) ?_
      refine gJ (n+2 - (t+1)) (⟨t+1,e5,by omega,rfl,?_,rfl,rfl,rfl⟩)
      simp only [sm]
      rw [he5,he4,he,hs]
      simp only [sgd,if_neg (show ¬t % 2=0 by omega)]
      grind
     ·repeat refine aB ?_
      (refine aQ rfl (aFG (k:=u) (m:=k0+hh) (by omega) (Hv.mem aA) (Hv.mem aA)) ?_;rintro _ _ _ ⟨rfl,e5,rfl,he5,rfl⟩;refine aL ?_)
      repeat refine aB ?_
      refine dF (φ:=bW e5 ((t+1)*c)) (Hv.q (k:=u+(k0+hh)+1) aA (by omega)) ?_
      refine gJ (n+2 - (t+1)) (⟨t+1,e5,by omega,rfl,?_,rfl,rfl,rfl⟩)
      simp only [sm]
      rw [he5,he,hs]
      simp only [sgd,if_pos (show t % 2=0 by omega)]
      grind
  ·obtain rfl:t=n+2:=by omega
   repeat refine aB ?_
   refine dF (φ:=bW s ((n+3)*c)) (Hv.q (k:=(n+2)*c) aA (Nat.mul_le_mul_right c (by omega))) ?_
   refine aT (cs:=eR s) (.inl rfl) rfl rfl aA rfl M0 (bW s ((n+3)*c)::I0) aF aD ⟨rfl,s,rfl,hs,rfl⟩
end
end Go.Proofs.YtmmmfphealhapaaGreat
