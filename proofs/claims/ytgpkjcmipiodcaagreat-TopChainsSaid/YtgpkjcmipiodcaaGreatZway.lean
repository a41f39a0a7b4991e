/- Determinants, plain: sums, expansion along the first row, what operations on rows do to it -/
import Derived.Test.YtgpkjcmipiodcaaGreatZwaq
import Derived.Test.YtgpkjcmipiodcaaGreatZwav
import Derived.Test.YtgpkjcmipiodcaaGreatZwan
import Derived.Test.YtgpkjcmipiodcaaGreatZwag
set_option linter.unusedSimpArgs false
set_option linter.unusedVariables false
set_option maxRecDepth 100000
set_option maxHeartbeats 4000000
namespace Go.Proofs.YtgpkjcmipiodcaaGreat
def sm:Nat→(Nat→Rat)→Rat
 |0,_=>0
 |n+1,f=>sm n f+f n
theorem gK {n:Nat} {f g:Nat→Rat} (h:∀i,i < n→f i=g i):sm n f=sm n g:=by
 induction n with
 |zero=>rfl
 |succ n ih=>simp only [sm];rw [ih (fun i hi=>h i (by omega)),h n (by omega)]
theorem aGS {n:Nat} {f:Nat→Rat} (h:∀i,i < n→f i=0):sm n f=0:=by
 induction n with
 |zero=>rfl
 |succ n ih=>simp only [sm];rw [ih (fun i hi=>h i (by omega)),h n (by omega)];grind
theorem aVJ {n:Nat} {f g:Nat→Rat}:sm n (fun i=>f i+g i)=sm n f+sm n g:=by
 induction n with
 |zero=>simp only [sm];grind
 |succ n ih=>simp only [sm];rw [ih];grind
theorem wE {n:Nat} {f:Nat→Rat} {c:Rat}:sm n (fun i=>c*f i)=c*sm n f:=by
 induction n with
 |zero=>simp only [sm];grind
 |succ n ih=>simp only [sm];rw [ih];grind
theorem aKU {n:Nat} {f g:Nat→Rat} {c d:Rat}:sm n (fun i=>c*f i+d*g i)=c*sm n f+d*sm n g:=by
 rw [aVJ,wE,wE]
theorem aVN {n m:Nat} {f:Nat→Nat→Rat}:sm n (fun i=>sm m (fun j=>f i j))=sm m (fun j=>sm n (fun i=>f i j)):=by
 induction n with
 |zero=>simp only [sm];rw [aGS (fun _ _=>rfl)]
 |succ n ih=>simp only [sm];rw [ih,←aVJ]
theorem aAS {n p:Nat} {f:Nat→Rat} (hp:p < n) (h:∀i,i < n→i≠p→f i=0):sm n f=f p:=by
 induction n with
 |zero=>omega
 |succ n ih=>
  simp only [sm]
  by_cases e:p=n
  ·subst e
   rw [aGS (fun i hi=>h i (by omega) (by omega))];grind
  ·rw [ih (by omega) (fun i hi hne=>h i (by omega) hne),h n (by omega) (fun e'=>e e'.symm)];grind
def sk (j k:Nat):Nat:=if k < j then k else k+1
theorem aWE {n j:Nat} {g:Nat→Rat} (hj:j≤n):sm (n+1) g=g j+sm n (fun k=>g (sk j k)):=by
 induction n with
 |zero=>
  obtain rfl:j=0:=by omega
  simp only [sm];grind
 |succ n ih=>
  by_cases e:j=n+1
  ·subst e
   have:sm (n+1) (fun k=>g (sk (n+1) k))=sm (n+1) g:=gK (fun i hi=>by simp only [sk];rw [if_pos (by omega)])
   rw [this]
   simp only [sm];grind
  ·have h1:=ih (by omega)
   have h2:sm (n+1) (fun k=>g (sk j k))=sm n (fun k=>g (sk j k))+g (n+1):=by
    simp only [sm]
    have:sk j n=n+1:=by simp only [sk];rw [if_neg (by omega)]
    rw [this]
   rw [h2]
   show sm (n+1) g+g (n+1)=_
   rw [h1];grind
def sgd (j:Nat):Rat:=if j % 2=0 then 1 else -1
def dt:Nat→(Nat→Nat→Rat)→Rat
 |0,_=>1
 |n+1,f=>sm (n+1) (fun j=>sgd j*f 0 j*dt n (fun i k=>f (i+1) (sk j k)))
theorem iY:∀{n:Nat} {f g:Nat→Nat→Rat},(∀i j,i < n→j < n→f i j=g i j)→dt n f=dt n g
 |0,_,_,_=>rfl
 |n+1,f,g,h=>by
  simp only [dt]
  apply gK
  intro j hj
  rw [h 0 j (by omega) hj,iY (n:=n) (f:=fun i k=>f (i+1) (sk j k)) (g:=fun i k=>g (i+1) (sk j k)) (fun i k hi hk=>h _ _ (by omega) (by simp only [sk];split <;>omega))]
def zC (f:Nat→Nat→Rat) (i:Nat) (r:Nat→Rat):Nat→Nat→Rat:=fun a b=>if a=i then r b else f a b
theorem aLM:∀{n:Nat} {f:Nat→Nat→Rat} {i:Nat} {r s:Nat→Rat} {x y:Rat},i < n→dt n (zC f i (fun b=>x*r b+y*s b))=x*dt n (zC f i r)+y*dt n (zC f i s)
 |0,_,_,_,_,_,_,h=>by omega
 |n+1,f,0,r,s,x,y,_=>by
  have hm:∀(t:Nat→Rat) (j:Nat),(fun i k=>zC f 0 t (i+1) (sk j k))=fun i k=>f (i+1) (sk j k):=fun t j=>by
   funext i k;simp only [zC];rw [if_neg (by omega)]
  have h0:∀(t:Nat→Rat) (j:Nat),zC f 0 t 0 j=t j:=fun t j=>by simp [zC]
  simp only [dt,hm,h0]
  rw [←aKU]
  apply gK
  intro j _
  grind
 |n+1,f,i+1,r,s,x,y,h=>by
  have hm:∀(t:Nat→Rat) (j:Nat),(fun a k=>zC f (i+1) t (a+1) (sk j k))=zC (fun a k=>f (a+1) (sk j k)) i (fun k=>t (sk j k)):=fun t j=>by
   funext a k;simp only [zC]
   by_cases e:a=i
   ·rw [if_pos (by omega),if_pos e]
   ·rw [if_neg (by omega),if_neg e]
  have h0:∀(t:Nat→Rat) (j:Nat),zC f (i+1) t 0 j=f 0 j:=fun t j=>by simp only [zC];rw [if_neg (by omega)]
  simp only [dt,hm,h0]
  rw [←aKU]
  apply gK
  intro j _
  rw [aLM (n:=n) (f:=fun a k=>f (a+1) (sk j k)) (i:=i) (r:=fun k=>r (sk j k)) (s:=fun k=>s (sk j k)) (by omega)]
  grind
def swn (f:Nat→Nat→Rat) (i:Nat):Nat→Nat→Rat:=fun a b=>if a=i then f (i+1) b else if a=i+1 then f i b else f a b
def usk (j k:Nat):Nat:=if k < j then k else k - 1
theorem bBC (j k:Nat):usk j (sk j k)=k:=by
 by_cases h:k < j
 ·simp [usk,sk,h]
 ·simp [usk,sk,h,show ¬k+1 < j by omega]
theorem bAA {n j:Nat} {g:Nat→Rat} (hj:j≤n):sm n (fun k=>g (sk j k))=sm (n+1) (fun k=>if k=j then 0 else g k):=by
 rw [aWE (g:=fun k=>if k=j then 0 else g k) hj,if_pos rfl]
 have:sm n (fun k=>(fun k=>if k=j then (0:Rat) else g k) (sk j k))=sm n (fun k=>g (sk j k)):=gK (fun k _=>by
  have:sk j k≠j:=by simp only [sk];split <;>omega
  simp only [if_neg this])
 rw [this];grind
def tw (j k:Nat):Rat:=sgd j*sgd (usk j k)
theorem aJT {j:Nat} (h:0 < j):sgd (j - 1)= - sgd j:=by
 unfold sgd
 by_cases a:j % 2=0
 ·have:¬(j - 1) % 2=0:=by omega
  simp [a,this]
 ·have:(j - 1) % 2=0:=by omega
  simp [a,this]
theorem aWW {j k:Nat} (h:j≠k):tw j k= - tw k j:=by
 unfold tw
 rcases Nat.lt_or_ge k j with h1|h1
 ·have e1:usk j k=k:=by simp [usk,h1]
  have e2:usk k j=j - 1:=by simp [usk,show ¬j < k by omega]
  rw [e1,e2,aJT (by omega)];grind
 ·have e1:usk j k=k - 1:=by simp [usk,show ¬k < j by omega]
  have e2:usk k j=j:=by simp [usk,show j < k by omega]
  rw [e1,e2,aJT (by omega)];grind
theorem bBF {j k l:Nat} (h:j≠k):sk j (sk (usk j k) l)=sk k (sk (usk k j) l):=by
 simp only [sk,usk]
 repeat' split
 all_goals omega
theorem aSW {n:Nat} {f:Nat→Nat→Rat}:dt (n+2) f=sm (n+2) (fun j=>sm (n+2) (fun k=>if k=j then 0 else tw j k*f 0 j*f 1 k*dt n (fun i l=>f (i+2) (sk j (sk (usk j k) l))))):=by
 show sm (n+2) (fun j=>sgd j*f 0 j*dt (n+1) (fun i k=>f (i+1) (sk j k)))=_
 apply gK
 intro j hj
 rw [←bAA (g:=fun k=>tw j k*f 0 j*f 1 k*dt n (fun i l=>f (i+2) (sk j (sk (usk j k) l)))) (by omega)]
 show sgd j*f 0 j*sm (n+1) (fun k=>sgd k*f 1 (sk j k)*dt n (fun i l=>f (i+2) (sk j (sk k l))))=_
 rw [←wE]
 apply gK
 intro k _
 simp only [bBC,tw]
 grind
theorem aTD {n:Nat} {f:Nat→Nat→Rat}:dt (n+2) (swn f 0)= - dt (n+2) f:=by
 rw [aSW,aSW,aVN]
 have e:∀x:Rat, -x= -1*x:=fun x=>by grind
 rw [e,←wE]
 apply gK
 intro j hj
 rw [←wE]
 apply gK
 intro k hk
 by_cases h:j=k
 ·rw [if_pos h,if_pos h.symm];grind
 ·rw [if_neg h,if_neg (fun e=>h e.symm),aWW (j:=k) (k:=j) (fun e=>h e.symm)]
  have h0:swn f 0 0 k=f 1 k:=by simp [swn]
  have h1:swn f 0 1 j=f 0 j:=by simp [swn]
  have h2:(fun i l=>swn f 0 (i+2) (sk k (sk (usk k j) l)))=fun i l=>f (i+2) (sk j (sk (usk j k) l)):=by
   funext i l
   rw [bBF h]
   simp only [swn]
   rw [if_neg (by omega),if_neg (by omega)]
  rw [h0,h1,h2]
  grind
theorem aMD:∀{n i:Nat} {f:Nat→Nat→Rat},i+1 < n→dt n (swn f i)= - dt n f
 |0,_,_,h=>by omega
 |1,_,_,h=>by omega
 |n+2,0,f,_=>aTD
 |n+2,i+1,f,h=>by
  have hm:∀j:Nat,(fun a k=>swn f (i+1) (a+1) (sk j k))=swn (fun a k=>f (a+1) (sk j k)) i:=fun j=>by
   funext a k;simp only [swn]
   by_cases e:a=i
   ·rw [if_pos (by omega),if_pos e]
   ·rw [if_neg (by omega),if_neg e]
    by_cases e2:a=i+1
    ·rw [if_pos (by omega),if_pos e2]
    ·rw [if_neg (by omega),if_neg e2]
  have h0:∀j:Nat,swn f (i+1) 0 j=f 0 j:=fun j=>by simp only [swn];rw [if_neg (by omega),if_neg (by omega)]
  show sm (n+2) (fun j=>sgd j*swn f (i+1) 0 j*dt (n+1) (fun a k=>swn f (i+1) (a+1) (sk j k)))= - sm (n+2) (fun j=>sgd j*f 0 j*dt (n+1) (fun a k=>f (a+1) (sk j k)))
  have e:∀x:Rat, -x= -1*x:=fun x=>by grind
  rw [e,←wE]
  apply gK
  intro j _
  rw [hm,h0,aMD (n:=n+1) (i:=i) (by omega)]
  grind
theorem aZV {n i:Nat} {f:Nat→Nat→Rat} (h:i+1 < n) (he:∀b,f i b=f (i+1) b):dt n f=0:=by
 have h1:=aMD (f:=f) h
 have h2:swn f i=f:=by
  funext a b;simp only [swn]
  by_cases e:a=i
  ·rw [if_pos e,e];exact (he b).symm
  ·rw [if_neg e]
   by_cases e2:a=i+1
   ·rw [if_pos e2,e2];exact he b
   ·rw [if_neg e2]
 rw [h2] at h1
 grind
theorem aLJ:∀{d n p:Nat} {f:Nat→Nat→Rat},p+d+1 < n→(∀b,f p b=f (p+d+1) b)→dt n f=0
 |0,_,_,_,h,he=>aZV h he
 |d+1,n,p,f,h,he=>by
  have h1:=aMD (n:=n) (i:=p+d+1) (f:=f) (by omega)
  have h2:dt n (swn f (p+d+1))=0:=by
   apply aLJ (d:=d) (p:=p) (by omega)
   intro b
   have e1:swn f (p+d+1) p b=f p b:=by simp [swn,show ¬p=p+d+1 by omega,show ¬p=p+d+1+1 by omega]
   have e2:swn f (p+d+1) (p+d+1) b=f (p+d+1+1) b:=by simp [swn]
   rw [e1,e2]
   exact he b
  rw [h2] at h1
  grind
theorem dt_eq {n p q:Nat} {f:Nat→Nat→Rat} (hp:p < n) (hq:q < n) (hpq:p≠q) (he:∀b,f p b=f q b):dt n f=0:=by
 rcases Nat.lt_or_ge p q with h|h
 ·obtain ⟨d,rfl⟩:∃d,q=p+d+1:=⟨q - p - 1,by omega⟩
  exact aLJ hq he
 ·obtain ⟨d,rfl⟩:∃d,p=q+d+1:=⟨p - q - 1,by omega⟩
  exact aLJ hp (fun b=>(he b).symm)
theorem aJL {f:Nat→Nat→Rat} {i:Nat}:zC f i (f i)=f:=by
 funext a b;simp only [zC];split
 ·rename_i h;rw [h]
 ·rfl
theorem wW {n i p:Nat} {f:Nat→Nat→Rat} {c:Rat} (hi:i < n) (hp:p < n) (hne:p≠i):dt n (zC f i (fun b=>f i b+c*f p b))=dt n f:=by
 have h1:=aLM (n:=n) (f:=f) (i:=i) (r:=f i) (s:=f p) (x:=1) (y:=c) hi
 have h2:(fun b=>(1:Rat)*f i b+c*f p b)=fun b=>f i b+c*f p b:=by funext b;grind
 have h3:dt n (zC f i (f p))=0:=dt_eq (p:=p) (q:=i) hp hi hne (fun b=>by simp [zC,hne])
 rw [h2,h3,aJL] at h1
 rw [h1];grind
theorem aDL {n i:Nat} {f:Nat→Nat→Rat} {c:Rat} (hi:i < n):dt n (zC f i (fun b=>c*f i b))=c*dt n f:=by
 have h1:=aLM (n:=n) (f:=f) (i:=i) (r:=f i) (s:=f i) (x:=c) (y:=0) hi
 have h2:(fun b=>c*f i b+0*f i b)=fun b=>c*f i b:=by funext b;grind
 rw [h2,aJL] at h1
 rw [h1];grind
def tr (r k a:Nat):Nat:=if a=r then k else if a=k then r else a
theorem aBL {r k a n:Nat} (hr:r < n) (hk:k < n) (ha:a < n):tr r k a < n:=by simp only [tr];split;assumption;split <;>assumption
theorem aOG {n r k:Nat} {f:Nat→Nat→Rat} (hr:r < n) (hk:k < n) (h:r≠k):dt n (fun a b=>f (tr r k a) b)= - dt n f:=by
 have a1:=wW (n:=n) (i:=r) (p:=k) (f:=f) (c:=1) hr hk (fun e=>h e.symm)
 obtain ⟨f1,hf1⟩:∃f1,f1=zC f r (fun b=>f r b+1*f k b):=⟨_,rfl⟩
 rw [←hf1] at a1
 have a2:=wW (n:=n) (i:=k) (p:=r) (f:=f1) (c:= -1) hk hr h
 obtain ⟨f2,hf2⟩:∃f2,f2=zC f1 k (fun b=>f1 k b+ -1*f1 r b):=⟨_,rfl⟩
 rw [←hf2] at a2
 have a3:=wW (n:=n) (i:=r) (p:=k) (f:=f2) (c:=1) hr hk (fun e=>h e.symm)
 obtain ⟨f3,hf3⟩:∃f3,f3=zC f2 r (fun b=>f2 r b+1*f2 k b):=⟨_,rfl⟩
 rw [←hf3] at a3
 have a4:=aDL (n:=n) (i:=k) (f:=f3) (c:= -1) hk
 have e:zC f3 k (fun b=> -1*f3 k b)=fun a b=>f (tr r k a) b:=by
  funext a b
  simp only [hf3,hf2,hf1,zC,tr]
  have hkr:¬k=r:=fun e=>h e.symm
  by_cases e1:a=k
  ·subst e1
   simp only [if_true,if_neg hkr,if_neg h]
   grind
  ·by_cases e2:a=r
   ·subst e2
    simp only [if_neg h,if_neg hkr,if_true]
    grind
   ·simp only [if_neg e1,if_neg e2]
 rw [e,a3,a2,a1] at a4
 rw [a4];grind
theorem aHK:∀{n:Nat} {f:Nat→Nat→Rat},(∀i,i < n+1→f i 0=0)→dt (n+1) f=0
 |0,f,h=>by simp only [dt,sm];rw [h 0 (by omega)];grind
 |n+1,f,h=>by
  show sm (n+2) (fun j=>sgd j*f 0 j*dt (n+1) (fun i k=>f (i+1) (sk j k)))=0
  apply aGS
  intro j hj
  by_cases e:j=0
  ·subst e;rw [h 0 (by omega)];grind
  ·rw [aHK (n:=n) (fun i hi=>by show f (i+1) (sk j 0)=0;simp only [sk];rw [if_pos (by omega)];exact h _ (by omega))];grind
theorem aJH {n:Nat} {f:Nat→Nat→Rat} (h:∀i,1≤i→i < n+1→f i 0=0):dt (n+1) f=f 0 0*dt n (fun i k=>f (i+1) (k+1)):=by
 show sm (n+1) (fun j=>sgd j*f 0 j*dt n (fun i k=>f (i+1) (sk j k)))=_
 rw [aAS (p:=0) (by omega)]
 ·have:(fun i k=>f (i+1) (sk 0 k))=fun i k=>f (i+1) (k+1):=by
   funext i k;simp only [sk];rw [if_neg (by omega)]
  rw [this]
  have:sgd 0=1:=by simp [sgd]
  rw [this];grind
 ·intro j hj hne
  cases n with
  |zero=>omega
  |succ n=>
   rw [aHK (n:=n) (fun i hi=>by show f (i+1) (sk j 0)=0;simp only [sk];rw [if_pos (by omega)];exact h _ (by omega) (by omega))];grind
theorem aXB {n i:Nat} {f:Nat→Nat→Rat} (hi:i < n) (h:∀j,j < n→f i j=0):dt n f=0:=by
 have h1:=aDL (n:=n) (i:=i) (f:=f) (c:=0) hi
 have h2:dt n (zC f i (fun b=>0*f i b))=dt n f:=iY (fun a b _ hb=>by
  simp only [zC];split
  ·rename_i e;rw [e,h b hb];grind
  ·rfl)
 rw [h2] at h1
 rw [h1];grind
theorem aMS {n r:Nat} {f:Nat→Nat→Rat} {c:Nat→Rat} (hr:r < n):dt n (fun a b=>if a=r then f r b else f a b - c a*f r b)=dt n f:=by
 have step:∀m,m≤n→dt n (fun a b=>if a=r then f r b else if a < m then f a b - c a*f r b else f a b)=dt n f:=by
  intro m
  induction m with
  |zero=>intro _;exact iY (fun a b _ _=>by by_cases e:a=r <;>simp [e])
  |succ m ih=>
   intro hm
   have h1:=ih (by omega)
   by_cases e:m=r
   ·rw [←h1]
    apply iY
    intro a b _ _
    by_cases ea:a=r
    ·rw [if_pos ea,if_pos ea]
    ·rw [if_neg ea,if_neg ea]
     by_cases em:a < m
     ·rw [if_pos em,if_pos (by omega)]
     ·rw [if_neg em,if_neg (by omega)]
   ·obtain ⟨g,hg⟩:∃g:Nat→Nat→Rat,g=fun a b=>if a=r then f r b else if a < m then f a b - c a*f r b else f a b:=⟨_,rfl⟩
    rw [←hg] at h1
    have h2:=wW (n:=n) (i:=m) (p:=r) (f:=g) (c:= - c m) (by omega) hr (fun e'=>e e'.symm)
    rw [h1] at h2
    rw [←h2]
    apply iY
    intro a b _ _
    have hgr:∀b,g r b=f r b:=fun b=>by rw [hg];simp
    have hgm:∀b,g m b=f m b:=fun b=>by rw [hg];simp [e]
    simp only [zC]
    by_cases ea:a=r
    ·subst ea
     rw [if_pos rfl,if_neg (fun e'=>e e'.symm),hgr]
    ·rw [if_neg ea]
     by_cases em:a=m
     ·subst em
      rw [if_pos (by omega),if_pos rfl,hgm,hgr];grind
     ·rw [if_neg em,hg]
      by_cases el:a < m
      ·simp [ea,el,show a < m+1 by omega]
      ·simp [ea,el,show ¬a < m+1 by omega]
 rw [←step n (Nat.le_refl _)]
 apply iY
 intro a b ha _
 by_cases ea:a=r
 ·rw [if_pos ea,if_pos ea]
 ·rw [if_neg ea,if_neg ea,if_pos ha]
def elm (r k:Nat) (κ:Rat) (c:Nat→Rat) (f:Nat→Nat→Rat):Nat→Nat→Rat:=fun a b=>if a=r then κ*f (tr r k r) b else f (tr r k a) b - c a*(κ*f (tr r k r) b)
def esg (r k:Nat):Rat:=if r=k then 1 else -1
theorem bAW {n r k:Nat} {κ:Rat} {c:Nat→Rat} {f:Nat→Nat→Rat} (hr:r < n) (hk:k < n):dt n (elm r k κ c f)=esg r k*κ*dt n f:=by
 obtain ⟨g,hg⟩:∃g:Nat→Nat→Rat,g=fun a b=>f (tr r k a) b:=⟨_,rfl⟩
 have h1:dt n g=esg r k*dt n f:=by
  rw [hg]
  unfold esg
  by_cases e:r=k
  ·subst e
   rw [if_pos rfl,show (fun a b=>f (tr r r a) b)=f by funext a b;simp only [tr];split <;>simp_all];grind
  ·rw [if_neg e,aOG hr hk e];grind
 have h2:=aDL (n:=n) (i:=r) (f:=g) (c:=κ) hr
 obtain ⟨s,hs⟩:∃s,s=zC g r (fun b=>κ*g r b):=⟨_,rfl⟩
 rw [←hs] at h2
 have h3:=aMS (n:=n) (r:=r) (f:=s) (c:=c) hr
 have h4:elm r k κ c f=fun a b=>if a=r then s r b else s a b - c a*s r b:=by
  funext a b
  have hsr:s r b=κ*f (tr r k r) b:=by rw [hs,hg];simp [zC]
  simp only [elm]
  rw [hsr]
  by_cases e:a=r
  ·rw [if_pos e,if_pos e]
  ·rw [if_neg e,if_neg e,hs,hg];simp [zC,e]
 rw [h4,h3,h2,h1];grind
end Go.Proofs.YtgpkjcmipiodcaaGreat
namespace Go.Proofs.YtgpkjcmipiodcaaGreat
def vK (n:Nat) (f g:Nat→Nat→Rat):Nat→Nat→Rat:=fun i j=>sm n (fun k=>f i k*g k j)
def qX (i j:Nat):Rat:=if i=j then 1 else 0
theorem yL {n:Nat} {f f' g g':Nat→Nat→Rat} {i j:Nat} (h1:∀k,k < n→f i k=f' i k) (h2:∀k,k < n→g k j=g' k j):vK n f g i j=vK n f' g' i j:=gK (fun k hk=>by rw [h1 k hk,h2 k hk])
theorem aJQ {n:Nat} {f:Nat→Nat→Rat} {i j:Nat} (hj:j < n):vK n f qX i j=f i j:=by
 unfold vK
 rw [aAS hj (fun k _ hne=>by simp only [qX];rw [if_neg hne];grind)]
 simp only [qX,if_true];grind
theorem aYW (r k a:Nat):tr r k (tr r k a)=a:=by
 simp only [tr]
 repeat' split
 all_goals omega
theorem aNR {n r k:Nat} {κ:Rat} {c:Nat→Rat} {f g:Nat→Nat→Rat}:vK n (elm r k κ c f) g=elm r k κ c (vK n f g):=by
 funext a b
 simp only [vK,elm]
 by_cases e:a=r
 ·simp only [if_pos e]
  rw [←wE]
  exact gK (fun i _=>by grind)
 ·simp only [if_neg e]
  have h1:∀i,(f (tr r k a) i - c a*(κ*f (tr r k r) i))*g i b=1*(f (tr r k a) i*g i b)+(- (c a*κ))*(f (tr r k r) i*g i b):=fun i=>by grind
  simp only [h1]
  rw [aKU];grind
def ker (R C:Nat) (f:Nat→Nat→Rat) (z:Nat→Rat):Prop:=∀i,i < R→sm C (fun j=>f i j*z j)=0
theorem aPE {R C:Nat} {f g:Nat→Nat→Rat} {z:Nat→Rat} (h:∀a b,a < R→b < C→f a b=g a b):ker R C f z↔ker R C g z:=by
 unfold ker
 constructor
 ·intro hk i hi;rw [←hk i hi];exact gK (fun j hj=>by rw [h i j hi hj])
 ·intro hk i hi;rw [←hk i hi];exact gK (fun j hj=>by rw [h i j hi hj])
theorem aVY {R C r k:Nat} {κ:Rat} {c:Nat→Rat} {f:Nat→Nat→Rat} {z:Nat→Rat} (hr:r < R) (hk:k < R) (hκ:κ≠0):ker R C (elm r k κ c f) z↔ker R C f z:=by
 obtain ⟨φ,hφ⟩:∃φ:Nat→Rat,φ=fun i=>sm C (fun j=>f i j*z j):=⟨_,rfl⟩
 have h1:∀a,sm C (fun j=>elm r k κ c f a j*z j)=if a=r then κ*φ (tr r k r) else φ (tr r k a) - c a*(κ*φ (tr r k r)):=fun a=>by
  have:=congrFun (congrFun (aNR (n:=C) (r:=r) (k:=k) (κ:=κ) (c:=c) (f:=f) (g:=fun j _=>z j)) a) 0
  simp only [vK] at this
  rw [this,hφ];rfl
 unfold ker
 constructor
 ·intro hz
  have h0:φ (tr r k r)=0:=by
   have:=hz r hr
   rw [h1,if_pos rfl] at this
   rcases Rat.mul_eq_zero.1 this with e|e
   ·exact absurd e hκ
   ·exact e
  intro i hi
  have hφi:sm C (fun j=>f i j*z j)=φ i:=by rw [hφ]
  rw [hφi]
  by_cases e:tr r k i=r
  ·have:i=tr r k r:=by have:=aYW r k i;rw [e] at this;exact this.symm
   rw [this];exact h0
  ·have:=hz (tr r k i) (aBL hr hk hi)
   rw [h1,if_neg e,aYW,h0] at this
   grind
 ·intro hz i hi
  have hφ0:∀i,i < R→φ i=0:=fun i hi=>by rw [hφ];exact hz i hi
  rw [h1,hφ0 _ (aBL hr hk hr),hφ0 _ (aBL hr hk hi)]
  split <;>grind
structure Red (R C j:Nat) (f0 f:Nat→Nat→Rat) (pv:List Nat) (s:Rat):Prop where
 hs:s≠0
 det:∀m g,m≤C→dt R (vK m f g)=s*dt R (vK m f0 g)
 ker:∀z,ker R C f z↔ker R C f0 z
 len:pv.length≤R
 inc:∀t,t < pv.length→pv.getD t 0 < j∧t≤pv.getD t 0∧∀u,u < t→pv.getD u 0 < pv.getD t 0
 unit:∀t i,t < pv.length→i < R→f i (pv.getD t 0)=qX i t
 zero:∀i b,pv.length≤i→i < R→b < j→f i b=0
theorem Red.start {R C:Nat} {f:Nat→Nat→Rat}:Red R C 0 f f [] 1:=
 ⟨by decide,fun m g _=>by grind,fun z=>Iff.rfl,by simp,fun t ht=>by simp at ht,fun t i ht=>by simp at ht,fun i b _ _ hb=>by omega⟩
theorem Red.none {R C j:Nat} {f0 f:Nat→Nat→Rat} {pv:List Nat} {s:Rat} (h:Red R C j f0 f pv s) (hz:∀i,pv.length≤i→i < R→f i j=0):Red R C (j+1) f0 f pv s:=
 ⟨h.hs,h.det,h.ker,h.len,fun t ht=>⟨by have:=(h.inc t ht).1;omega,(h.inc t ht).2⟩,h.unit,fun i b hi hR hb=>by
  by_cases e:b=j
  ·subst e;exact hz i hi hR
  ·exact h.zero i b hi hR (by omega)⟩
theorem Red.step {R C j x:Nat} {f0 f f':Nat→Nat→Rat} {pv:List Nat} {s:Rat} (h:Red R C j f0 f pv s) (hj:j < C) (hx:pv.length≤x) (hxR:x < R) (hn:f x j≠0)
  (hf:∀a b,a < R→b < C→f' a b=elm pv.length x (1 / f x j) (fun a=>f (tr pv.length x a) j) f a b):Red R C (j+1) f0 f' (pv++[j]) (esg pv.length x*(1 / f x j)*s):=by
 obtain ⟨r,hr⟩:∃r,r=pv.length:=⟨_,rfl⟩
 rw [←hr] at hf hx ⊢
 obtain ⟨κ,hκ⟩:∃κ,κ=1 / f x j:=⟨_,rfl⟩
 have hκ1:κ*f x j=1:=by rw [hκ];grind
 have hκ0:κ≠0:=fun e=>by rw [e] at hκ1;grind
 rw [←hκ] at hf ⊢
 have hrR:r < R:=by omega
 have hes:esg r x≠0:=by unfold esg;split <;>decide
 have htr:tr r x r=x:=by simp [tr]
 have hf1:∀b,b < C→f' r b=κ*f x b:=fun b hb=>by rw [hf r b hrR hb];simp only [elm,if_true,htr]
 have hf2:∀a b,a < R→b < C→a≠r→f' a b=f (tr r x a) b - f (tr r x a) j*(κ*f x b):=fun a b ha hb hne=>by rw [hf a b ha hb];simp only [elm,if_neg hne,htr]
 have hcol:∀i,i < R→f' i j=qX i r:=fun i hi=>by
  by_cases e:i=r
  ·subst e;rw [hf1 j hj,hκ1];simp [qX]
  ·rw [hf2 i j hi hj e,hκ1];simp only [qX,if_neg e];grind
 have hxz:∀b,b < j→f x b=0:=fun b hb=>h.zero x b (by omega) hxR hb
 have hlow:∀i b,i < R→b < j→i≠r→f' i b=f (tr r x i) b:=fun i b hi hb hne=>by
  rw [hf2 i b hi (by omega) hne,hxz b hb];grind
 refine ⟨fun e=>?_,fun m g hm=>?_,fun z=>?_,?_,fun t ht=>?_,fun t i ht hi=>?_,fun i b hi hR hb=>?_⟩
 ·rcases Rat.mul_eq_zero.1 e with e|e
  ·rcases Rat.mul_eq_zero.1 e with e|e
   ·exact hes e
   ·exact hκ0 e
  ·exact h.hs e
 ·have h1:dt R (vK m f' g)=dt R (vK m (elm r x κ (fun a=>f (tr r x a) j) f) g):=iY (fun i k hi _=>yL (fun t ht=>hf i t hi (by omega)) (fun _ _=>rfl))
  rw [h1,aNR,bAW hrR hxR,h.det m g hm]
  grind
 ·exact (aPE hf).trans ((aVY hrR hxR hκ0).trans (h.ker z))
 ·simp;omega
 ·have hl:(pv++[j]).length=r+1:=by simp [hr]
  by_cases e:t=r
  ·subst e
   have e1:(pv++[j]).getD t 0=j:=by simp [List.getD,hr]
   rw [e1]
   refine ⟨by omega,?_,fun u hu=>?_⟩
   ·by_cases e0:t=0
    ·omega
    ·have:=h.inc (t - 1) (by omega);omega
   ·have e2:(pv++[j]).getD u 0=pv.getD u 0:=by simp [List.getD,List.getElem?_append_left (show u < pv.length by omega)]
    rw [e2];exact (h.inc u (by omega)).1
  ·have ht':t < pv.length:=by omega
   have e2:∀u,u≤t→(pv++[j]).getD u 0=pv.getD u 0:=fun u hu=>by simp [List.getD,List.getElem?_append_left (show u < pv.length by omega)]
   obtain ⟨a1,a2,a3⟩:=h.inc t ht'
   rw [e2 t (Nat.le_refl _)]
   exact ⟨by omega,a2,fun u hu=>by rw [e2 u (by omega)];exact a3 u hu⟩
 ·have hl:(pv++[j]).length=r+1:=by simp [hr]
  by_cases e:t=r
  ·subst e
   have e1:(pv++[j]).getD t 0=j:=by simp [List.getD,hr]
   rw [e1];exact hcol i hi
  ·have ht':t < pv.length:=by omega
   have e2:(pv++[j]).getD t 0=pv.getD t 0:=by simp [List.getD,List.getElem?_append_left ht']
   have hp:=(h.inc t ht').1
   rw [e2]
   by_cases er:i=r
   ·subst er
    rw [hf1 _ (by omega),hxz _ hp]
    simp only [qX,if_neg (fun e':i=t=>e e'.symm)];grind
   ·rw [hlow i _ hi hp er,h.unit t _ ht' (aBL hrR hxR hi)]
    have:tr r x i=t↔i=t:=by
     simp only [tr,if_neg er]
     split <;>omega
    simp only [qX]
    by_cases e3:i=t
    ·rw [if_pos e3,if_pos (this.2 e3)]
    ·rw [if_neg e3,if_neg (fun e'=>e3 (this.1 e'))]
 ·have hl:(pv++[j]).length=r+1:=by simp [hr]
  rw [hl] at hi
  by_cases e:b=j
  ·subst e;rw [hcol i hR];simp only [qX,if_neg (show ¬i=r by omega)]
  ·rw [hlow i b hR (by omega) (by omega)]
   refine h.zero _ b ?_ (aBL hrR hxR hR) (by omega)
   simp only [tr];rw [←hr]
   repeat' split
   all_goals omega
theorem Red.full {n C:Nat} {f0 f:Nat→Nat→Rat} {pv:List Nat} {s:Rat} (h:Red n C n f0 f pv s) (hl:pv.length=n):∀i t,i < n→t < n→f i t=qX i t:=by
 intro i t hi ht
 have hp:∀d t,t+d+1=n→pv.getD t 0=t:=by
  intro d
  induction d with
  |zero=>intro t he;have:=h.inc t (by omega);omega
  |succ d ih=>
   intro t he
   have h1:=ih (t+1) (by omega)
   have h2:=h.inc (t+1) (by omega)
   have h3:=h2.2.2 t (by omega)
   have h4:=h.inc t (by omega)
   omega
 have:=h.unit t i (by omega) hi
 rwa [hp (n - t - 1) t (by omega)] at this
theorem Red.short {n C:Nat} {f0 f:Nat→Nat→Rat} {pv:List Nat} {s:Rat} (h:Red n C n f0 f pv s) (hl:pv.length < n):∀t,t < n→f (n - 1) t=0:=fun t ht=>h.zero (n - 1) t (by omega) (by omega) ht
theorem aTO:∀{n:Nat},dt n qX=1
 |0=>rfl
 |n+1=>by
  rw [aJH (fun i hi _=>by simp only [qX];rw [if_neg (by omega)])]
  have:(fun i k=>qX (i+1) (k+1))=qX:=by funext i k;simp [qX]
  rw [this,aTO]
  simp only [qX,if_true];grind
theorem Red.dt {n C:Nat} {f0 f:Nat→Nat→Rat} {pv:List Nat} {s:Rat} (h:Red n C n f0 f pv s) (hC:n≤C):dt n f=s*dt n f0:=by
 have:=h.det n qX hC
 rwa [iY (fun i j _ hj=>aJQ hj),iY (f:=vK n f0 qX) (fun i j _ hj=>aJQ hj)] at this
theorem Red.iff {n C:Nat} {f0 f:Nat→Nat→Rat} {pv:List Nat} {s:Rat} (h:Red n C n f0 f pv s) (hC:n≤C):pv.length=n↔Go.Proofs.YtgpkjcmipiodcaaGreat.dt n f0≠0:=by
 have h1:=h.dt hC
 constructor
 ·intro hl e
  rw [iY (h.full hl),aTO,e] at h1
  grind
 ·intro hne
  by_cases hl:pv.length < n
  ·rw [aXB (i:=n - 1) (by omega) (h.short hl)] at h1
   rcases Rat.mul_eq_zero.1 h1.symm with e|e
   ·exact absurd e h.hs
   ·exact absurd e hne
  ·have:=h.len;omega
theorem aIK {n m:Nat} {f:Nat→Rat}:sm (n+m) f=sm n f+sm m (fun k=>f (n+k)):=by
 induction m with
 |zero=>simp only [sm,Nat.add_zero];grind
 |succ m ih=>rw [←Nat.add_assoc];simp only [sm];rw [ih];grind
theorem Red.inv {n:Nat} {a f0 f:Nat→Nat→Rat} {pv:List Nat} {s:Rat} (h:Red n (n+n) n f0 f pv s) (hl:pv.length=n) (h1:∀i j,i < n→j < n→f0 i j=a i j) (h2:∀i j,i < n→j < n→f0 i (n+j)=qX i j):
  (∀i j,i < n→j < n→vK n a (fun i j=>f i (n+j)) i j=qX i j)∧(∀i j,i < n→j < n→vK n (fun i j=>f i (n+j)) a i j=qX i j):=by
 have hf:=h.full hl
 have k0:∀(x y:Nat→Rat),Go.Proofs.YtgpkjcmipiodcaaGreat.ker n (n+n) f0 (fun t=>if t < n then x t else y (t - n))↔∀i,i < n→sm n (fun k=>a i k*x k)+y i=0:=fun x y=>by
  unfold Go.Proofs.YtgpkjcmipiodcaaGreat.ker
  have e:∀i,i < n→sm (n+n) (fun j=>f0 i j*(if j < n then x j else y (j - n)))=sm n (fun k=>a i k*x k)+y i:=fun i hi=>by
   rw [aIK,gK (n:=n) (f:=fun j=>f0 i j*(if j < n then x j else y (j - n))) (g:=fun k=>a i k*x k) (fun k hk=>by rw [h1 i k hi hk,if_pos hk])]
   rw [aAS (f:=fun k=>f0 i (n+k)*(if n+k < n then x (n+k) else y (n+k - n))) hi (fun k hk hne=>by rw [h2 i k hi hk];simp only [qX];rw [if_neg (fun e=>hne e.symm)];grind)]
   rw [h2 i i hi hi,if_neg (by omega),Nat.add_sub_cancel_left];simp only [qX,if_true];grind
  exact ⟨fun hk i hi=>by rw [←e i hi];exact hk i hi,fun hk i hi=>by rw [e i hi];exact hk i hi⟩
 have k1:∀(x y:Nat→Rat),Go.Proofs.YtgpkjcmipiodcaaGreat.ker n (n+n) f (fun t=>if t < n then x t else y (t - n))↔∀i,i < n→x i+sm n (fun k=>f i (n+k)*y k)=0:=fun x y=>by
  unfold Go.Proofs.YtgpkjcmipiodcaaGreat.ker
  have e:∀i,i < n→sm (n+n) (fun j=>f i j*(if j < n then x j else y (j - n)))=x i+sm n (fun k=>f i (n+k)*y k):=fun i hi=>by
   rw [aIK,gK (n:=n) (f:=fun k=>f i (n+k)*(if n+k < n then x (n+k) else y (n+k - n))) (g:=fun k=>f i (n+k)*y k) (fun k _=>by rw [if_neg (by omega),Nat.add_sub_cancel_left])]
   rw [aAS (f:=fun j=>f i j*(if j < n then x j else y (j - n))) hi (fun k hk hne=>by rw [hf i k hi hk];simp only [qX];rw [if_neg (fun e=>hne e.symm)];grind)]
   rw [hf i i hi hi,if_pos hi];simp only [qX,if_true];grind
  exact ⟨fun hk i hi=>by rw [←e i hi];exact hk i hi,fun hk i hi=>by rw [e i hi];exact hk i hi⟩
 have kk:∀(x y:Nat→Rat),(∀i,i < n→x i+sm n (fun k=>f i (n+k)*y k)=0)↔∀i,i < n→sm n (fun k=>a i k*x k)+y i=0:=fun x y=>(k1 x y).symm.trans ((h.ker _).trans (k0 x y))
 have neg:∀(g:Nat→Nat→Rat) (x:Nat→Rat) i,sm n (fun k=>g i k*(-1*x k))= -1*sm n (fun k=>g i k*x k):=fun g x i=>by
  rw [←wE];exact gK (fun k _=>by grind)
 constructor
 ·intro i j hi hj
  -- x = - column j of the inverse, y = the unit vector
  have:=(kk (fun t=> -1*f t (n+j)) (fun t=>qX t j)).1 (fun t ht=>by
   rw [aAS hj (fun k _ hne=>by simp only [qX];rw [if_neg hne];grind)]
   simp only [qX,if_true];grind) i hi
  rw [neg a (fun t=>f t (n+j))] at this
  show sm n (fun k=>a i k*f k (n+j))=qX i j
  grind
 ·intro i j hi hj
  have:=(kk (fun t=>qX t j) (fun t=> -1*a t j)).2 (fun t ht=>by
   rw [aAS hj (fun k _ hne=>by simp only [qX];rw [if_neg hne];grind)]
   simp only [qX,if_true];grind) i hi
  rw [neg (fun i k=>f i (n+k)) (fun t=>a t j)] at this
  show sm n (fun k=>f i (n+k)*a k j)=qX i j
  grind
end Go.Proofs.YtgpkjcmipiodcaaGreat
namespace Go.Proofs.YtgpkjcmipiodcaaGreat
open Go Go.Fx
abbrev pb (b:Nat):Value:= .pointer (some ⟨b,0,none⟩)
abbrev bxX (b:Nat) (m:MX):aV:=aI (some ⟨b,0,none⟩) [.slice m.p m.rows.length m.c]
def aBQ (n:Nat) (x y:List Rat):Rat:=sm n (fun t=>x.getD t 0*y.getD t 0)
theorem aOJ {m:MX} {i:Nat} (hi:i < m.rows.length):rowAt m.q i=(gt m.rows (i:Int)).q:=by
 unfold rowAt
 rw [iH hi]
 simp [List.getD,hi]
section
variable {X:List Nat} {w0:World} {M0:List Ent} {I0:List aV}
theorem aLH {a:MX} {p k i j:Nat} (hi:j < a.rows.length) (hj:i < (gt a.rows (j:Int)).es.length)
  (ha:pW a k∈I0) (fa:bxX p a∈I0):
  CD Tryz.prog 155 [.int .i64 (i:Int), .int .i64 (j:Int),pb p] X w0 M0 I0 (RQ (at2 a.q j i) k M0 I0):=by
 rw [vG hi hj]
 refine bO (φ:=aI (a).p (recs eL (a).rows)) (Hv.xsl aA) ?_
 refine bO (φ:=aI (gt (a).rows (j:Int)).p (recs eR (gt (a).rows (j:Int)).es)) (Hv.xrsl aA (by omega)) ?_
 refine iO Tryz.func155 rfl Tryz.ntmps155 rfl ?_
 refine fE ?_
 refine bG (fun br=>?_)
 repeat refine aB ?_
 refine fF (φ:=cK (gt (gt a.rows (j:Int)).es (i:Int)) k) (Hv.xel aA (by omega) (by omega)) ?_
 refine bA (cs:=eR (gt (gt a.rows (j:Int)).es (i:Int))) (.inl rfl) rfl rfl aA rfl M0 (cK (gt (gt a.rows (j:Int)).es (i:Int)) k::I0) aG aF ⟨rfl,_,rfl,rfl,rfl⟩
theorem aMJ {a:MX} {p k i j:Nat} (hi:i < a.rows.length) (hj:j < (gt a.rows (i:Int)).es.length)
  (ha:pW a k∈I0) (fa:bxX p a∈I0):
  CD Tryz.prog 213 [.int .i64 (i:Int), .int .i64 (j:Int),pb p] X w0 M0 I0 (RQ (at2 a.q i j) k M0 I0):=by
 rw [vG hi hj]
 refine bO (φ:=aI (a).p (recs eL (a).rows)) (Hv.xsl aA) ?_
 refine bO (φ:=aI (gt (a).rows (i:Int)).p (recs eR (gt (a).rows (i:Int)).es)) (Hv.xrsl aA (by omega)) ?_
 refine iO Tryz.func213 rfl Tryz.ntmps213 rfl ?_
 refine fE ?_
 refine bG (fun br=>?_)
 repeat refine aB ?_
 refine fF (φ:=cK (gt (gt a.rows (i:Int)).es (j:Int)) k) (Hv.xel aA (by omega) (by omega)) ?_
 refine bA (cs:=eR (gt (gt a.rows (i:Int)).es (j:Int))) (.inl rfl) rfl rfl aA rfl M0 (cK (gt (gt a.rows (i:Int)).es (j:Int)) k::I0) aG aF ⟨rfl,_,rfl,rfl,rfl⟩
theorem aKZ {a b:MX} {p q k m i j C:Nat} (hC:(gt a.rows 0).es.length=C) (hR:1≤a.rows.length) (hi:i < a.rows.length) (hj:(gt a.rows (i:Int)).es.length=C) (hi2:i < b.rows.length) (hj2:j < C+(gt b.rows (i:Int)).es.length) (hB:(gt b.rows (i:Int)).es.length≤200) (hk:k≤m) (hCC:C≤200)
  (ha:pW a k∈I0) (hb:pW b m∈I0) (fa:bxX p a∈I0) (fb:bxX q b∈I0):
  CD Tryz.prog 152 [.int .i64 (i:Int), .int .i64 (j:Int),pb p,pb q] X w0 M0 I0 (RQ (if j < C then at2 a.q i j else at2 b.q i (j - C)) m M0 I0):=by
 by_cases hjC:j < C
 ·rw [if_pos hjC,vG hi (by omega)]
  refine bO (φ:=aI (a).p (recs eL (a).rows)) (Hv.xsl aA) ?_
  refine bO (φ:=aI (gt (a).rows (i:Int)).p (recs eR (gt (a).rows (i:Int)).es)) (Hv.xrsl aA (by omega)) ?_
  refine qN Tryz.func152 rfl Tryz.ntmps152 rfl ?_
  refine fE ?_
  refine bG (fun br=>?_)
  repeat refine aB ?_
  refine fF (φ:=cK (gt (gt a.rows (i:Int)).es (j:Int)) k) (Hv.xel aA (by omega) (by omega)) ?_
  refine fF (φ:=cK (gt (gt a.rows (i:Int)).es (j:Int)) m) (Hv.q (k:=k) (List.Mem.head _) hk) ?_
  refine bA (cs:=eR (gt (gt a.rows (i:Int)).es (j:Int))) (.inl rfl) rfl rfl aA rfl M0 (cK (gt (gt a.rows (i:Int)).es (j:Int)) m::I0) aG aF ⟨rfl,_,rfl,rfl,rfl⟩
 ·obtain ⟨u,rfl⟩:∃u,j=C+u:=⟨j - C,by omega⟩
  rw [if_neg hjC,Nat.add_sub_cancel_left,vG hi2 (by omega)]
  have eu:((C+u:Nat):Int) - ((gt a.rows 0).es.length:Int)=(u:Int):=by omega
  refine bO (φ:=aI (a).p (recs eL (a).rows)) (Hv.xsl aA) ?_
  refine bO (φ:=aI (b).p (recs eL (b).rows)) (Hv.xsl aA) ?_
  refine bO (φ:=aI (gt (b).rows (i:Int)).p (recs eR (gt (b).rows (i:Int)).es)) (Hv.xrsl aA (by omega)) ?_
  refine qN Tryz.func152 rfl Tryz.ntmps152 rfl ?_
  refine fE ?_
  refine bG (fun br=>?_)
  repeat refine aB ?_
  (repeat refine aJ ?_);refine aO 0 [0,1,2,3,4,5,6,7,8,9,10,11,12] [0,0,0,0,0,0,0,0,0,0,0,0,0] mixed (by kernel_rfl) ?_
  repeat refine aB ?_
  rw [eu]
  repeat refine aB ?_
  refine fF (φ:=cK (gt (gt b.rows (i:Int)).es (u:Int)) m) (Hv.xel aA (by omega) (by omega)) ?_
  refine bA (cs:=eR (gt (gt b.rows (i:Int)).es (u:Int))) (.inl rfl) rfl rfl aA rfl M0 (cK (gt (gt b.rows (i:Int)).es (u:Int)) m::I0) aG aF ⟨rfl,_,rfl,rfl,rfl⟩
theorem aKS {a:MX} {p q k i j n:Nat} (hi:i < a.rows.length) (hj:n+j < (gt a.rows (i:Int)).es.length) (hn:n≤100) (hjj:j≤100)
  (ha:pW a k∈I0) (fa:bxX p a∈I0) (fn:aI (some ⟨q,0,none⟩) [.int .i64 (n:Int)]∈I0):
  CD Tryz.prog 101 [.int .i64 (i:Int), .int .i64 (j:Int),pb p,pb q] X w0 M0 I0 (RQ (at2 a.q i (n+j)) k M0 I0):=by
 rw [vG hi hj]
 have eu:(n:Int)+(j:Int)=((n+j:Nat):Int):=by omega
 refine bO (φ:=aI (a).p (recs eL (a).rows)) (Hv.xsl aA) ?_
 refine bO (φ:=aI (gt (a).rows (i:Int)).p (recs eR (gt (a).rows (i:Int)).es)) (Hv.xrsl aA (by omega)) ?_
 refine qN Tryz.func101 rfl Tryz.ntmps101 rfl ?_
 refine fE ?_
 refine bG (fun br=>?_)
 repeat refine aB ?_
 (repeat refine aJ ?_);refine aO 0 [0,1,2,3,4,5,6,7,8,9] [0,0,0,0,0,0,0,0,0,0] mixed (by kernel_rfl) ?_
 repeat refine aB ?_
 rw [eu]
 repeat refine aB ?_
 refine fF (φ:=cK (gt (gt a.rows (i:Int)).es ((n+j:Nat):Int)) k) (Hv.xel aA (by omega) (by omega)) ?_
 refine bA (cs:=eR (gt (gt a.rows (i:Int)).es ((n+j:Nat):Int))) (.inl rfl) rfl rfl aA rfl M0 (cK (gt (gt a.rows (i:Int)).es ((n+j:Nat):Int)) k::I0) aG aF ⟨rfl,_,rfl,rfl,rfl⟩
theorem bAT {a b:RL} {ka kb n:Nat} (hn:n≤200) (hK:n*(ka+kb+1)≤100000000000) (la:a.es.length=n) (lb:b.es.length=n) (ha:lK a ka∈I0) (hb:lK b kb∈I0):
  CD Tryz.prog 105 [lv a,lv b] X w0 M0 I0 (RQ (aBQ n a.q b.q) (n*(ka+kb+1)) M0 I0):=by
 refine bO (φ:=aI (a).p (recs eR (a).es)) (Hv.lsl aA) ?_
 refine bO (φ:=aI (b).p (recs eR (b).es)) (Hv.lsl aA) ?_
 have hW:=fun M0 I0=>jA (X:=X) (w0:=w0) (M0:=M0) (I0:=I0) (x:=0) (by decide) (k:=0) (by decide)
 refine aP Tryz.func105 rfl Tryz.ntmps105 rfl ?_
 refine fE ?_
 refine bG (fun b4=>?_)
 repeat refine aB ?_
 refine iG rfl (hW _ _) (fun e0 he0=>?_)
 repeat refine aB ?_
 refine bG (fun b5=>?_)
 repeat refine aB ?_
 refine kS [1,4,5,9,10] rfl (fun k G M I=>∃(t:Nat) (s:RE),t≤n∧k=n - t∧s.q=sm t (fun t=>a.q.getD t 0*b.q.getD t 0)∧G=[(11, .int .i64 t)]∧M= .blk b5 (eR s) 40:: .blk b4 [.bool false, .slice none 0 0, .bool false, .slice none 0 0] 40::M0∧I=cK s (t*(ka+kb+1))::aI b.p (recs eR b.es)::aI a.p (recs eR a.es)::I0) (n) (⟨0,e0,by omega,rfl,he0,rfl,rfl,by rw [Nat.zero_mul]⟩) ?_
 rintro kk G M I ⟨t,s,ht,rfl,hs,rfl,rfl,rfl⟩
 have hu:t*(ka+kb+1)≤100000000000:=Nat.le_trans (Nat.mul_le_mul_right _ ht) hK
 by_cases htn:t < n
 ·have hu2:(t+1)*(ka+kb+1)=t*(ka+kb+1)+(ka+kb)+1:=by rw [Nat.succ_mul];omega
  have hK2:(t+1)*(ka+kb+1)≤100000000000:=Nat.le_trans (Nat.mul_le_mul_right _ htn) hK
  have hva:Hv (cK s (t*(ka+kb+1))::aI b.p (recs eR b.es)::aI a.p (recs eR a.es)::I0) (cK (gt a.es (t:Int)) ka):=Hv.lel aA (by omega)
  have hvb:Hv (cK s (t*(ka+kb+1))::aI b.p (recs eR b.es)::aI a.p (recs eR a.es)::I0) (cK (gt b.es (t:Int)) kb):=Hv.lel aA (by omega)
  have hS1:=fun M0=>kV (X:=X) (w0:=w0) (M0:=M0) (e:=gt a.es (t:Int)) (k:=ka) (by omega) hva
  have hS2:=fun M0=>kV (X:=X) (w0:=w0) (M0:=M0) (e:=gt b.es (t:Int)) (k:=kb) (by omega) hvb
  have hq:sm (t+1) (fun t=>a.q.getD t 0*b.q.getD t 0)=s.q+(gt a.es (t:Int)).q*(gt b.es (t:Int)).q:=by
   simp only [sm]
   rw [hs,oW (by omega),oW (by omega)]
  generalize t*(ka+kb+1)=u at*
  by_cases h1:(gt a.es (t:Int)).q=0
  ·rw [(sG _).2 h1] at hS1
   repeat refine aB ?_
   refine bG (fun b7=>?_)
   repeat refine aB ?_
   refine dP rfl (hS1 _) ?_
   repeat refine aB ?_
   refine fF (φ:=cK s ((t+1)*(ka+kb+1))) (Hv.q (k:=u) aA (by omega)) ?_
   refine iC (n - (t+1)) (⟨t+1,s,by omega,rfl,by rw [hq,h1];grind,rfl,rfl,rfl⟩)
  ·have hs1:¬(gt a.es (t:Int)).q.num.sign=0:=fun h=>h1 ((sG _).1 h)
   generalize (gt a.es (t:Int)).q.num.sign=sg1 at*
   by_cases h2:(gt b.es (t:Int)).q=0
   ·rw [(sG _).2 h2] at hS2
    repeat refine aB ?_
    refine bG (fun b7=>?_)
    repeat refine aB ?_
    refine dP rfl (hS1 _) ?_
    repeat refine aB ?_
    refine dP rfl (hS2 _) ?_
    repeat refine aB ?_
    refine fF (φ:=cK s ((t+1)*(ka+kb+1))) (Hv.q (k:=u) aA (by omega)) ?_
    refine iC (n - (t+1)) (⟨t+1,s,by omega,rfl,by rw [hq,h2];grind,rfl,rfl,rfl⟩)
   ·have hs2:¬(gt b.es (t:Int)).q.num.sign=0:=fun h=>h2 ((sG _).1 h)
    generalize (gt b.es (t:Int)).q.num.sign=sg2 at*
    repeat refine aB ?_
    refine bG (fun b7=>?_)
    repeat refine aB ?_
    refine dP rfl (hS1 _) ?_
    repeat refine aB ?_
    refine dP rfl (hS2 _) ?_
    repeat refine aB ?_
    (repeat refine aJ ?_);refine aO 2 [0,1,2,3,4,5,6,7,8] [1,1,2,2,2,1,0,0,0] mixed (by kernel_rfl) ?_
    repeat refine aB ?_
    refine iG rfl (iV (k:=ka) (m:=kb) (by omega) hva hvb) (fun e2 he2=>?_)
    refine iG rfl (uL (k:=u) (m:=ka+kb) (by omega) (Hv.mem aA) (Hv.mem aA)) (fun e3 he3=>?_)
    repeat refine aB ?_
    rw [←hu2]
    refine iC (n - (t+1)) (⟨t+1,e3,by omega,rfl,by rw [hq,he3,he2],rfl,rfl,rfl⟩)
 ·obtain rfl:t=n:=by omega
  repeat refine aB ?_
  refine bA (cs:=eR s) (.inl rfl) rfl rfl aA rfl M0 (cK s (t*(ka+kb+1))::I0) aG aF ⟨rfl,s,rfl,hs,rfl⟩
end
end Go.Proofs.YtgpkjcmipiodcaaGreat
namespace Go.Proofs.YtgpkjcmipiodcaaGreat
open Go Go.Fx
theorem aVZ {i j:Nat}:qX i j=if (i:Int)=(j:Int) then (1:Rat) else 0:=by
 unfold qX
 by_cases e:i=j
 ·rw [if_pos e,if_pos (by omega)]
 ·rw [if_neg e,if_neg (by omega)]
theorem mK {M M':List Ent} (h:SubP M M'):∀{xs:List Ent},SubP (xs++M) M'
 |[]=>h
 |_::_=> .drop (mK h)
def MX.fit (m:MX) (R C:Nat):Prop:=m.dim R C∧(1≤R∧R≤64)∧(1≤C∧C≤64)
theorem MX.fit.r0 {m:MX} {R C:Nat} (h:m.fit R C):(gt m.rows 0).es.length=C:=by
 have:=h.1.row (i:=0) (by have:=h.2.1;omega)
 exact this
theorem MX.fit.ok {m:MX} {R C:Nat} (h:m.fit R C):m.raw.ok:=bBG h.1 h.2.1 h.2.2
theorem MX.raw_rows (m:MX):m.raw.rows.length=m.rows.length:=by show (m.rows.map RL.raw).length=_;rw [List.length_map]
theorem MX.raw_c0 {m:MX} {R C:Nat} (h:m.fit R C):(gt m.raw.rows 0).es.length=C:=by
 have e:m.raw.rows=m.rows.map RL.raw:=rfl
 rw [e,qW (by have:=h.1.1;have:=h.2.1;omega)]
 show ((gt m.rows 0).es.map RE.raw).length=C
 rw [List.length_map];exact h.r0
section
variable {P:Program} {f:FuncId} {vs:List Value} {X:List Nat} {w0:World} {M:List Ent} {I:List aV}
theorem wH {K:Value→List Ent→List aV→Prop} {φ:Prop} (h:∀w,Mem X w0 M I w→φ) (k:φ→CD P f vs X w0 M I K):CD P f vs X w0 M I K:=⟨fun w hw=>(k (h w hw)).go w hw⟩
theorem aAO {K:Value→Prop} {φ:aV} [Fx.Good φ] (h:Hv I φ) (c:CD P f vs X w0 M (φ::I) (fun v M' I'=>M=M'∧φ::I=I'∧K v)):CD P f vs X w0 M I (fun v M' I'=>M=M'∧I=I'∧K v):=
 ⟨fun w hw=>(c.go w (Mem.hv h hw)).mono (fun _ _ ⟨M',I',⟨e1,e2,hk⟩,h2⟩=>by subst e1;subst e2;exact ⟨M,I,⟨rfl,rfl,hk⟩,h2.inc (.of fun φ hφ=>List.Mem.tail _ hφ)⟩)⟩
theorem Mem.xsml {w:World} {m:MX} {R C k:Nat} (hm:pW m k∈I) (hd:m.fit R C) (hk:k≤20000000000) (hw:Mem X w0 M I w):m.raw.sml:=by
 have h:IsX m k (muts M) w:=(hw.imm _ hm).2
 refine ⟨by rw [m.raw_rows,hd.1.1];have:=hd.2.1;omega,fun r hr=>?_⟩
 obtain ⟨s,hs,rfl⟩:=List.mem_map.1 hr
 refine ⟨by show (s.es.map RE.raw).length≤_;rw [List.length_map,hd.1.2 s hs];have:=hd.2.2;omega,fun e he=>?_⟩
 obtain ⟨x,hx,rfl⟩:=List.mem_map.1 he
 exact IsR.sml hk ((h.row s hs).el x hx)
end
section
variable {X:List Nat} {w0:World} {M0:List Ent} {I0:List aV}
theorem aFF {a:MX} {R C k:Nat} (hk:k≤20000000000) (da:a.fit R C) (ha:pW a k∈I0):CD Tryz.prog 106 [mv a] X w0 M0 I0 (fun v M I=>M0=M∧I0=I∧v= .int .i64 0):=by
 refine wH (fun w hw=>Mem.xsml ha da hk hw) (fun sa=>?_)
 refine aAO (φ:=vJ a.raw) (Hv.xraw ha hk) ?_
 have:=aCV (X:=X) (w0:=w0) (M0:=M0) (I0:=vJ a.raw::I0) (m:=a.raw) sa (List.Mem.head _)
 rw [WM.code_ok da.ok,aCU] at this
 exact this
theorem aMN {a b:MX} {R C R' C' k m:Nat} {q:Option Addr} {c:Nat} (hk:k≤20000000000) (hm:m≤20000000000) (da:a.fit R C) (db:b.fit R' C') (ha:pW a k∈I0) (hb:pW b m∈I0) (hq:aI q (recs eMX [a,b])∈I0):CD Tryz.prog 102 [.slice q 2 c] X w0 M0 I0 (fun v M I=>M0=M∧I0=I∧v= .int .i64 0):=by
 refine wH (fun w hw=>Mem.xsml ha da hk hw) (fun sa=>wH (fun w hw=>Mem.xsml hb db hm hw) (fun sb=>?_))
 refine aAO (φ:=vJ a.raw) (Hv.xraw ha hk) (aAO (φ:=vJ b.raw) (Hv.xraw (List.Mem.tail _ hb) hm) ?_)
 refine aAO (φ:=aIX [a.raw,b.raw]) (Hv.wm2 (List.Mem.tail _ (List.Mem.head _)) (List.Mem.head _)) ?_
 have e:recs eWM [a.raw,b.raw]=recs eMX [a,b]:=by
  show [mvW a.raw,mvW b.raw]=[mv a,mv b]
  rw [aCU,aCU]
 have:=aTQ (X:=X) (w0:=w0) (M0:=M0) (I0:=aIX [a.raw,b.raw]::vJ b.raw::vJ a.raw::I0) (q:=q) (c:=c) (ms:=[a.raw,b.raw]) (by simp) (fun m hm=>by simp at hm;rcases hm with rfl|rfl <;>assumption) (by rw [e];exact List.Mem.tail _ (List.Mem.tail _ (List.Mem.tail _ hq))) (List.Mem.head _)
 rw [aIP (fun m hm=>by simp at hm;rcases hm with rfl|rfl;exact da.ok;exact db.ok)] at this
 exact this
theorem aFH {a:MX} {R C k:Nat} (da:a.fit R C) (ha:pW a k∈I0):CD Tryz.prog 103 [mv a] X w0 M0 I0 (XQ (yN C R (fun i j=>at2 a.q j i)) C R k M0 I0):=by
 have lR:=da.1.1
 have lC:=da.r0
 obtain ⟨r1,r2⟩:=da.2.1
 obtain ⟨c1,c2⟩:=da.2.2
 refine bO (φ:=aI (a).p (recs eL (a).rows)) (Hv.xsl aA) ?_
 refine aZ Tryz.func103 rfl Tryz.ntmps103 rfl ?_
 refine fE ?_
 (refine rA rfl rfl rfl ?_;intro p1;refine aL ?_)
 repeat refine aB ?_
 (repeat refine aJ ?_);refine gG [0,1,2,3,4,5,6,7,8] [1,1,1,0,1,0,0,0,0] mixed (by kernel_rfl) ?_
 repeat refine aB ?_
 have hg:=fun M I (hI:∀φ∈aI (some ⟨p1,0,none⟩) [.slice a.p a.rows.length a.c]::aI a.p (recs eL a.rows)::I0,φ∈I) (i j:Nat) (hi:i < (gt a.rows 0).es.length) (hj:j < a.rows.length)=>aLH (X:=X) (w0:=w0) (M0:=M) (I0:=I) (a:=a) (p:=p1) (k:=k) (i:=i) (j:=j) (by omega) (by rw [da.1.row (by omega)];omega) (hI _ aA) (hI _ aA)
 (refine aU rfl (zD (R:=(gt a.rows 0).es.length) (C:=a.rows.length) (g:=155) (fs:=#[]) (cs:=#[pb p1]) (k0:=k) (by omega) (by omega) (fun i j=>at2 a.q j i) hg) ?_;rintro _ _ _ ⟨rfl,x,rfl,hx,hd,rfl⟩;refine aL ?_)
 rw [lR,lC] at hx hd
 repeat refine aB ?_
 refine gD rfl rfl (⟨rfl,x,rfl,hx,hd,rfl⟩)
theorem aKX {a:MX} {R C k:Nat} (da:a.fit R C) (ha:pW a k∈I0):CD Tryz.prog 199 [mv a] X w0 M0 I0 (MkP R C (at2 a.q) k M0 I0):=by
 have lR:=da.1.1
 have lC:=da.r0
 obtain ⟨r1,r2⟩:=da.2.1
 obtain ⟨c1,c2⟩:=da.2.2
 refine bO (φ:=aI (a).p (recs eL (a).rows)) (Hv.xsl aA) ?_
 refine aZ Tryz.func199 rfl Tryz.ntmps199 rfl ?_
 refine fE ?_
 (refine rA rfl rfl rfl ?_;intro p1;refine aL ?_)
 repeat refine aB ?_
 (repeat refine aJ ?_);refine gG [0,1,2,3,4,5,6,7,8] [1,0,1,1,1,0,0,0,0] mixed (by kernel_rfl) ?_
 repeat refine aB ?_
 have hg:=fun M I (hI:∀φ∈aI (some ⟨p1,0,none⟩) [.slice a.p a.rows.length a.c]::aI a.p (recs eL a.rows)::I0,φ∈I) (i j:Nat) (hi:i < a.rows.length) (hj:j < (gt a.rows 0).es.length)=>aMJ (X:=X) (w0:=w0) (M0:=M) (I0:=I) (a:=a) (p:=p1) (k:=k) (i:=i) (j:=j) (by omega) (by rw [da.1.row (by omega)];omega) (hI _ aA) (hI _ aA)
 (refine aU rfl (aCY (R:=a.rows.length) (C:=(gt a.rows 0).es.length) (g:=213) (fs:=#[]) (cs:=#[pb p1]) (k0:=k) (by omega) (by omega) (at2 a.q) hg) ?_;rintro _ _ _ ⟨bo,rows,rfl,h1,h2,h3,rfl,rfl⟩;refine ⟨OkD.any (SubP.drop (mK SubP.refl)) aF,?_⟩)
 rw [lR] at h1
 rw [lC] at h2
 rw [lR,lC] at h3
 have e1:(a.rows.length:Int)=R:=by omega
 repeat refine aB ?_
 refine aH (by first|exact .inl rfl|exact .inr rfl) rfl rfl _ _ aG aF (⟨bo,rows,by rw [lR],h1,h2,h3,rfl,rfl⟩)
theorem aQE {a b:MX} {R C D k:Nat} (da:a.fit R C) (db:b.fit R D) (ha:pW a k∈I0) (hb:pW b k∈I0):CD Tryz.prog 97 [mv a,mv b] X w0 M0 I0 (MkP R (C+D) (fun i j=>if j < C then at2 a.q i j else at2 b.q i (j - C)) k M0 I0):=by
 have lR:=da.1.1
 have lR2:=db.1.1
 have lC:=da.r0
 have lD:=db.r0
 obtain ⟨r1,r2⟩:=da.2.1
 obtain ⟨c1,c2⟩:=da.2.2
 obtain ⟨d1,d2⟩:=db.2.2
 refine bO (φ:=aI (a).p (recs eL (a).rows)) (Hv.xsl aA) ?_
 refine bO (φ:=aI (b).p (recs eL (b).rows)) (Hv.xsl aA) ?_
 refine aP Tryz.func97 rfl Tryz.ntmps97 rfl ?_
 refine fE ?_
 (refine rA rfl rfl rfl ?_;intro p1;refine aL ?_)
 (refine rA rfl rfl rfl ?_;intro p2;refine aL ?_)
 repeat refine aB ?_
 (repeat refine aJ ?_);refine gG [0,1,2,3,4,5,6,7,8,9,10,11,12,13] [1,0,1,1,1,1,1,1,1,1,0,0,0,0] mixed (by kernel_rfl) ?_
 repeat refine aB ?_
 rw [show ((gt a.rows 0).es.length:Int)+((gt b.rows 0).es.length:Int)=(((gt a.rows 0).es.length+(gt b.rows 0).es.length:Nat):Int) by omega]
 have hg:=fun M I (hI:∀φ∈aI (some ⟨p2,0,none⟩) [.slice b.p b.rows.length b.c]::aI (some ⟨p1,0,none⟩) [.slice a.p a.rows.length a.c]::aI b.p (recs eL b.rows)::aI a.p (recs eL a.rows)::I0,φ∈I) (i j:Nat) (hi:i < a.rows.length) (hj:j < (gt a.rows 0).es.length+(gt b.rows 0).es.length)=>aKZ (X:=X) (w0:=w0) (M0:=M) (I0:=I) (a:=a) (b:=b) (p:=p1) (q:=p2) (k:=k) (m:=k) (i:=i) (j:=j) (C:=C) lC (by omega) (by omega) (da.1.row (by omega)) (by omega) (by rw [db.1.row (by omega)];omega) (by rw [db.1.row (by omega)];omega) (Nat.le_refl _) (by omega) (hI _ aA) (hI _ aA) (hI _ aA) (hI _ aA)
 (refine aU rfl (aCY (R:=a.rows.length) (C:=(gt a.rows 0).es.length+(gt b.rows 0).es.length) (g:=152) (fs:=#[]) (cs:=#[pb p1,pb p2]) (k0:=k) (by omega) (by omega) (fun i j=>if j < C then at2 a.q i j else at2 b.q i (j - C)) hg) ?_;rintro _ _ _ ⟨bo,rows,rfl,h1,h2,h3,rfl,rfl⟩;refine ⟨OkD.any (SubP.drop (mK SubP.refl)) aF,?_⟩)
 rw [lR] at h1
 rw [lC,lD] at h2
 rw [lR,lC,lD] at h3
 repeat refine aB ?_
 refine aH (by first|exact .inl rfl|exact .inr rfl) rfl rfl _ _ aG aF (⟨bo,rows,by rw [lR],h1,h2,h3,rfl,rfl⟩)
theorem aEK {a:MX} {R C k:Nat} (hk:k≤20000000000) (da:a.fit R C) (ha:pW a k∈I0):CD Tryz.prog 159 [mv a] X w0 M0 I0 (XQc (yN C R (fun i j=>at2 a.q j i)) C R k M0 I0):=by
 have hC:=fun M0 I0 h1=>aFF (X:=X) (w0:=w0) (M0:=M0) (I0:=I0) (a:=a) (k:=k) (by omega) da h1
 refine aZ Tryz.func159 rfl Tryz.ntmps159 rfl ?_
 repeat refine aB ?_
 refine dP rfl (hC _ _ aA) ?_
 repeat refine aB ?_
 (refine aU rfl (aFH da aA) ?_;rintro _ _ _ ⟨rfl,x,rfl,hx,hd,rfl⟩;refine aL ?_)
 repeat refine aB ?_
 refine tyS [2,3] rfl rfl (⟨rfl,x,rfl,hx,hd,rfl⟩)
end
end Go.Proofs.YtgpkjcmipiodcaaGreat
namespace Go.Proofs.YtgpkjcmipiodcaaGreat
open Go Go.Fx
def hD (k:Nat):Nat→Nat
 |0=>k
 |n+1=>(n+2)*(k+hD k n+1)
section
variable {X:List Nat} {w0:World} {M0:List Ent} {I0:List aV}
end
end Go.Proofs.YtgpkjcmipiodcaaGreat
namespace Go.Proofs.YtgpkjcmipiodcaaGreat
open Go Go.Fx
structure MS where
 b:Nat
 c:Nat
 es:List RE
 tl:List Value
instance:Inhabited MS:=⟨⟨0,0,[],[]⟩⟩
abbrev eS (r:MS):List Value:=[.slice (some ⟨r.b,0,none⟩) r.es.length r.c]
instance:Sized eS 1:=⟨fun _=>rfl⟩
instance:Ones eS:=⟨fun m u hu=>by simp only [eS,List.mem_cons,List.not_mem_nil,or_false] at hu;subst hu;rfl⟩
abbrev entS (r:MS):Ent:= .blk r.b (recs eR r.es++r.tl) 40
structure AllS (rows:List MS) (k:Nat) (X:List Nat) (w:World):Prop where
 go:∀r∈rows,∀e∈r.es,IsR e k X w
abbrev allS (rows:List MS) (k:Nat):aV:=AllS rows k
instance (rows:List MS) (k:Nat):Fx.Good (AllS rows k):=⟨fun X Y w w' h he hY=>⟨fun r hr e hm=>Fx.Good.go (φ:=IsR _ _) X Y w w' (h.go r hr e hm) he hY⟩⟩
def Pw (rows:List MS) (R C:Nat) (V:Nat→Nat→Rat):Prop:=∀i j:Nat,i < R→j < C→(gt (gt rows (i:Int)).es (j:Int)).q=V i j
structure Shp (rows:List MS) (R C:Nat):Prop where
 len:rows.length=R
 col:∀r∈rows,r.es.length=C∧C≤r.c
abbrev upR (r:MS) (j:Nat) (e:RE):MS:=⟨r.b,r.c,st r.es (j:Int) e,r.tl⟩
def upS (rows:List MS) (i j:Nat) (e:RE):List MS:=rows.set i ⟨(gt rows (i:Int)).b,(gt rows (i:Int)).c,st (gt rows (i:Int)).es (j:Int) e,(gt rows (i:Int)).tl⟩
def MsP (R C:Nat) (V:Nat→Nat→Rat) (k:Nat) (M0:List Ent) (I0:List aV) (v:Value) (M:List Ent) (I:List aV):Prop:=
 ∃(bo co:Nat) (tlo:List Value) (rows:List MS),v= .slice (some ⟨bo,0,none⟩) R co∧R≤co∧Shp rows R C∧Pw rows R C V∧M= .blk bo (recs eS rows++tlo) 52::(rows.map entS++M0)∧I=allS rows k::I0
def MS.l (r:MS):RL:=⟨some ⟨r.b,0,none⟩,r.c,r.es⟩
def MS.x (bo co:Nat) (rows:List MS):MX:=⟨some ⟨bo,0,none⟩,co,rows.map MS.l⟩
section
variable {X:List Nat} {w0:World} {M0:List Ent} {I0:List aV}
end
end Go.Proofs.YtgpkjcmipiodcaaGreat
namespace Go.Proofs.YtgpkjcmipiodcaaGreat
open Go Go.Fx
section
variable {X:List Nat} {w0:World} {M0:List Ent} {I0:List aV}
end
end Go.Proofs.YtgpkjcmipiodcaaGreat
namespace Go.Proofs.YtgpkjcmipiodcaaGreat
open Go Go.Fx
section
variable {X:List Nat} {w0:World} {M0:List Ent} {I0:List aV}
end
end Go.Proofs.YtgpkjcmipiodcaaGreat
