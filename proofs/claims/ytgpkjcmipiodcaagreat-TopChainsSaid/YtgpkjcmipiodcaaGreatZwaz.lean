/- matrix: Mul, Apply, of matrices and of what is none. -/
import Derived.Test.YtgpkjcmipiodcaaGreatZway
import Derived.Test.YtgpkjcmipiodcaaGreatZwan
import Derived.Test.YtgpkjcmipiodcaaGreatZwau
import Derived.Test.YtgpkjcmipiodcaaGreatZwag
import Derived.Test.YtgpkjcmipiodcaaGreatZwav
import Derived.Test.YtgpkjcmipiodcaaGreatZwaj
set_option linter.unusedSimpArgs false
set_option linter.unusedVariables false
set_option maxRecDepth 100000
set_option maxHeartbeats 4000000
namespace Go.Proofs.YtgpkjcmipiodcaaGreat
open Go Go.Fx
def mulC (a b:WM):Int:=if a.ok∧b.ok then (if (gt a.rows 0).es.length=b.rows.length then 0 else 4) else 1
def listC (a:WM) (x:WL) (n:Nat):Int:=if a.ok then (if x.good then (if x.es.length=n then 0 else 4) else 1) else 1
section
variable {X:List Nat} {w0:World} {M0:List Ent} {I0:List aV}
theorem aWS {a c:MX} {p q k m i j n:Nat} (hn:n≤200) (hK:n*(k+m+1)≤100000000000) (hi:i < a.rows.length) (hl:(gt a.rows (i:Int)).es.length=n) (hj:j < c.rows.length) (hl2:(gt c.rows (j:Int)).es.length=n)
  (ha:pW a k∈I0) (hc:pW c m∈I0) (fa:bxX p a∈I0) (fc:bxX q c∈I0):
  CD Tryz.prog 104 [.int .i64 (i:Int), .int .i64 (j:Int),pb p,pb q] X w0 M0 I0 (RQ (sm n (fun t=>at2 a.q i t*at2 c.q j t)) (n*(k+m+1)) M0 I0):=by
 have e:sm n (fun t=>at2 a.q i t*at2 c.q j t)=aBQ n (gt a.rows (i:Int)).q (gt c.rows (j:Int)).q:=by
  rw [←aOJ hi,←aOJ hj];rfl
 rw [e]
 refine bO (φ:=aI (a).p (recs eL (a).rows)) (Hv.xsl aA) ?_
 refine bO (φ:=aI (c).p (recs eL (c).rows)) (Hv.xsl aA) ?_
 refine bO (φ:=lK (gt (a).rows (i:Int)) k) (Hv.xrow aA (by omega)) ?_
 refine bO (φ:=lK (gt (c).rows (j:Int)) m) (Hv.xrow aA (by omega)) ?_
 refine qN Tryz.func104 rfl Tryz.ntmps104 rfl ?_
 refine fE ?_
 refine bG (fun br=>?_)
 repeat refine aB ?_
 (repeat refine aJ ?_);refine aO 1 [0,1,2,3,4,5,6,7,8,9] [1,1,1,0,1,1,1,0,0,0] mixed (by kernel_rfl) ?_
 repeat refine aB ?_
 refine iG rfl (bAT (ka:=k) (kb:=m) (n:=n) hn hK hl hl2 aA aA) (fun e he=>?_)
 repeat refine aB ?_
 refine bA (cs:=eR e) (.inl rfl) rfl rfl aA rfl M0 (cK e (n*(k+m+1))::I0) aG aF ⟨rfl,e,rfl,he,rfl⟩
theorem aOF {a b:MX} {R C D k m:Nat} (hk:k≤1000000000) (hm:m≤500000000) (da:a.fit R C) (db:b.fit C D) (ha:pW a k∈I0) (hb:pW b m∈I0):CD Tryz.prog 50 [mv a,mv b] X w0 M0 I0 (XQc (yN R D (fun i j=>sm C (fun t=>at2 a.q i t*at2 b.q t j))) R D (C*(k+m+1)) M0 I0):=by
 have hC:=fun q M0 I0 h1 h2 h3=>aMN (X:=X) (w0:=w0) (M0:=M0) (I0:=I0) (a:=a) (b:=b) (k:=k) (m:=m) (q:=q) (c:=2) (by omega) (by omega) da db h1 h2 h3
 have lR:=da.1.1
 have lC:=da.r0
 have lR2:=db.1.1
 have lD:=db.r0
 obtain ⟨r1,r2⟩:=da.2.1
 obtain ⟨c1,c2⟩:=da.2.2
 obtain ⟨d1,d2⟩:=db.2.2
 have hKK:C*(k+m+1)≤100000000000:=Nat.le_trans (Nat.mul_le_mul c2 (show k+m+1≤1500000001 by omega)) (by decide)
 refine bO (φ:=aI (a).p (recs eL (a).rows)) (Hv.xsl aA) ?_
 refine bO (φ:=aI (b).p (recs eL (b).rows)) (Hv.xsl aA) ?_
 refine aP Tryz.func50 rfl Tryz.ntmps50 rfl ?_
 refine fE ?_
 (refine rA rfl rfl rfl ?_;intro p1;refine aL ?_)
 repeat refine aB ?_
 refine lL (cs:=recs eMX [a,b]) ([mv a,mv b]) rfl (fun bs=>?_)
 refine aC .here ?_
 refine dP rfl (hC _ _ _ aA aA aA) ?_
 repeat refine aB ?_
 (refine aU rfl (aFH db aA) ?_;rintro _ _ _ ⟨rfl,y,rfl,hy,hyd,rfl⟩;refine aL ?_)
 repeat refine aB ?_
 refine bG (fun b7=>?_)
 repeat refine aB ?_
 refine mQ (fun _ hw=>hw.freezeB .here) ?_
 (repeat refine aJ ?_);refine gG [0,1,2,3,4,5,6,7,8,9] [1,0,1,1,1,0,0,0,0,0] mixed (by kernel_rfl) ?_
 repeat refine aB ?_
 have hg:=fun M I (hI:∀φ∈aI (some ⟨b7,0,none⟩) [.slice y.p y.rows.length y.c]::pW y m::aI (some ⟨bs,0,none⟩) (recs eMX [a,b])::aI (some ⟨p1,0,none⟩) [.slice a.p a.rows.length a.c]::aI b.p (recs eL b.rows)::aI a.p (recs eL a.rows)::I0,φ∈I) (i j:Nat) (hi:i < a.rows.length) (hj:j < (gt b.rows 0).es.length)=>aWS (X:=X) (w0:=w0) (M0:=M) (I0:=I) (a:=a) (c:=y) (p:=p1) (q:=b7) (k:=k) (m:=m) (i:=i) (j:=j) (n:=C) (by omega) hKK (by omega) (da.1.row (by omega)) (by rw [hyd.1];omega) (hyd.row (by omega)) (hI _ aA) (hI _ aA) (hI _ aA) (hI _ aA)
 (refine aU rfl (zD (R:=a.rows.length) (C:=(gt b.rows 0).es.length) (g:=104) (fs:=#[]) (cs:=#[pb p1,pb b7]) (k0:=C*(k+m+1)) (by omega) (by omega) (fun i j=>sm C (fun t=>at2 a.q i t*at2 y.q j t)) hg) ?_;rintro _ _ _ ⟨rfl,x,rfl,hx,hd,rfl⟩;refine aL ?_)
 rw [lR,lD] at hx hd
 have hx2:x.q=yN R D (fun i j=>sm C (fun t=>at2 a.q i t*at2 b.q t j)):=by
  rw [hx]
  exact aFI (fun i j hi hj=>gK (fun t ht=>by rw [hy,oV hj ht]))
 repeat refine aB ?_
 refine tyS [4,5] rfl rfl (⟨rfl,x,rfl,hx2,hd,rfl⟩)
end
def aAV (A:Mt) (R C:Nat):Prop:=A.length=R∧∀i,i < R→(rowAt A i).length=C
theorem rowAt_set {A:Mt} {i a:Nat} {l:List Rat} (hi:i < A.length):rowAt (A.set i l) a=if a=i then l else rowAt A a:=by
 unfold rowAt
 simp only [List.getD,List.getElem?_set]
 by_cases e:a=i
 ·subst e;simp [hi]
 ·have e':¬i=a:=fun h=>e h.symm
  simp [e,e']
theorem aGI {A:Mt} {a:Nat} {f:Nat→List Rat→List Rat} (h:a < A.length):rowAt (A.mapIdx f) a=f a (rowAt A a):=by
 simp [rowAt,List.getD,h]
theorem rO {A:Mt} {R C r k a:Nat} (h:aAV A R C) (hr:r < R) (hk:k < R):rowAt (swp A r k) a=rowAt A (tr r k a):=by
 unfold swp
 rw [rowAt_set (by rw [List.length_set,h.1];exact hk),rowAt_set (by rw [h.1];exact hr)]
 simp only [tr]
 by_cases e1:a=k
 ·subst e1
  rw [if_pos rfl]
  by_cases e2:a=r
  ·rw [if_pos e2,e2]
  ·rw [if_neg e2,if_pos rfl]
 ·rw [if_neg e1,if_neg e1]
  by_cases e2:a=r
  ·rw [if_pos e2,if_pos e2]
  ·rw [if_neg e2,if_neg e2]
theorem aHA {A:Mt} {R C r k:Nat} (h:aAV A R C) (hr:r < R) (hk:k < R):aAV (swp A r k) R C:=
 ⟨by unfold swp;rw [List.length_set,List.length_set];exact h.1,fun i hi=>by rw [rO h hr hk];exact h.2 _ (aBL hr hk hi)⟩
theorem wC {l:List Rat} {f:Nat→Rat→Rat} {c:Nat} (h:c < l.length):(l.mapIdx f).getD c 0=f c (l.getD c 0):=by
 simp [List.getD,h]
theorem aCW {B:Mt} {r j a:Nat} {pr:List Rat} (h:a < B.length):rowAt (xI B r j pr) a=if a=r then rowAt B a else if (rowAt B a).getD j 0=0 then rowAt B a else kM j ((rowAt B a).getD j 0) pr (rowAt B a):=by
 unfold xI
 rw [aGI h]
theorem aUP {A:Mt} {R C r j x:Nat} (h:aAV A R C) (hr:r < R) (hx:x < R):aAV (aAB A r j x) R C:=by
 have hs:=aHA (r:=r) (k:=x) h hr hx
 unfold aAB
 refine ⟨by unfold xI;rw [List.length_mapIdx,List.length_set];exact hs.1,fun i hi=>?_⟩
 have hb:rowAt ((swp A r x).set r (iX j (1 / at2 (swp A r x) r j) (rowAt (swp A r x) r))) i=if i=r then iX j (1 / at2 (swp A r x) r j) (rowAt (swp A r x) r) else rowAt (swp A r x) i:=rowAt_set (by rw [hs.1];exact hr)
 rw [aCW (by rw [List.length_set,hs.1];exact hi),hb]
 by_cases e:i=r
 ·rw [if_pos e,if_pos e];simp only [iX,List.length_mapIdx];exact hs.2 r hr
 ·rw [if_neg e,if_neg e]
  split
  ·exact hs.2 i hi
  ·simp only [kM,List.length_mapIdx];exact hs.2 i hi
theorem aTV {A:Mt} {R C r j x:Nat} (h:aAV A R C) (hr:r < R) (hx:x < R) (hj:j < C) (hz:∀b,b < j→at2 A x b=0):∀a b,a < R→b < C→
  at2 (aAB A r j x) a b=elm r x (1 / at2 A x j) (fun a=>at2 A (tr r x a) j) (at2 A) a b:=by
 intro a b ha hb
 have hs:=aHA (r:=r) (k:=x) h hr hx
 have hat:∀i c,at2 (swp A r x) i c=at2 A (tr r x i) c:=fun i c=>by unfold at2;rw [rO h hr hx]
 have htr:tr r x r=x:=by simp [tr]
 have hrow:(rowAt (swp A r x) r)=rowAt A x:=by rw [rO h hr hx,htr]
 have hκ:at2 (swp A r x) r j=at2 A x j:=by rw [hat,htr]
 obtain ⟨κ,hk⟩:∃κ,κ=1 / at2 A x j:=⟨_,rfl⟩
 rw [←hk]
 have hpr:∀c,c < C→(iX j κ (rowAt A x)).getD c 0=κ*at2 A x c:=fun c hc=>by
  unfold iX
  rw [wC (by rw [h.2 x hx];exact hc)]
  by_cases e:c < j
  ·rw [if_pos e]
   have:=hz c e
   rw [this]
   unfold at2 at this
   rw [this];grind
  ·rw [if_neg e];rfl
 have e1:at2 (aAB A r j x) a b=(rowAt (aAB A r j x) a).getD b 0:=rfl
 rw [e1]
 unfold aAB
 rw [hκ,hrow,←hk]
 have hbb:rowAt ((swp A r x).set r (iX j κ (rowAt A x))) a=if a=r then iX j κ (rowAt A x) else rowAt (swp A r x) a:=rowAt_set (by rw [hs.1];exact hr)
 rw [aCW (by rw [List.length_set,hs.1];exact ha),hbb]
 simp only [elm,htr]
 by_cases e:a=r
 ·rw [if_pos e,if_pos e,if_pos e];exact hpr b hb
 ·rw [if_neg e,if_neg e,if_neg e,rO h hr hx]
  have hc:(rowAt A (tr r x a)).getD j 0=at2 A (tr r x a) j:=rfl
  rw [hc]
  by_cases e0:at2 A (tr r x a) j=0
  ·rw [if_pos e0,e0]
   show at2 A (tr r x a) b=_
   grind
  ·rw [if_neg e0]
   unfold kM
   rw [wC (by rw [h.2 _ (aBL hr hx ha)];exact hb)]
   show (if b < j then at2 A (tr r x a) b else at2 A (tr r x a) b - _)=_
   by_cases ej:b < j
   ·rw [if_pos ej,hz b ej];grind
   ·rw [if_neg ej,hpr b hb]
theorem aEI {A:Mt} {j:Nat}:∀(f k:Nat),k+f=A.length→∀i,k≤i→i < pV A j f k→at2 A i j=0
 |0,k,_,i,h1,h2=>by simp [pV] at h2;omega
 |f+1,k,h,i,h1,h2=>by
  unfold pV at h2
  by_cases hc:k < A.length∧at2 A k j=0
  ·rw [if_pos hc] at h2
   by_cases e:i=k
   ·subst e;exact hc.2
   ·exact aEI f (k+1) (by omega) i (by omega) h2
  ·rw [if_neg hc] at h2;omega
theorem aEF {A:Mt} {R C:Nat} (h:aAV A R C):∀n,n≤C→aAV (aBT A n).1 R C∧∃s,Red R C n (at2 A) (at2 (aBT A n).1) (aBT A n).2 s
 |0,_=>⟨h,1,Red.start⟩
 |n+1,hn=>by
  obtain ⟨hd,s,hr⟩:=aEF h n (by omega)
  rw [aBC]
  generalize aBT A n=st at hd hr
  obtain ⟨B,pv⟩:=st
  simp only at hd hr
  have hlen:=hr.len
  obtain ⟨f1,f2,f3⟩:=aIM (A:=B) (j:=n) (B.length - pv.length) pv.length (by rw [hd.1];omega)
  have f4:=aEI (A:=B) (j:=n) (B.length - pv.length) pv.length (by rw [hd.1];omega)
  unfold aUG
  simp only
  generalize pV B n (B.length - pv.length) pv.length=x at f1 f2 f3 f4
  by_cases hx:x < B.length
  ·rw [if_pos hx]
   rw [hd.1] at hx
   refine ⟨aUP hd (by omega) hx,_,hr.step (x:=x) (by omega) f1 hx (f3 (by rw [hd.1];exact hx)) (aTV hd (by omega) hx (by omega) (fun b hb=>hr.zero x b f1 hx hb))⟩
  ·rw [if_neg hx]
   exact ⟨hd,s,hr.none (fun i h1 h2=>f4 i h1 (by rw [hd.1] at hx;omega))⟩
end Go.Proofs.YtgpkjcmipiodcaaGreat
namespace Go.Proofs.YtgpkjcmipiodcaaGreat
open Go Go.Fx
def wD (A:Mt) (j x:Nat):Mt:=(swp A j x).mapIdx (fun i row=>if i≤j then row else if row.getD j 0=0 then row else kM j (row.getD j 0 / at2 (swp A j x) j j) (rowAt (swp A j x) j) row)
def aBW (A:Mt) (j:Nat):Nat→Nat→Rat:=fun i k=>at2 A (i+j) (k+j)
theorem aIH {A:Mt} {R C j x a:Nat} (h:aAV A R C) (hj:j < R) (hx:x < R) (ha:a < R):rowAt (wD A j x) a=if a≤j then rowAt A (tr j x a) else if at2 A (tr j x a) j=0 then rowAt A (tr j x a) else kM j (at2 A (tr j x a) j / at2 A x j) (rowAt A x) (rowAt A (tr j x a)):=by
 have hs:=aHA (r:=j) (k:=x) h hj hx
 have hr:∀i,rowAt (swp A j x) i=rowAt A (tr j x i):=fun i=>rO h hj hx
 have htr:tr j x j=x:=by simp [tr]
 have hat:at2 (swp A j x) j j=at2 A x j:=by unfold at2;rw [hr,htr]
 have e1:rowAt (wD A j x) a=if a≤j then rowAt (swp A j x) a else if (rowAt (swp A j x) a).getD j 0=0 then rowAt (swp A j x) a else kM j ((rowAt (swp A j x) a).getD j 0 / at2 (swp A j x) j j) (rowAt (swp A j x) j) (rowAt (swp A j x) a):=by
  have hl:a < (swp A j x).length:=by rw [hs.1];exact ha
  unfold wD
  rw [aGI hl]
 rw [e1,hat,hr,hr,htr]
 rfl
theorem aPT {A:Mt} {R C j x a b:Nat} (h:aAV A R C) (hj:j < R) (hx:x < R) (ha:a < R) (hb:b < C) (haj:j < a) (hbj:j≤b):at2 (wD A j x) a b=at2 A (tr j x a) b - at2 A (tr j x a) j / at2 A x j*at2 A x b:=by
 have e:at2 (wD A j x) a b=(rowAt (wD A j x) a).getD b 0:=rfl
 rw [e,aIH h hj hx ha,if_neg (by omega)]
 by_cases e0:at2 A (tr j x a) j=0
 ·rw [if_pos e0,e0]
  show at2 A (tr j x a) b=_
  grind
 ·rw [if_neg e0]
  unfold kM
  rw [wC (by rw [h.2 _ (aBL hj hx ha)];exact hb),if_neg (by omega)]
  rfl
theorem aUJ {A:Mt} {n j x:Nat} (h:aAV A n n) (hj:j < n) (hjx:j≤x) (hx:x < n) (h0:at2 A x j≠0):
  dt (n - j) (aBW A j)=esg j x*at2 A x j*dt (n - (j+1)) (aBW (wD A j x) (j+1)):=by
 obtain ⟨m,hm⟩:∃m,n - j=m+1:=⟨n - j - 1,by omega⟩
 have hm2:n - (j+1)=m:=by omega
 rw [hm,hm2]
 -- exchanged
 have h1:dt (m+1) (fun a b=>aBW A j (tr 0 (x - j) a) b)=esg j x*dt (m+1) (aBW A j):=by
  unfold esg
  by_cases e:j=x
  ·subst e
   rw [if_pos rfl,Nat.sub_self,show (fun a b=>aBW A j (tr 0 0 a) b)=aBW A j by funext a b;simp only [tr];split <;>simp_all];grind
  ·rw [if_neg e,aOG (by omega) (by omega) (by omega)];grind
 obtain ⟨g,hg⟩:∃g:Nat→Nat→Rat,g=fun a b=>aBW A j (tr 0 (x - j) a) b:=⟨_,rfl⟩
 rw [←hg] at h1
 have htr:∀a,tr 0 (x - j) a+j=tr j x (a+j):=fun a=>by
  by_cases e1:a=0
  ·have:tr 0 (x - j) a=x - j:=by simp [tr,e1]
   have h2:tr j x (a+j)=x:=by simp [tr,e1]
   omega
  ·by_cases e2:a=x - j
   ·have:tr 0 (x - j) a=0:=by simp [tr,e1,e2]
    have h2:tr j x (a+j)=j:=by simp [tr,e1,show a+j=x by omega]
    omega
   ·have:tr 0 (x - j) a=a:=by simp [tr,e1,e2]
    have h2:tr j x (a+j)=a+j:=by simp [tr,e1,show ¬a+j=x by omega]
    omega
 have hgv:∀a b,g a b=at2 A (tr j x (a+j)) (b+j):=fun a b=>by rw [hg];show at2 A (tr 0 (x - j) a+j) (b+j)=_;rw [htr]
 have htj:tr j x (0+j)=x:=by simp [tr]
 have hg0:∀b,g 0 b=at2 A x (b+j):=fun b=>by rw [hgv,htj]
 have h2:=aMS (n:=m+1) (r:=0) (f:=g) (c:=fun a=>g a 0 / g 0 0) (by omega)
 have hg00:g 0 0≠0:=by rw [hg0,Nat.zero_add];exact h0
 have h3:dt (m+1) (fun a b=>if a=0 then g 0 b else g a b - g a 0 / g 0 0*g 0 b)=g 0 0*dt m (aBW (wD A j x) (j+1)):=by
  rw [aJH (fun i hi _=>by
   rw [if_neg (by omega)]
   have:g i 0 / g 0 0*g 0 0=g i 0:=by grind
   grind)]
  rw [if_pos rfl]
  congr 1
  apply iY
  intro a b ha hb
  rw [if_neg (by omega)]
  show _=at2 (wD A j x) (a+(j+1)) (b+(j+1))
  rw [aPT h hj hx (by omega) (by omega) (by omega) (by omega),hg0,hg0,hgv,hgv,Nat.zero_add]
  rw [show a+1+j=a+(j+1) by omega,show b+1+j=b+(j+1) by omega]
 have hs:esg j x*esg j x=1:=by unfold esg;split <;>grind
 have h4:dt (m+1) (aBW A j)=esg j x*dt (m+1) g:=by rw [h1];grind
 rw [h4,←h2,h3,hg0,Nat.zero_add];grind
theorem aRX {A:Mt} {n j:Nat} (hj:j < n) (h:∀i,j≤i→i < n→at2 A i j=0):dt (n - j) (aBW A j)=0:=by
 obtain ⟨m,hm⟩:∃m,n - j=m+1:=⟨n - j - 1,by omega⟩
 rw [hm]
 exact aHK (fun i hi=>by show at2 A (i+j) (0+j)=0;rw [Nat.zero_add];exact h _ (by omega) (by omega))
theorem aXD {A:Mt} {n:Nat}:dt (n - 0) (aBW A 0)=dt n (at2 A):=rfl
end Go.Proofs.YtgpkjcmipiodcaaGreat
namespace Go.Proofs.YtgpkjcmipiodcaaGreat
open Go Go.Fx
theorem aTR {A:Mt} {r:Nat} (h:r < A.length):swp A r r=A:=by
 have e:rowAt A r=A[r]:=by simp [rowAt,List.getD,h]
 unfold swp
 rw [e,List.set_set,List.set_getElem_self]
theorem aVB {rows:List MR} {R C:Nat} (hl:rows.length=R) (hc:∀r∈rows,r.es.length=C):aAV (mq rows) R C:=
 ⟨by simp [hl],fun i hi=>by rw [nV (by omega)];simp [hc _ (bJ (ms:=rows) (i:=(i:Int)) (by omega))]⟩
theorem aSF {rows4 rows2:List MR} {n j:Nat} (h4:rows4.length=n) (h2:rows2.length=n)
  (hk:∀t:Nat,t < n→t≤j→gt rows4 (t:Int)=gt rows2 (t:Int))
  (hd:∀t:Nat,t < n→j < t→qs (gt rows4 (t:Int)).es=if at2 (mq rows2) t j=0 then qs (gt rows2 (t:Int)).es else kM j (at2 (mq rows2) t j / at2 (mq rows2) j j) (rowAt (mq rows2) j) (qs (gt rows2 (t:Int)).es)):
  mq rows4=(mq rows2).mapIdx (fun i row=>if i≤j then row else if row.getD j 0=0 then row else kM j (row.getD j 0 / at2 (mq rows2) j j) (rowAt (mq rows2) j) row):=by
 apply List.ext_getElem
 ·simp [h4,h2]
 ·intro t h1 h3
  have ht:t < n:=by simpa [h4] using h1
  have e4:(mq rows4)[t]=qs (gt rows4 (t:Int)).es:=by rw [iH (by omega)];simp
  have e3:(mq rows2)[t]'(by simp;omega)=qs (gt rows2 (t:Int)).es:=by rw [iH (by omega)];simp
  have ea:at2 (mq rows2) t j=(qs (gt rows2 (t:Int)).es).getD j 0:=by unfold at2;rw [nV (by omega)]
  rw [e4,List.getElem_mapIdx,e3]
  by_cases htj:t≤j
  ·rw [if_pos htj,hk t ht htj]
  ·rw [if_neg htj,hd t ht (by omega),ea]
/- regions that draw: some reads see all up to a first effect, others what stays up to a second one -/
section
variable {P:Program} {n:Nat} {Q:Exit→Act→World→Prop} {G:Env} {X:List Nat} {w0:World} {M M' M1 Ms:List Ent} {I I' I1 Is:List aV}
def CsL (J1 J2:Nat) (X:List Nat) (w0:World) (M:List Ent) (I:List aV) (Ms:List Ent) (Is:List aV):Nat→World→Prop:=fun s w=>(s≤J1→Mem X w0 M I w)∧(s≤J2→Mem X w0 Ms Is w)
theorem aRE {id:Nat} {l:List Oper} (J1 J2:Nat) (Ms:List Ent) (Is:List aV) (p ms:List Nat) (hM:SubP M Ms) (hI:Inc I Is) (hx:P.follows .mixedOrders=true)
  (hp:(Region.noSelect l.toArray && iP l.toArray p ms (Array.replicate l.length false) && p.length==l.length)=true)
  (h:RD P n l Q (.any (CsL J1 J2 X w0 M I Ms Is) 0 ms) (pick l p) G X w0 M I):TD P n (.region id l.toArray true) Q G X w0 M I:=
 xE (CsL J1 J2 X w0 M I Ms Is) p ms hx (fun s w h=>⟨fun hs=>h.1 (by omega),fun hs=>h.2 (by omega)⟩) hp (fun _ h=>⟨fun _=>h,fun _=>h.weak hM hI⟩) h
theorem aMU {J1 J2 k:Nat} {ms:List Nat} (h:k+ms.headD 0≤J1):View (.any (CsL J1 J2 X w0 M1 I1 Ms Is) k ms) X w0 M I M1 I1:=⟨fun w w' _ hc=>by
 have hc':CsL J1 J2 X w0 M1 I1 Ms Is (k+ms.headD 0) w':=hc
 exact hc'.1 h⟩
theorem aCF {J1 J2 k:Nat} {ms:List Nat} (h:k+ms.headD 0≤J2):View (.any (CsL J1 J2 X w0 M1 I1 Ms Is) k ms) X w0 M I Ms Is:=⟨fun w w' _ hc=>by
 have hc':CsL J1 J2 X w0 M1 I1 Ms Is (k+ms.headD 0) w':=hc
 exact hc'.2 h⟩
theorem bAC {J1 J2 k:Nat} {ms:List Nat} (h1:SubP M M1) (i1:Inc I I1) (h2:SubP M Ms) (i2:Inc I Is):OkD (.any (CsL J1 J2 X w0 M1 I1 Ms Is) k ms) X w0 M I:=⟨fun w hw=>by
 show CsL J1 J2 X w0 M1 I1 Ms Is (k+1) w
 exact ⟨fun _=>hw.weak h1 i1,fun _=>hw.weak h2 i2⟩⟩
theorem aZS {J1 J2 k:Nat} {ms:List Nat} (h1:J1≤k) (h2:SubP M Ms) (i2:Inc I Is):OkD (.any (CsL J1 J2 X w0 M1 I1 Ms Is) k ms) X w0 M I:=⟨fun w hw=>by
 show CsL J1 J2 X w0 M1 I1 Ms Is (k+1) w
 exact ⟨fun hs=>by omega,fun _=>hw.weak h2 i2⟩⟩
end
section
variable {X:List Nat} {w0:World} {M0:List Ent} {I0:List aV}
abbrev zRm:List Value:=[.bool false, .slice none 0 0, .bool false, .slice none 0 0]
theorem aBZ {a:MX} {n k0:Nat} (hb:kb k0 n≤20000000000) (hk0:k0≤20000000000) (da:a.fit n n) (ha:pW a k0∈I0):CD Tryz.prog 160 [mv a] X w0 M0 I0 (RQc (dt n (at2 a.q)) (kb k0 n) M0 I0):=by
 obtain ⟨n1,n2⟩:=da.2.1
 refine wH (fun w hw=>Mem.xsml ha da (by omega) hw) (fun sa=>?_)
 have hC:=fun M0 I0 h1=>aFV (X:=X) (w0:=w0) (M0:=M0) (I0:=I0) (a:=a.raw) sa h1
 have e0:sqC a.raw=0:=by
  unfold sqC
  rw [if_pos da.ok,a.raw_rows,MX.raw_c0 da,da.1.1,if_pos rfl]
 rw [e0,aCU] at hC
 have hW:=fun (x:Int) (hx:x.natAbs≤1) M0 I0=>jA (X:=X) (w0:=w0) (M0:=M0) (I0:=I0) (x:=x) (by omega) (k:=0) hx
 refine bO (φ:=vJ a.raw) (Hv.xraw ha (by omega)) ?_
 refine aZ Tryz.func160 rfl Tryz.ntmps160 rfl ?_
 refine fE ?_
 refine bG (fun b2=>?_)
 repeat refine aB ?_
 refine dP rfl (hC _ _ aA) ?_
 repeat refine aB ?_
 (refine aU rfl (aKX da aA) ?_;rintro _ _ _ ⟨bo,rows0,rfl,hl0,hc0,hq0,rfl,rfl⟩;refine aL ?_)
 repeat refine aB ?_
 refine iG rfl (hW 1 (by decide) _ _) (fun d0 hd0=>?_)
 repeat refine aB ?_
 refine bG (fun b6=>?_)
 repeat refine aB ?_
 obtain ⟨M1,hM1⟩:∃M1:List Ent,M1= .blk b2 zRm 40::M0:=⟨_,rfl⟩
 rw [←hM1]
 have hmq0:mq rows0=a.q:=by rw [da.1.mk];exact hq0
 refine bD (φ:=cK d0 (kb k0 0)) (Hv.q (k:=0) (List.Mem.head _) (Nat.zero_le _)) ?_
 refine kS [2,5,6,20] rfl (fun k G M I=>∃(j:Nat) (rows1:List MR) (d:RE),j≤n∧k=n - j∧rows1.length=n∧(∀r∈rows1,r.es.length=n)∧dt n (at2 a.q)=d.q*dt (n - j) (aBW (mq rows1) j)∧G=[(21, .int .i64 j)]∧M= .blk b6 (eR d) 40:: .blk bo (recs eM rows1) 52::(rows1.map gF++M1)∧I=cK d (kb k0 j)::allM rows1 (kb k0 j)::I0) (n) (⟨0,rows0,d0,by omega,rfl,hl0,hc0,by rw [hd0,hmq0,aXD];grind,rfl,rfl,rfl⟩) ?_
 clear hC
 rintro kk G M I ⟨j,rows1,d,hj,rfl,hl1,hC1,hD,rfl,rfl,rfl⟩
 have hCg:∀t:Nat,t < n→(gt rows1 (t:Int)).es.length=n:=fun t ht=>hC1 _ (bJ (by omega))
 have hdim:=aVB hl1 hC1
 have hbj:=aHR k0 (m:=j) (n:=n) hj
 by_cases hjn:j < n
 ·have hb4:4*kb k0 j+1≤20000000000:=Nat.le_trans (aHR k0 (m:=j+1) (n:=n) hjn) hb
  have hkj1:kb k0 (j+1)=4*kb k0 j+1:=rfl
  generalize hkj:kb k0 j=kj at*
  repeat refine aB ?_
  refine kS [2,5,6,7,20,21] rfl (fun k G M I=>∃x:Nat,j≤x∧x≤n∧k=n - x∧(∀i:Nat,j≤i→i < x→at2 (mq rows1) i j=0)∧G=[(8, .int .i64 x)]∧M= .blk b6 (eR d) 40:: .blk bo (recs eM rows1) 52::(rows1.map gF++M1)∧I=cK d kj::allM rows1 kj::I0) (n - j) (⟨j,by omega,by omega,rfl,fun i h1 h2=>by omega,rfl,rfl,rfl⟩) ?_
  rintro k G M I ⟨x,hjx,hxn,rfl,hz,rfl,rfl,rfl⟩
  by_cases hxn2:x < n
  ·have hlx:=hCg x hxn2
   have hat:=yJ (rows:=rows1) (i:=x) (j:=j) (by omega) (by omega)
   have hS:=kV (X:=X) (w0:=w0) (M0:= .blk (gt rows1 (x:Int)).b (recs eR (gt rows1 (x:Int)).es) 40:: .blk b6 (eR d) 40:: .blk bo (recs eM rows1) 52::((rows1.eraseIdx x).map gF++M1)) (I0:=cK d kj::allM rows1 kj::I0) (e:=gt (gt rows1 (x:Int)).es (j:Int)) (k:=kj) (by omega) (Hv.elM (List.Mem.tail _ (List.Mem.head _)) (by omega) (by omega) (Nat.le_refl _))
   by_cases hx2:at2 (mq rows1) x j=0
   ·rw [hat] at hx2
    rw [(sG _).2 hx2] at hS
    refine oD (aBU (rows:=rows1) (i:=x) (by omega)) ?_
    repeat refine aB ?_
    (refine aU rfl (hS) ?_;rintro _ _ _ ⟨rfl,rfl,rfl⟩;refine aL ?_)
    repeat refine aB ?_
    refine yQ (aBU (rows:=rows1) (i:=x) (by omega)).symm ?_
    refine iC (n - (x+1)) (⟨x+1,by omega,by omega,rfl,fun i h1 h2=>?_,rfl,rfl,rfl⟩)
    by_cases e:i=x
    ·rw [e,hat];exact hx2
    ·exact hz i h1 (by omega)
   ·have hxne:=hx2
    rw [hat] at hx2
    have hs0:¬(gt (gt rows1 (x:Int)).es (j:Int)).q.num.sign=0:=fun h=>hx2 ((sG _).1 h)
    generalize (gt (gt rows1 (x:Int)).es (j:Int)).q.num.sign=sg1 at*
    refine oD (aBU (rows:=rows1) (i:=x) (by omega)) ?_
    repeat refine aB ?_
    (refine aU rfl (hS) ?_;rintro _ _ _ ⟨rfl,rfl,rfl⟩;refine aL ?_)
    clear hS
    repeat refine aB ?_
    refine oD (aBU (rows:=rows1) (i:=x) (by omega)).symm ?_
    refine kH (fun G M I=>∃(rows2:List MR) (d2:RE),rows2.length=n∧(∀r∈rows2,r.es.length=n)∧mq rows2=swp (mq rows1) j x∧d2.q=esg j x*d.q∧G=[(2, .pointer (some ⟨b2,0,none⟩)),(5, .slice (some ⟨bo,0,none⟩) n n),(6, .pointer (some ⟨b6,0,none⟩)),(7, .int .i64 (j:Int)),(20, .int .i64 (n:Int)),(21, .int .i64 (j:Int))]∧M= .blk b6 (eR d2) 40:: .blk bo (recs eM rows2) 52::(rows2.map gF++M1)∧I=cK d2 kj::allM rows2 kj::I0) ?_ ?_
    ·by_cases hxj:x=j
     ·subst hxj
      repeat refine aB ?_
      refine mR ⟨rows1,d,hl1,hC1,?_,?_,rfl,rfl,rfl⟩
      ·exact (aTR (by simp [hl1];omega)).symm
      ·unfold esg;rw [if_pos rfl];grind
     ·repeat refine aB ?_
      (repeat refine aJ ?_);refine aO 0 [0,1,2,3,4,5,6,7,8,9,10,11,12,13,14,15] [0,0,1,1,0,0,0,0,1,1,1,0,0,0,0,0] mixed (by kernel_rfl) ?_
      repeat refine yXh ?_
      refine oH rfl rfl rfl iN (StAt.r1 (gt rows1 (j:Int)) (by omega) rfl) rfl rfl ⟨okF,?_⟩
      repeat refine yXh ?_
      refine oH rfl rfl rfl iN (StAt.r1 (gt rows1 (x:Int)) (by rw [dB];omega) rfl) rfl rfl ⟨okF,?_⟩
      obtain ⟨rows2,hrows2⟩:∃rows2,rows2=st (st rows1 (x:Int) (gt rows1 (j:Int))) (j:Int) (gt rows1 (x:Int)):=⟨_,rfl⟩
      have hsp:=swap_perm (rows:=rows1) (r:=x) (k:=j) (by omega) (by omega)
      rw [←hrows2] at hsp ⊢
      refine aCO (M':= .blk b6 (eR d) 40:: .blk bo (recs eM rows2) 52::(rows2.map gF++M1)) (List.Perm.cons _ (List.Perm.cons _ ((hsp.symm.map gF).append_right M1))) ?_
      refine fH (φ:=allM rows2 kj) (Hv.permM (List.Mem.tail _ (List.Mem.head _)) hsp) ?_
      repeat refine aB ?_
      refine iG rfl (aNF (k:=kj) (by omega) (Hv.mem aA)) (fun d2 hd2=>?_)
      repeat refine aB ?_
      refine mR ⟨rows2,d2,by rw [hsp.length_eq];exact hl1,fun r hr=>hC1 r (hsp.mem_iff.1 hr),?_,?_,rfl,rfl,rfl⟩
      ·rw [hrows2]
       unfold st swp
       simp only [Int.toNat_natCast]
       rw [aEJ,aEJ,nV (by omega),nV (by omega),List.set_comm _ _ hxj]
      ·unfold esg;rw [if_neg (fun e=>hxj e.symm),hd2];grind
    ·clear hs0 hz
     rintro G M I ⟨rows2,d2,hl2,hC2,hmq2,hd2,rfl,rfl,rfl⟩
     have hC2g:∀t:Nat,t < n→(gt rows2 (t:Int)).es.length=n:=fun t ht=>hC2 _ (bJ (by omega))
     have hdim2:=aVB hl2 hC2
     have hlr:=hC2g j hjn
     have hatj:=yJ (rows:=rows2) (i:=j) (j:=j) (by omega) (by omega)
     have hpe:at2 (mq rows2) j j=at2 (mq rows1) x j:=by
      rw [hmq2]
      unfold at2
      rw [rO hdim hjn hxn2]
      simp [tr]
     have hpiv:(gt (gt rows2 (j:Int)).es (j:Int)).q≠0:=by rw [←hatj,hpe];exact hxne
     have hEl:∀I,allM rows2 kj∈I→Hv I (cK (gt (gt rows2 (j:Int)).es (j:Int)) kj):=fun I h=>Hv.elM h (by omega) (by omega) (Nat.le_refl _)
     refine oD (aBU (rows:=rows2) (i:=j) (by omega)) ?_
     (repeat refine aJ ?_);refine aO 1 [0,1,2,3,4,5,6,7,8,9] [0,1,1,1,1,1,1,0,0,0] mixed (by kernel_rfl) ?_
     repeat refine aB ?_
     refine iG rfl (iV (k:=kj) (m:=kj) (by omega) (Hv.mem aA) (hEl _ aA)) (fun d3 hd3=>?_)
     repeat refine aB ?_
     refine oD (aBU (rows:=rows2) (i:=j) (by omega)).symm ?_
     refine bD (φ:=allM rows2 (4*kj+1)) (Hv.monoM (k:=kj) aA (by omega)) ?_
     refine kS [2,5,6,7,20,21] rfl (fun k G M I=>∃(i:Nat) (rows4:List MR),j+1≤i∧i≤n∧k=n - i∧rows4.length=n∧(∀t:Nat,t < n→(gt rows4 (t:Int)).es.length=n)∧(∀t:Nat,t < n→(t≤j∨i≤t)→gt rows4 (t:Int)=gt rows2 (t:Int))∧(∀t:Nat,j < t→t < i→qs (gt rows4 (t:Int)).es=if at2 (mq rows2) t j=0 then qs (gt rows2 (t:Int)).es else kM j (at2 (mq rows2) t j / at2 (mq rows2) j j) (rowAt (mq rows2) j) (qs (gt rows2 (t:Int)).es))∧G=[(9, .int .i64 i)]∧M= .blk b6 (eR d3) 40:: .blk bo (recs eM rows4) 52::(rows4.map gF++M1)∧I=allM rows4 (4*kj+1)::cK d3 (kj+kj)::allM rows2 kj::I0) (n - (j+1)) (⟨j+1,rows2,by omega,by omega,rfl,hl2,hC2g,fun _ _ _=>rfl,fun t h1 h2=>by omega,rfl,rfl,rfl⟩) ?_
     rintro k G M I ⟨i,rows4,hji,hin,rfl,hl4,hC4,hrest,hdone,rfl,rfl,rfl⟩
     have hg4j:=hrest j hjn (.inl (Nat.le_refl _))
     by_cases hi:i < n
     ·have hgi:=hrest i hi (.inr (Nat.le_refl _))
      have hij:i≠j:=by omega
      have hlx:=hC4 i hi
      have hlj:=hC4 j hjn
      have hat:at2 (mq rows2) i j=(gt (gt rows4 (i:Int)).es (j:Int)).q:=by rw [hgi];exact yJ (by omega) (by rw [hC2g i hi];omega)
      have hEi:∀I,allM rows2 kj∈I→Hv I (cK (gt (gt rows4 (i:Int)).es (j:Int)) kj):=fun I h=>by rw [hgi];exact Hv.elM h (by omega) (by rw [hC2g i hi];omega) (Nat.le_refl _)
      have hEj:∀I,allM rows2 kj∈I→Hv I (cK (gt (gt rows4 (j:Int)).es (j:Int)) kj):=fun I h=>by rw [hg4j];exact hEl I h
      have hpj:(gt (gt rows4 (j:Int)).es (j:Int)).q≠0:=by rw [hg4j];exact hpiv
      have hRi:∀I,allM rows2 kj∈I→Hv I (bW (gt rows4 (i:Int)).es kj):=fun I h=>by rw [hgi];exact Hv.rowMm h (by omega) (Nat.le_refl _)
      have hRj:∀I,allM rows2 kj∈I→Hv I (bW (gt rows4 (j:Int)).es kj):=fun I h=>by rw [hg4j];exact Hv.rowMm h (by omega) (Nat.le_refl _)
      have hfoc:=foc2 (rows:=rows4) (i:=i) (j:=j) (by omega) (by omega) hij (A:= .blk b6 (eR d3) 40) (B:= .blk bo (recs eM rows4) 52) (M1:=M1)
      have hS:=fun M0 I0 h=>kV (X:=X) (w0:=w0) (M0:=M0) (I0:=I0) (e:=gt (gt rows4 (i:Int)).es (j:Int)) (k:=kj) (by omega) h
      refine oD hfoc ?_
      by_cases hx0:(gt (gt rows4 (i:Int)).es (j:Int)).q=0
      ·rw [(sG _).2 hx0] at hS
       repeat refine aB ?_
       refine dP rfl (hS _ _ (hEi _ aA)) ?_
       repeat refine aB ?_
       refine yQ hfoc.symm ?_
       refine iC (n - (i+1)) (⟨i+1,rows4,by omega,by omega,rfl,hl4,hC4,fun t ht h=>hrest t ht (by omega),fun t h1 h2=>?_,rfl,rfl,rfl⟩)
       by_cases hti:t=i
       ·subst hti
        rw [hat,if_pos hx0,hgi]
       ·exact hdone t h1 (by omega)
      ·have hs0:¬(gt (gt rows4 (i:Int)).es (j:Int)).q.num.sign=0:=fun h=>hx0 ((sG _).1 h)
       generalize (gt (gt rows4 (i:Int)).es (j:Int)).q.num.sign=sg2 at*
       repeat refine aB ?_
       refine dP rfl (hS _ _ (hEi _ aA)) ?_
       repeat refine aB ?_
       (repeat refine aJ ?_);refine aRE 1 2 (.blk b6 (eR d3) 40:: .blk bo (recs eM rows4) 52::((mH rows4 i j).map gF++M1)) (allM rows4 (4*kj+1)::cK d3 (kj+kj)::allM rows2 kj::I0) [0,1,2,3,4,5,6,7,8,9,10,11,12,13,14,15,16,17,18,19,20,21,23,22,24] [2,2,2,1,2,2,2,1,2,2,2,2,2,2,1,2,2,2,2,2,2,1,1,0,0] aG aF mixed (by kernel_rfl) ?_
       repeat refine aB ?_
       (apply kX;exact aCF (by decide);exact rfl;exact aA;exact vS;exact rfl;exact rfl)
       repeat refine aB ?_
       (apply kX;exact aCF (by decide);exact rfl;exact aA;exact vS;exact rfl;exact rfl)
       repeat refine aB ?_
       (apply kX;exact aCF (by decide);exact rfl;exact aA;exact vS;exact rfl;exact rfl)
       repeat refine aB ?_
       (apply mE;exact aMU (by decide);exact rfl;exact aA;exact atY;exact rfl;exact rfl)
       repeat refine aB ?_
       (apply kX;exact aCF (by decide);exact rfl;exact aA;exact vS;exact rfl;exact rfl)
       repeat refine aB ?_
       (apply mE;exact aMU (by decide);exact rfl;exact aA;exact atY;exact rfl;exact rfl)
       repeat refine aB ?_
       (refine aU rfl (aBN (k:=kj) (m:=kj) (by omega) hpj (hEi _ aA) (hEj _ aA)) ?_;rintro _ _ _ ⟨rfl,κ,rfl,hκ,rfl⟩;refine ⟨bAC aG aF aG aF,?_⟩)
       repeat refine aB ?_
       rw [hlx,hlj]
       refine fH (φ:=bW (gt rows4 (i:Int)).es kj) (hRi _ aA) ?_
       refine fH (φ:=bW (gt rows4 (j:Int)).es kj) (hRj _ aA) ?_
       (refine aU rfl (aBI (kz:=kj) (m:=kj+kj) (h:=kj) (fr:=j) (n:=n) (κ:=κ) (M1:= .blk b6 (eR d3) 40:: .blk bo (recs eM rows4) 52::((mH rows4 i j).map gF++M1)) (by omega) (by omega) hlx hlj (by omega) aA aA aA rfl) ?_;rintro _ _ _ ⟨rfl,e5,hl5,hd5,rfl,rfl⟩;refine ⟨aZS (by decide) aG aF,?_⟩)
       rw [show kj+(kj+kj+kj)+1=4*kj+1 by omega]
       obtain ⟨rows5,hrows5⟩:∃rows5,rows5=rows4.set i ⟨(gt rows4 (i:Int)).b,e5⟩:=⟨_,rfl⟩
       have hl5':rows5.length=n:=by rw [hrows5,List.length_set];exact hl4
       have hh5:recs eM rows4=recs eM rows5:=by rw [hrows5];exact (wL (by omega) (by rw [hlx,hl5])).symm
       have hr5:mH rows4 i j=mH rows5 i j:=by rw [hrows5,xC _ _ _ _ hij]
       have hg5i:gt rows5 (i:Int)=⟨(gt rows4 (i:Int)).b,e5⟩:=by rw [hrows5,iH (by simpa using (show i < rows4.length by omega))];simp
       have hg5o:∀t:Nat,t < n→t≠i→gt rows5 (t:Int)=gt rows4 (t:Int):=fun t ht hti=>by
        rw [hrows5,iH (by simpa using (show t < rows4.length by omega)),List.getElem_set_ne (Ne.symm hti)];exact (iH (by omega)).symm
       have hf5:=foc2 (rows:=rows5) (i:=i) (j:=j) (by omega) (by omega) hij (A:= .blk b6 (eR d3) 40) (B:= .blk bo (recs eM rows5) 52) (M1:=M1)
       rw [hg5i,hg5o j (by omega) (Ne.symm hij)] at hf5
       rw [hh5,hr5]
       refine aCO hf5.symm ?_
       refine fH (φ:=allM rows5 (4*kj+1)) (by rw [hrows5];exact Hv.setM (k:=4*kj+1) (m:=4*kj+1) aA aA (by omega) (by omega)) ?_
       repeat refine aB ?_
       refine iC (n - (i+1)) (⟨i+1,rows5,by omega,by omega,rfl,hl5',fun t ht=>?_,fun t ht h=>?_,fun t h1 h2=>?_,rfl,rfl,rfl⟩)
       ·by_cases hti:t=i
        ·subst hti;rw [hg5i];exact hl5
        ·rw [hg5o t ht hti];exact hC4 t ht
       ·rw [hg5o t ht (by omega)];exact hrest t ht (by omega)
       ·by_cases hti:t=i
        ·subst hti
         rw [hg5i,hat,if_neg hx0,←hgi]
         have e1:rowAt (mq rows2) j=qs (gt rows4 (j:Int)).es:=by rw [nV (by omega),hg4j]
         have e2:at2 (mq rows2) j j=(gt (gt rows4 (j:Int)).es (j:Int)).q:=by rw [hg4j];exact hatj
         rw [e1,e2,←hκ]
         exact aSA hl5 hlx hlj hd5
        ·rw [hg5o t (by omega) hti];exact hdone t h1 (by omega)
     ·obtain rfl:i=n:=by omega
      have hmq4:mq rows4=wD (mq rows1) j x:=by
       unfold wD
       rw [←hmq2]
       exact aSF hl4 hl2 (fun t ht h=>hrest t ht (.inl h)) (fun t ht h=>hdone t h ht)
      repeat refine aB ?_
      refine fF (φ:=cK d3 (kb k0 (j+1))) (Hv.q (k:=kj+kj) aA (by omega)) ?_
      refine fF (φ:=allM rows4 (kb k0 (j+1))) (Hv.monoM (k:=4*kj+1) aA (by omega)) ?_
      refine iC (i - (j+1)) (⟨j+1,rows4,d3,by omega,rfl,hl4,fun r hr=>?_,?_,rfl,rfl,rfl⟩)
      ·obtain ⟨t,ht,rfl⟩:=List.mem_iff_getElem.1 hr
       have:=hC4 t (by omega)
       rwa [iH ht] at this
      ·rw [hD,hd3,←hatj,hpe,hd2,aUJ hdim hjn hjx hxn2 hxne,hmq4];grind
  ·obtain rfl:x=n:=by omega
   repeat refine aB ?_
   refine iG rfl (hW 0 (by decide) _ _) (fun e1 he1=>?_)
   rw [hM1]
   refine aBB (M':= .blk b2 zRm 40::M0) (I':=cK e1 0::I0) (SubP.drop (SubP.drop (mK SubP.refl))) aF ?_
   repeat refine aB ?_
   refine fF (φ:=cK e1 (kb k0 x)) (Hv.q (k:=0) aA (Nat.zero_le _)) ?_
   refine dI (rs:=[.cell 2 40, .tmp 3]) (vs:=[rv e1, .int .i64 0]) (.inl rfl) rfl (.cellN (cs:=eR e1) inferInstance rfl aA rfl (.tmp rfl .nil)) rfl M0 (cK e1 (kb k0 x)::I0) aG aF ⟨rfl,e1,rfl,?_,rfl⟩
   rw [hD,he1,aRX hjn (fun i h1 h2=>hz i h1 h2)];grind
 ·obtain rfl:j=n:=by omega
  rw [hM1]
  refine aMQ (M':= .blk b6 (eR d) 40:: .blk b2 zRm 40::M0) (I':=cK d (kb k0 j)::I0) (SubP.cons .here (SubP.drop (mK SubP.refl))) aF ?_
  repeat refine aB ?_
  refine dI (rs:=[.cell 2 40, .tmp 3]) (vs:=[rv d, .int .i64 0]) (.inl rfl) rfl (.cellN (cs:=eR d) inferInstance rfl aA rfl (.tmp rfl .nil)) rfl M0 (cK d (kb k0 j)::I0) aG aF ⟨rfl,d,rfl,?_,rfl⟩
  rw [hD,Nat.sub_self]
  show d.q=d.q*1
  grind
end
end Go.Proofs.YtgpkjcmipiodcaaGreat
namespace Go.Proofs.YtgpkjcmipiodcaaGreat
open Go Go.Fx
def aBY (n:Nat) (A:Mt):Mt:=yN n (n+n) (fun i j=>if j < n then at2 A i j else qX i (j - n))
def zU (n:Nat) (A:Mt):Mt:=yN n n (fun i j=>at2 (aBT (aBY n A) n).1 i (n+j))
theorem aMY {R C:Nat} {F:Nat→Nat→Rat}:aAV (yN R C F) R C:=⟨by simp [yN],fun i hi=>by simp [yN,rowAt,List.getD,hi]⟩
theorem aTY {n:Nat} {A:Mt} {i j:Nat} (hi:i < n) (hj:j < n):at2 (aBY n A) i j=at2 A i j:=by
 unfold aBY
 rw [oV hi (by omega),if_pos hj]
theorem aZM {n:Nat} {A:Mt} {i j:Nat} (hi:i < n) (hj:j < n):at2 (aBY n A) i (n+j)=qX i j:=by
 unfold aBY
 rw [oV hi (by omega),if_neg (by omega),Nat.add_sub_cancel_left]
theorem aNC {n:Nat} {A:Mt}:(aBT (aBY n A) n).2.length=n↔dt n (at2 A)≠0:=by
 obtain ⟨_,s,hr⟩:=aEF (A:=aBY n A) (R:=n) (C:=n+n) aMY n (by omega)
 rw [hr.iff (by omega),iY (f:=at2 (aBY n A)) (g:=at2 A) (fun i j hi hj=>aTY hi hj)]
theorem aVU {n:Nat} {A:Mt} (h:dt n (at2 A)≠0):(∀i j,i < n→j < n→vK n (at2 A) (at2 (zU n A)) i j=qX i j)∧(∀i j,i < n→j < n→vK n (at2 (zU n A)) (at2 A) i j=qX i j):=by
 obtain ⟨_,s,hr⟩:=aEF (A:=aBY n A) (R:=n) (C:=n+n) aMY n (by omega)
 obtain ⟨h1,h2⟩:=hr.inv (a:=at2 A) (aNC.2 h) (fun i j hi hj=>aTY hi hj) (fun i j hi hj=>aZM hi hj)
 have e:∀i j,i < n→j < n→at2 (zU n A) i j=at2 (aBT (aBY n A) n).1 i (n+j):=fun i j hi hj=>by unfold zU;rw [oV hi hj]
 constructor
 ·intro i j hi hj
  rw [←h1 i j hi hj]
  exact yL (fun _ _=>rfl) (fun k hk=>e k j hk hj)
 ·intro i j hi hj
  rw [←h2 i j hi hj]
  exact yL (fun k hk=>e i k hi hk) (fun _ _=>rfl)
section
variable {X:List Nat} {w0:World} {M0:List Ent} {I0:List aV}
theorem aHC {a:MX} {n k0:Nat} (hb:kb k0 n≤20000000000) (hk0:k0≤20000000000) (da:a.fit n n) (ha:pW a k0∈I0):CD Tryz.prog 47 [mv a] X w0 M0 I0 (fun v M I=>if dt n (at2 a.q)=0 then (M0=M∧I0=I∧v= .tuple #[.slice none 0 0, .int .i64 14]) else XQc (zU n a.q) n n (kb k0 n) M0 I0 v M I):=by
 obtain ⟨n1,n2⟩:=da.2.1
 refine wH (fun w hw=>Mem.xsml ha da (by omega) hw) (fun sa=>?_)
 have hC:=fun M0 I0 h1=>aFV (X:=X) (w0:=w0) (M0:=M0) (I0:=I0) (a:=a.raw) sa h1
 have e0:sqC a.raw=0:=by
  unfold sqC
  rw [if_pos da.ok,a.raw_rows,MX.raw_c0 da,da.1.1,if_pos rfl]
 rw [e0,aCU] at hC
 have lR:=da.1.1
 refine bO (φ:=vJ a.raw) (Hv.xraw ha (by omega)) ?_
 refine aZ Tryz.func47 rfl Tryz.ntmps47 rfl ?_
 repeat refine aB ?_
 refine dP rfl (hC _ _ aA) ?_
 repeat refine aB ?_
 refine bG (fun b5=>?_)
 repeat refine aB ?_
 rw [lR]
 refine aC .here ?_
 repeat refine aB ?_
 (refine aS rfl (zD (R:=n) (C:=n) (g:=99) (fs:=#[]) (cs:=#[]) (k0:=0) (by omega) (by omega) qX (fun M I _ i j hi hj=>by have:=aWO (X:=X) (w0:=w0) (M0:=M) (I0:=I) (i:=(i:Int)) (j:=(j:Int));rw [←aVZ] at this;exact this)) rfl rfl ?_;rintro _ _ _ ⟨rfl,u,rfl,hu,hud,rfl⟩;refine aL ?_)
 repeat refine aB ?_
 refine fH (φ:=pW u k0) (Hv.xm (k:=0) aA (Nat.zero_le _)) ?_
 (refine aU rfl (aQE da ⟨hud,⟨n1,n2⟩,n1,n2⟩ aA aA) ?_;rintro _ _ _ ⟨bo,rows0,rfl,hl0,hc0,hq0,rfl,rfl⟩;refine aL ?_)
 repeat refine aB ?_
 refine bG (fun b6=>?_)
 repeat refine aB ?_
 refine mQ (fun _ hw=>hw.freezeB .here) ?_
 have hB:mq rows0=aBY n a.q:=by
  unfold aBY
  refine Eq.trans hq0 ?_
  refine aFI (R:=n) (C:=n+n) (fun i j hi hj=>?_)
  by_cases e:j < n
  ·rw [if_pos e,if_pos e]
  ·rw [if_neg e,if_neg e,hu,oV hi (by omega)]
 (repeat refine aJ ?_);refine kT 1 (M0) (aI (some ⟨b6,0,none⟩) [.slice (some ⟨bo,0,none⟩) n n]::aI (some ⟨b5,0,none⟩) [.int .i64 (n:Int)]::I0) [0,1,4,2,3,5] [0,0,1,0,0,0] (SubP.drop (mK SubP.refl)) aF mixed (by kernel_rfl) ?_
 repeat refine aB ?_
 have hRd:=fun I0 h=>aOY (X:=X) (w0:=w0) (M0:= .blk bo (recs eM rows0) 52::(rows0.map gF++M0)) (I0:=I0) (bo:=bo) (R:=n) (C:=n+n) (n:=n) (k0:=k0) (rows:=rows0) (M1:=M0) hl0 (by omega) (by omega) hc0 (by omega) (by omega) h rfl
 (refine aU rfl (hRd _ aA) ?_;rintro _ _ _ ⟨rows,pv,q,c,rfl,hl,hc,hred,hpv,rfl,rfl⟩;refine ⟨OkD.kY (SubP.drop (SubP.drop (mK SubP.refl))) aF,?_⟩)
 rw [hB] at hred
 have hiff:pv.length=n↔dt n (at2 a.q)≠0:=by
  have:=aNC (n:=n) (A:=a.q)
  rw [hred] at this
  exact this
 by_cases hd0:dt n (at2 a.q)=0
 ·simp only [if_pos hd0]
  have hlt:pv.length < n:=by
   rcases Nat.lt_or_ge pv.length n with h|h
   ·exact h
   ·exact absurd hd0 (hiff.1 (by omega))
  repeat refine aB ?_
  refine pI [2,3] (.inl rfl) rfl rfl rfl M0 I0 (SubP.drop (SubP.drop (mK SubP.refl))) aF ⟨rfl,rfl,rfl⟩
 ·simp only [if_neg hd0]
  have hlt:pv.length=n:=hiff.2 hd0
  repeat refine aB ?_
  refine aBB (M':= .blk bo (recs eM rows) 52::(rows.map gF++M0)) (I':=allM rows (kb k0 n)::aI (some ⟨b6,0,none⟩) [.slice (some ⟨bo,0,none⟩) n n]::aI (some ⟨b5,0,none⟩) [.int .i64 (n:Int)]::I0) (SubP.drop SubP.refl) aF ?_
  refine xU (fun _ hw=>aMW hw (List.Mem.head _)) ?_
  refine fH (φ:=bxX b6 (MR.x bo rows)) (by show Hv _ (aI _ [.slice (some ⟨bo,0,none⟩) (rows.map MR.l).length rows.length]);rw [List.length_map,hl];exact Hv.mem aA) ?_
  have xl:(MR.x bo rows).rows.length=n:=by show (rows.map MR.l).length=n;rw [List.length_map,hl]
  have xc:∀i:Nat,i < n→(gt (MR.x bo rows).rows (i:Int)).es.length=n+n:=fun i hi=>by
   have:gt (MR.x bo rows).rows (i:Int)=(gt rows (i:Int)).l:=qW (by omega)
   rw [this];exact hc _ (bJ (by omega))
  have hg:=fun M I (hI:∀φ∈bxX b6 (MR.x bo rows)::pW (MR.x bo rows) (kb k0 n)::allM rows (kb k0 n)::aI (some ⟨b6,0,none⟩) [.slice (some ⟨bo,0,none⟩) n n]::aI (some ⟨b5,0,none⟩) [.int .i64 (n:Int)]::I0,φ∈I) (i j:Nat) (hi:i < n) (hj:j < n)=>aKS (X:=X) (w0:=w0) (M0:=M) (I0:=I) (a:=MR.x bo rows) (p:=b6) (q:=b5) (k:=kb k0 n) (i:=i) (j:=j) (n:=n) (by omega) (by rw [xc i hi];omega) (by omega) (by omega) (hI _ aA) (hI _ aA) (hI _ aA)
  (refine aU rfl (zD (R:=n) (C:=n) (g:=101) (fs:=#[]) (cs:=#[pb b6,pb b5]) (k0:=kb k0 n) (by omega) (by omega) (fun i j=>at2 (MR.x bo rows).q i (n+j)) hg) ?_;rintro _ _ _ ⟨rfl,x,rfl,hx,hd,rfl⟩;refine aL ?_)
  rw [q_x] at hx
  repeat refine aB ?_
  refine pI [2,3] (by first|exact .inl rfl|exact .inr rfl) rfl rfl rfl _ _ aG aF (⟨rfl,x,rfl,by unfold zU;rw [hred];exact hx,hd,rfl⟩)
end
end Go.Proofs.YtgpkjcmipiodcaaGreat
namespace Go.Proofs.YtgpkjcmipiodcaaGreat
open Go Go.Fx
structure IL where
 p:Option Addr
 c:Nat
 xs:List Int
instance:Inhabited IL:=⟨⟨none,0,[]⟩⟩
abbrev eIL (r:IL):List Value:=[.slice r.p r.xs.length r.c]
abbrev ivL (r:IL):Value:= .slice r.p r.xs.length r.c
instance:Sized eIL 1:=⟨fun _=>rfl⟩
instance:Ones eIL:=⟨fun m u hu=>by simp only [eIL,List.mem_cons,List.not_mem_nil,or_false] at hu;subst hu;rfl⟩
/- ---------- IndexFunc, ContainsFunc of [][]int ---------- -/
section
variable {X:List Nat} {w0:World} {M0:List Ent} {I0:List aV}
end
theorem q_ext {x y:RL} (hl:x.es.length=y.es.length) (h:∀j:Nat,j < x.es.length→(gt x.es (j:Int)).q=(gt y.es (j:Int)).q):x.q=y.q:=by
 apply aAP
 ·simp [hl]
 ·intro t ht
  have ht':t < x.es.length:=by simpa using ht
  rw [oW ht',oW (by omega)]
  exact h t ht'
theorem q_at {x y:RL} (h:x.q=y.q) {j:Nat} (hj:j < x.es.length):(gt x.es (j:Int)).q=(gt y.es (j:Int)).q:=by
 have hl:x.es.length=y.es.length:=by have:=congrArg List.length h;simpa using this
 rw [←oW hj,←oW (by omega)]
 exact congrArg (fun l=>List.getD l j 0) h
section
variable {X:List Nat} {w0:World} {M0:List Ent} {I0:List aV}
end
end Go.Proofs.YtgpkjcmipiodcaaGreat
namespace Go.Proofs.YtgpkjcmipiodcaaGreat
open Go Go.Fx
structure AllIL (rows:List IL) (X:List Nat) (w:World):Prop where
 go:∀r∈rows,Sl X w r.p (recs (eI .i64) r.xs)
abbrev allIL (rows:List IL):aV:=AllIL rows
instance (rows:List IL):Fx.Good (AllIL rows):=⟨fun X Y w w' h he hY=>⟨fun r hm=>Sl.carry (h.go r hm) he hY⟩⟩
abbrev bxI (b:Nat) (q:Option Addr) (n c:Nat):aV:=aI (some ⟨b,0,none⟩) [.slice q n c]
section
variable {X:List Nat} {w0:World} {M0:List Ent} {I0:List aV}
end
end Go.Proofs.YtgpkjcmipiodcaaGreat
namespace Go.Proofs.YtgpkjcmipiodcaaGreat
open Go Go.Fx
def kA:Mt:=[[((2:Int):Rat),((1:Int):Rat)],[((1:Int):Rat),((1:Int):Rat)]]
def kC:Mt:=[[((1:Int):Rat),((-1:Int):Rat)],[((-1:Int):Rat),((2:Int):Rat)]]
section
variable {X:List Nat} {w0:World} {M0:List Ent} {I0:List aV}
end
end Go.Proofs.YtgpkjcmipiodcaaGreat
namespace Go.Proofs.YtgpkjcmipiodcaaGreat
open Go Go.Fx
open Go.ChangeShapes Go.WideShapes Go.RowKit Go.ChangeAt
section
variable {H:Type} {enc:TypeId × Value→H} {P:Program} {W:World}
theorem aQJ {fuel:Nat} {t e:TypeId} {cs:List Value} {x:DataW H × List MemPlace} (ht:P.underlying t=some (.slice e)) (hc:1≤P.cellsOf e) (h:DataW.trod enc P W 0 (fun _=>true) true fuel t cs=some x):
  ∃(a:Option Addr) (len c:Nat),cs=[.slice a len c]∧(len:Int)≤9223372036854775807∧Cap a len c∧
   ∃rows:List (List Value),rows.length=len∧(∀r∈rows,r.length=P.cellsOf e∧∃n y,DataW.trod enc P W 0 (fun _=>true) true n e r=some y)∧Sl [] W a rows.flatten:=by
 rcases DataW.trod_slice ht h with ⟨hcs,_⟩|⟨a',len,c,elems,rest,n,_,hcs,_,_,hlc,hcm,hlen,hel,hsp,_⟩
 ·exact ⟨none,0,0,hcs,by omega,⟨Nat.le_refl _, .inr ⟨rfl,rfl⟩⟩,[],rfl,by simp,Sl.nil _ _ _⟩
 ·have hm:maxLen=9223372036854775807:=by decide
  obtain ⟨hrl,hsp⟩:=hsp rfl
  have hspot:0 < c→Ok (some a'):=fun h0=>by
   have:∃v,W.cell? a'=some v:=by
    by_cases hl:0 < len
    ·have:=hel 0 hl
     rw [List.getElem?_eq_getElem (by omega),Option.bind_eq_some_iff] at this
     obtain ⟨cs',h1,_⟩:=this
     obtain ⟨_,hl2,hcell⟩:=World.cells?_some h1
     have:=hcell 0 (by omega)
     rw [List.getElem?_eq_getElem (by omega)] at this
     have e1:(a'.add (0*P.cellsOf e)).add 0=a':=by simp [Addr.add]
     rw [e1] at this
     exact ⟨_,this⟩
    ·have hl0:len=0:=by omega
     have:=hsp 0 (by omega)
     rw [List.getElem?_eq_getElem (by omega),Option.bind_eq_some_iff] at this
     obtain ⟨cs',h1,_⟩:=this
     obtain ⟨_,hl2,hcell⟩:=World.cells?_some h1
     have:=hcell 0 (by omega)
     rw [List.getElem?_eq_getElem (by omega)] at this
     have e1:(a'.add ((len+0)*P.cellsOf e)).add 0=a':=by simp [Addr.add,hl0]
     rw [e1] at this
     exact ⟨_,this⟩
   obtain ⟨v,hv⟩:=this
   unfold World.cell? at hv
   cases a' with
   |mk b o s=>
    have:s=none:=by
     cases s with
     |none=>rfl
     |some s=>split at hv <;>simp at hv
    subst this
    exact Ok.mk b o
  have hcap:Cap (some a') len c:=⟨hlc,by
   by_cases h0:0 < c
   ·exact .inl (hspot h0)
   ·exact .inr ⟨by omega,by omega⟩⟩
  refine ⟨some a',len,c,hcs,by omega,hcap,?_⟩
  have each:∀i,i < len→∃cs y,W.cells? 0 (a'.add (i*P.cellsOf e)) (P.cellsOf e)=some cs∧DataW.trod enc P W 0 (fun _=>true) true n e cs=some y:=fun i hi=>by
   have:=hel i hi
   rw [List.getElem?_eq_getElem (by omega),Option.bind_eq_some_iff] at this
   obtain ⟨cs,h1,h2⟩:=this
   exact ⟨cs,_,h1,h2⟩
  refine ⟨(List.range len).map (fun i=>(W.cells? 0 (a'.add (i*P.cellsOf e)) (P.cellsOf e)).getD []),by simp,?_,?_⟩
  ·intro r hr
   obtain ⟨i,hi,rfl⟩:=List.mem_map.1 hr
   obtain ⟨cs,y,h4,h5⟩:=each i (by simpa using hi)
   rw [h4]
   exact ⟨(World.cells?_some h4).2.1,n,y,h5⟩
  ·intro j v hj
   have hall:∀r∈(List.range len).map (fun i=>(W.cells? 0 (a'.add (i*P.cellsOf e)) (P.cellsOf e)).getD []),r.length=P.cellsOf e:=by
    intro r hr
    obtain ⟨i,hi,rfl⟩:=List.mem_map.1 hr
    obtain ⟨cs,y,h4,h5⟩:=each i (by simpa using hi)
    rw [h4]
    exact (World.cells?_some h4).2.1
   obtain ⟨i,row,h4,h5,h6⟩:=aKC _ j v hall hj
   rw [List.getElem?_map] at h4
   obtain ⟨i',hi',rfl⟩:=Option.map_eq_some_iff.1 h4
   have hii:i'=i∧i < len:=by
    obtain ⟨q1,q2⟩:=List.getElem?_eq_some_iff.1 hi'
    rw [List.getElem_range] at q2
    exact ⟨q2.symm,by simpa using q1⟩
   obtain ⟨rfl,hil⟩:=hii
   have hok:Ok (some a'):=hspot (by omega)
   obtain ⟨cs,y,h7,h8⟩:=each i' hil
   rw [h7] at h6
   simp only [Option.getD_some] at h6
   obtain ⟨_,hl,hc'⟩:=World.cells?_some h7
   have hlt:j - i'*P.cellsOf e < P.cellsOf e:=by
    have:=(List.getElem?_eq_some_iff.1 h6).1
    omega
   have hcell:=hc' _ hlt
   rw [h6] at hcell
   refine ⟨hok,by simp,?_⟩
   obtain ⟨b,o,eq⟩:=hok.cases
   injection eq with eq
   subst eq
   rw [add_lit,add_lit] at hcell
   rw [←hcell]
   simp only [pt,bl,of,Option.getD_some]
   congr 2
   omega
theorem yC {α:Type} {en:α→List Value} {Pm:α→Prop} {fuel:Nat} {t e:TypeId} {cs:List Value} {x:DataW H × List MemPlace} (ht:P.underlying t=some (.slice e)) (hc:1≤P.cellsOf e)
  (hdec:∀(r:List Value) n y,r.length=P.cellsOf e→DataW.trod enc P W 0 (fun _=>true) true n e r=some y→∃m,r=en m∧Pm m) (h:DataW.trod enc P W 0 (fun _=>true) true fuel t cs=some x):
  ∃(a:Option Addr) (ms:List α) (c:Nat),cs=[.slice a ms.length c]∧Sl [] W a (recs en ms)∧(∀m∈ms,Pm m)∧(ms.length:Int)≤9223372036854775807∧Cap a ms.length c:=by
 obtain ⟨a,len,c,rfl,h1,h3,rows,hl,hr,hs⟩:=aQJ ht hc h
 have key:∀rows:List (List Value),(∀r∈rows,r.length=P.cellsOf e∧∃n y,DataW.trod enc P W 0 (fun _=>true) true n e r=some y)→∃ms:List α,rows=ms.map en∧∀m∈ms,Pm m:=by
  intro rows
  induction rows with
  |nil=>intro _;exact ⟨[],rfl,by simp⟩
  |cons r rows ih=>
   intro hr
   obtain ⟨hrl,n,y,hy⟩:=hr r (by simp)
   obtain ⟨m,rfl,hm⟩:=hdec r n y hrl hy
   obtain ⟨ms,rfl,hms⟩:=ih (fun r' hr'=>hr r' (by simp [hr']))
   exact ⟨m::ms,rfl,fun m' hm'=>by
    rcases List.mem_cons.1 hm' with rfl|hm'
    ·exact hm
    ·exact hms m' hm'⟩
 obtain ⟨ms,rfl,hms⟩:=key rows hr
 have hlen:ms.length=len:=by simpa using hl
 subst hlen
 refine ⟨a,ms,c,rfl,?_,hms,h1,h3⟩
 rw [←List.flatMap_def] at hs
 exact hs
end
section
variable {H:Type} {enc:TypeId × Value→H} {W:World}
end
end Go.Proofs.YtgpkjcmipiodcaaGreat
namespace Go.Proofs.YtgpkjcmipiodcaaGreat
open Go Go.Fx
end Go.Proofs.YtgpkjcmipiodcaaGreat
