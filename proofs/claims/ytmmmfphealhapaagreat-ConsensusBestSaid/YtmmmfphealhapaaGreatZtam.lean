/- matrix: Mul, Apply, of matrices and of what is none. -/
import Derived.Test.YtmmmfphealhapaaGreatZtal
import Derived.Test.YtmmmfphealhapaaGreatZtaj
import Derived.Test.YtmmmfphealhapaaGreatZtad
import Derived.Test.YtmmmfphealhapaaGreatZtae
set_option linter.unusedSimpArgs false
set_option linter.unusedVariables false
set_option maxRecDepth 100000
set_option maxHeartbeats 4000000
namespace Go.Proofs.YtmmmfphealhapaaGreat
open Go Go.Fx
def mulC (a b:WM):Int:=if a.ok∧b.ok then (if (gt a.rows 0).es.length=b.rows.length then 0 else 4) else 1
def aPW (a:WM) (x:WL) (n:Nat):Int:=if a.ok then (if x.good then (if x.es.length=n then 0 else 4) else 1) else 1
section
variable {X:List Nat} {w0:World} {M0:List Ent} {I0:List aL}
theorem aNF {a:MX} {x:RL} {R C k m:Nat} (hk:k≤1000000000) (hm:m≤500000000) (hR:R≤100) (hCC:C≤64) (da:a.dim R C) (hl:x.es.length=C) (ha:gI a k∈I0) (hx:iN x m∈I0):
  CD Tryz.prog 241 [mv a,lv x] X w0 M0 I0 (LQ ((List.range R).map (fun i=>sm C (fun t=>at2 a.q i t*x.q.getD t 0))) (C*(k+m+1)) M0 I0):=by
 have lR:=da.1
 have hKK:C*(k+m+1)≤100000000000:=Nat.le_trans (Nat.mul_le_mul hCC (show k+m+1≤1500000001 by omega)) (by decide)
 generalize hKe:C*(k+m+1)=K at*
 refine aV (φ:=aI (a).p (recs eL (a).rows)) (Hv.xsl aA) ?_
 refine aM Tryz.func241 rfl Tryz.ntmps241 rfl ?_
 repeat refine aB ?_
 refine gZ 77 4 ?_
 refine bG (φ:=aP [] K) Hv.nilR ?_
 refine lX [1,8,9] rfl (fun k G M I=>∃(i:Nat) (es:List RE) (q:Option Addr) (c:Nat),i≤R∧k=R - i∧es.length=i∧qs es=(List.range i).map (fun i=>sm C (fun t=>at2 a.q i t*x.q.getD t 0))∧G=[(5, .slice q es.length c),(10, .int .i64 i)]∧M= .row q es.length c (recs eR es) 77 4::M0∧I=aP es K::aI a.p (recs eL a.rows)::I0) (R) (⟨0,[],none,0,by omega,rfl,rfl,rfl,rfl,rfl,rfl⟩) ?_
 rintro kk G M I ⟨i,es,q,c,hi,rfl,hel,heq,rfl,rfl,rfl⟩
 by_cases hiR:i < R
 ·refine bG (φ:=iN (gt (a).rows (i:Int)) k) (Hv.xrow aA (by omega)) ?_
  repeat refine aB ?_
  refine fK rfl (bFW (ka:=k) (kb:=m) (n:=C) (by omega) (by omega) (da.row hiR) hl aA aA) (fun e he=>?_)
  refine gK (cs:=recs eR [e]) ([rv e]) rfl (fun b=>?_)
  refine wM (ys:=[e]) 1 rfl rfl rfl (fun q2 c2=>?_)
  rw [hKe]
  repeat refine aB ?_
  refine dF (φ:=aP (es++[e]) K) (Hv.snoc aA aA) ?_
  refine gL (R - (i+1)) (⟨i+1,es++[e],q2,c2,by omega,rfl,by simp;omega,?_,rfl,rfl,rfl⟩)
  rw [List.range_succ,List.map_append,←heq]
  have e1:sm C (fun t=>at2 a.q i t*x.q.getD t 0)=dotQ C (gt a.rows (i:Int)).q x.q:=by rw [←aDH (by omega)];rfl
  show (es++[e]).map RE.q=qs es++[sm C (fun t=>at2 a.q i t*x.q.getD t 0)]
  rw [List.map_append,e1,←he]
  rfl
 ·obtain rfl:i=R:=by omega
  repeat refine aB ?_
  refine aEK aA ?_
  refine iR rfl rfl (⟨rfl,⟨q,c,es⟩,rfl,heq,rfl⟩)
theorem aSX {m:WM} {p:Nat} (hR:1≤m.rows.length) (hm:aDB m∈I0) (hb:aI (some ⟨p,0,none⟩) [.slice m.p m.rows.length m.c]∈I0):
  CD Tryz.prog 240 [pb p] X w0 M0 I0 (fun v M I=>M0=M∧I0=I∧v= .int .i64 ((gt m.rows 0).es.length:Int)):=by
 refine aV (φ:=aI m.p (recs eWL m.rows)) (Hv.wmsl hm) ?_
 refine aR Tryz.func240 rfl Tryz.ntmps240 rfl ?_
 repeat refine aB ?_
 refine iR rfl rfl (⟨rfl,rfl,rfl⟩)
theorem bDC {a:WM} {x:WL} {n:Nat} {g:FuncId} [FnOk Tryz.prog g] {fs cs:Array Value} (sa:a.sml) (sx:x.sml) (ha:aDB a∈I0) (hx:aGD x∈I0)
  (hg:a.ok→CD Tryz.prog g (fs.toList++[]++cs.toList) X w0 M0 I0 (fun v M I=>M0=M∧I0=I∧v= .int .i64 (n:Int))):
  CD Tryz.prog 231 [mvW a,lvW x, .func (.func g) fs cs] X w0 M0 I0 (fun v M I=>M0=M∧I0=I∧v= .int .i64 (aPW a x n)):=by
 have hC:=fun M0 I0 h1=>aLN (X:=X) (w0:=w0) (M0:=M0) (I0:=I0) (m:=a) sa h1
 have hV:=fun M0 I0 h1=>yM (X:=X) (w0:=w0) (M0:=M0) (I0:=I0) (r:=x) sx h1
 unfold aPW
 by_cases hok:a.ok
 ·rw [WM.code_ok hok] at hC
  rw [if_pos hok]
  by_cases hgx:x.good
  ·rw [bK hgx] at hV
   rw [if_pos hgx]
   have hg':=hg hok
   by_cases hn:x.es.length=n
   ·rw [if_pos hn]
    refine iC Tryz.func231 rfl Tryz.ntmps231 rfl ?_
    repeat refine aB ?_
    refine dH rfl (hC _ _ aA) ?_
    repeat refine aB ?_
    refine dH rfl (hV _ _ aA) ?_
    repeat refine aB ?_
    (refine dJ rfl rfl (hg') rfl rfl rfl ?_;rintro _ _ _ ⟨rfl,rfl,rfl⟩;refine aN ?_)
    repeat refine aB ?_
    refine iR rfl rfl (⟨rfl,rfl,rfl⟩)
   ·rw [if_neg hn]
    refine iC Tryz.func231 rfl Tryz.ntmps231 rfl ?_
    repeat refine aB ?_
    refine dH rfl (hC _ _ aA) ?_
    repeat refine aB ?_
    refine dH rfl (hV _ _ aA) ?_
    repeat refine aB ?_
    (refine dJ rfl rfl (hg') rfl rfl rfl ?_;rintro _ _ _ ⟨rfl,rfl,rfl⟩;refine aN ?_)
    repeat refine aB ?_
    refine iR rfl rfl (⟨rfl,rfl,rfl⟩)
  ·rw [bH hgx] at hV
   rw [if_neg hgx]
   refine iC Tryz.func231 rfl Tryz.ntmps231 rfl ?_
   repeat refine aB ?_
   refine dH rfl (hC _ _ aA) ?_
   repeat refine aB ?_
   refine dH rfl (hV _ _ aA) ?_
   repeat refine aB ?_
   refine iR rfl rfl (⟨rfl,rfl,rfl⟩)
 ·rw [WM.code_no hok] at hC
  rw [if_neg hok]
  refine iC Tryz.func231 rfl Tryz.ntmps231 rfl ?_
  repeat refine aB ?_
  refine dH rfl (hC _ _ aA) ?_
  repeat refine aB ?_
  refine iR rfl rfl (⟨rfl,rfl,rfl⟩)
theorem aSC {a:MX} {x:RL} {R C k m:Nat} (hk:k≤1000000000) (hm:m≤500000000) (da:a.fit R C) (hl:x.es.length=C) (ha:gI a k∈I0) (hx:iN x m∈I0):CD Tryz.prog 178 [mv a,lv x] X w0 M0 I0 (LQc ((List.range R).map (fun i=>sm C (fun t=>at2 a.q i t*x.q.getD t 0))) (C*(k+m+1)) M0 I0):=by
 obtain ⟨r1,r2⟩:=da.2.1
 obtain ⟨c1,c2⟩:=da.2.2
 refine uW (fun w hw=>Mem.xsml ha da (by omega) hw) (fun sa=>uW (fun w hw=>Mem.lsml hx (by omega) (by omega) hw) (fun sx=>?_))
 have hC:=fun p M0 I0 h1 h2 h3=>bDC (X:=X) (w0:=w0) (M0:=M0) (I0:=I0) (a:=a.raw) (x:=x.raw) (n:=C) (g:=240) (fs:=#[]) (cs:=#[pb p]) sa sx h1 h2 (fun hok=>by have:=aSX (X:=X) (w0:=w0) (M0:=M0) (I0:=I0) (p:=p) hok.1.1 h1 h3;rw [MX.raw_c0 da] at this;exact this)
 have e0:aPW a.raw x.raw C=0:=by
  unfold aPW
  rw [if_pos da.ok,if_pos x.raw_good,if_pos (by show (x.es.map RE.raw).length=C;rw [List.length_map];exact hl)]
 rw [e0,aOO,bEO] at hC
 have hA:=fun M0 I0 h1 h2=>aNF (X:=X) (w0:=w0) (M0:=M0) (I0:=I0) (a:=a) (x:=x) (R:=R) (C:=C) (k:=k) (m:=m) hk hm (by omega) (by omega) da.1 hl h1 h2
 refine aV (φ:=aDB a.raw) (Hv.xraw ha (by omega)) ?_
 refine aV (φ:=aGD x.raw) (Hv.lraw (List.Mem.tail _ hx) (by omega)) ?_
 refine aM Tryz.func178 rfl Tryz.ntmps178 rfl ?_
 refine gG ?_
 (refine oI rfl rfl rfl ?_;intro p1;refine aN ?_)
 repeat refine aB ?_
 refine bQ (φ:=aI (some ⟨p1,0,none⟩) [.slice a.raw.p a.raw.rows.length a.raw.c]) (by rw [MX.raw_rows];exact Hv.mem aA) ?_
 refine dH rfl (hC p1 _ _ aA aA aA) ?_
 refine wO (M':=M0) (I':=aI (some ⟨p1,0,none⟩) [.slice a.p a.rows.length a.c]::aGD x.raw::aDB a.raw::I0) SubP.refl aC ?_
 repeat refine aB ?_
 (refine bD rfl (hA _ _ aA aA) ?_;rintro _ _ _ ⟨rfl,y,rfl,hy,rfl⟩;refine aN ?_)
 repeat refine aB ?_
 refine tyS [4,5] rfl rfl (⟨rfl,y,rfl,hy,rfl⟩)
end
def qM (A:Mt) (R C:Nat):Prop:=A.length=R∧∀i,i < R→(rowAt A i).length=C
theorem rowAt_set {A:Mt} {i a:Nat} {l:List Rat} (hi:i < A.length):rowAt (A.set i l) a=if a=i then l else rowAt A a:=by
 unfold rowAt
 simp only [List.getD,List.getElem?_set]
 by_cases e:a=i
 ·subst e;simp [hi]
 ·have e':¬i=a:=fun h=>e h.symm
  simp [e,e']
theorem aHT {A:Mt} {a:Nat} {f:Nat→List Rat→List Rat} (h:a < A.length):rowAt (A.mapIdx f) a=f a (rowAt A a):=by
 simp [rowAt,List.getD,h]
theorem rU {A:Mt} {R C r k a:Nat} (h:qM A R C) (hr:r < R) (hk:k < R):rowAt (swp A r k) a=rowAt A (tr r k a):=by
 unfold swp
 rw [rowAt_set (by rw [List.length_set,h.1];exact hk),rowAt_set (by rw [h.1];exact hr)]
 simp only [tr]
 by_cases e1:a=k
 ·subst e1
  rw [if_pos rfl]
  by_cases e2:a=r
  ·rw [if_pos e2,e2]
  ·rw [if_neg e2,if_pos rfl]
 ·rw [if_neg e1,if_neg e1]
  by_cases e2:a=r
  ·rw [if_pos e2,if_pos e2]
  ·rw [if_neg e2,if_neg e2]
theorem aJS {A:Mt} {R C r k:Nat} (h:qM A R C) (hr:r < R) (hk:k < R):qM (swp A r k) R C:=
 ⟨by unfold swp;rw [List.length_set,List.length_set];exact h.1,fun i hi=>by rw [rU h hr hk];exact h.2 _ (aAI hr hk hi)⟩
theorem wW {l:List Rat} {f:Nat→Rat→Rat} {c:Nat} (h:c < l.length):(l.mapIdx f).getD c 0=f c (l.getD c 0):=by
 simp [List.getD,h]
theorem aFH {B:Mt} {r j a:Nat} {pr:List Rat} (h:a < B.length):rowAt (xS B r j pr) a=if a=r then rowAt B a else if (rowAt B a).getD j 0=0 then rowAt B a else kS j ((rowAt B a).getD j 0) pr (rowAt B a):=by
 unfold xS
 rw [aHT h]
theorem aXO {A:Mt} {R C r j x:Nat} (h:qM A R C) (hr:r < R) (hx:x < R):qM (wJ A r j x) R C:=by
 have hs:=aJS (r:=r) (k:=x) h hr hx
 unfold wJ
 refine ⟨by unfold xS;rw [List.length_mapIdx,List.length_set];exact hs.1,fun i hi=>?_⟩
 have hb:rowAt ((swp A r x).set r (jC j (1 / at2 (swp A r x) r j) (rowAt (swp A r x) r))) i=if i=r then jC j (1 / at2 (swp A r x) r j) (rowAt (swp A r x) r) else rowAt (swp A r x) i:=rowAt_set (by rw [hs.1];exact hr)
 rw [aFH (by rw [List.length_set,hs.1];exact hi),hb]
 by_cases e:i=r
 ·rw [if_pos e,if_pos e];simp only [jC,List.length_mapIdx];exact hs.2 r hr
 ·rw [if_neg e,if_neg e]
  split
  ·exact hs.2 i hi
  ·simp only [kS,List.length_mapIdx];exact hs.2 i hi
theorem aKW {A:Mt} {R C r j x:Nat} (h:qM A R C) (hr:r < R) (hx:x < R) (hj:j < C) (hz:∀b,b < j→at2 A x b=0):∀a b,a < R→b < C→
  at2 (wJ A r j x) a b=elm r x (1 / at2 A x j) (fun a=>at2 A (tr r x a) j) (at2 A) a b:=by
 intro a b ha hb
 have hs:=aJS (r:=r) (k:=x) h hr hx
 have hat:∀i c,at2 (swp A r x) i c=at2 A (tr r x i) c:=fun i c=>by unfold at2;rw [rU h hr hx]
 have htr:tr r x r=x:=by simp [tr]
 have hrow:(rowAt (swp A r x) r)=rowAt A x:=by rw [rU h hr hx,htr]
 have hκ:at2 (swp A r x) r j=at2 A x j:=by rw [hat,htr]
 obtain ⟨κ,hk⟩:∃κ,κ=1 / at2 A x j:=⟨_,rfl⟩
 rw [←hk]
 have hpr:∀c,c < C→(jC j κ (rowAt A x)).getD c 0=κ*at2 A x c:=fun c hc=>by
  unfold jC
  rw [wW (by rw [h.2 x hx];exact hc)]
  by_cases e:c < j
  ·rw [if_pos e]
   have:=hz c e
   rw [this]
   unfold at2 at this
   rw [this];grind
  ·rw [if_neg e];rfl
 have e1:at2 (wJ A r j x) a b=(rowAt (wJ A r j x) a).getD b 0:=rfl
 rw [e1]
 unfold wJ
 rw [hκ,hrow,←hk]
 have hbb:rowAt ((swp A r x).set r (jC j κ (rowAt A x))) a=if a=r then jC j κ (rowAt A x) else rowAt (swp A r x) a:=rowAt_set (by rw [hs.1];exact hr)
 rw [aFH (by rw [List.length_set,hs.1];exact ha),hbb]
 simp only [elm,htr]
 by_cases e:a=r
 ·rw [if_pos e,if_pos e,if_pos e];exact hpr b hb
 ·rw [if_neg e,if_neg e,if_neg e,rU h hr hx]
  have hc:(rowAt A (tr r x a)).getD j 0=at2 A (tr r x a) j:=rfl
  rw [hc]
  by_cases e0:at2 A (tr r x a) j=0
  ·rw [if_pos e0,e0]
   show at2 A (tr r x a) b=_
   grind
  ·rw [if_neg e0]
   unfold kS
   rw [wW (by rw [h.2 _ (aAI hr hx ha)];exact hb)]
   show (if b < j then at2 A (tr r x a) b else at2 A (tr r x a) b - _)=_
   by_cases ej:b < j
   ·rw [if_pos ej,hz b ej];grind
   ·rw [if_neg ej,hpr b hb]
theorem yX {A:Mt} {j:Nat}:∀(f k:Nat),k+f=A.length→∀i,k≤i→i < mG A j f k→at2 A i j=0
 |0,k,_,i,h1,h2=>by simp [mG] at h2;omega
 |f+1,k,h,i,h1,h2=>by
  unfold mG at h2
  by_cases hc:k < A.length∧at2 A k j=0
  ·rw [if_pos hc] at h2
   by_cases e:i=k
   ·subst e;exact hc.2
   ·exact yX f (k+1) (by omega) i (by omega) h2
  ·rw [if_neg hc] at h2;omega
theorem iQ {A:Mt} {R C:Nat} (h:qM A R C):∀n,n≤C→qM (eQ A n).1 R C∧∃s,Red R C n (at2 A) (at2 (eQ A n).1) (eQ A n).2 s
 |0,_=>⟨h,1,Red.start⟩
 |n+1,hn=>by
  obtain ⟨hd,s,hr⟩:=iQ h n (by omega)
  rw [uH]
  generalize eQ A n=st at hd hr
  obtain ⟨B,pv⟩:=st
  simp only at hd hr
  have hlen:=hr.len
  obtain ⟨f1,f2,f3⟩:=aAV (A:=B) (j:=n) (B.length - pv.length) pv.length (by rw [hd.1];omega)
  have f4:=yX (A:=B) (j:=n) (B.length - pv.length) pv.length (by rw [hd.1];omega)
  unfold aMU
  simp only
  generalize mG B n (B.length - pv.length) pv.length=x at f1 f2 f3 f4
  by_cases hx:x < B.length
  ·rw [if_pos hx]
   rw [hd.1] at hx
   refine ⟨aXO hd (by omega) hx,_,hr.step (x:=x) (by omega) f1 hx (f3 (by rw [hd.1];exact hx)) (aKW hd (by omega) hx (by omega) (fun b hb=>hr.zero x b f1 hx hb))⟩
  ·rw [if_neg hx]
   exact ⟨hd,s,hr.none (fun i h1 h2=>f4 i h1 (by rw [hd.1] at hx;omega))⟩
def wZ (A:Mt) (j x:Nat):Mt:=(swp A j x).mapIdx (fun i row=>if i≤j then row else if row.getD j 0=0 then row else kS j (row.getD j 0 / at2 (swp A j x) j j) (rowAt (swp A j x) j) row)
def aCW (A:Mt) (j:Nat):Nat→Nat→Rat:=fun i k=>at2 A (i+j) (k+j)
theorem aLO {A:Mt} {R C j x a:Nat} (h:qM A R C) (hj:j < R) (hx:x < R) (ha:a < R):rowAt (wZ A j x) a=if a≤j then rowAt A (tr j x a) else if at2 A (tr j x a) j=0 then rowAt A (tr j x a) else kS j (at2 A (tr j x a) j / at2 A x j) (rowAt A x) (rowAt A (tr j x a)):=by
 have hs:=aJS (r:=j) (k:=x) h hj hx
 have hr:∀i,rowAt (swp A j x) i=rowAt A (tr j x i):=fun i=>rU h hj hx
 have htr:tr j x j=x:=by simp [tr]
 have hat:at2 (swp A j x) j j=at2 A x j:=by unfold at2;rw [hr,htr]
 have e1:rowAt (wZ A j x) a=if a≤j then rowAt (swp A j x) a else if (rowAt (swp A j x) a).getD j 0=0 then rowAt (swp A j x) a else kS j ((rowAt (swp A j x) a).getD j 0 / at2 (swp A j x) j j) (rowAt (swp A j x) j) (rowAt (swp A j x) a):=by
  have hl:a < (swp A j x).length:=by rw [hs.1];exact ha
  unfold wZ
  rw [aHT hl]
 rw [e1,hat,hr,hr,htr]
 rfl
theorem aSA {A:Mt} {R C j x a b:Nat} (h:qM A R C) (hj:j < R) (hx:x < R) (ha:a < R) (hb:b < C) (haj:j < a) (hbj:j≤b):at2 (wZ A j x) a b=at2 A (tr j x a) b - at2 A (tr j x a) j / at2 A x j*at2 A x b:=by
 have e:at2 (wZ A j x) a b=(rowAt (wZ A j x) a).getD b 0:=rfl
 rw [e,aLO h hj hx ha,if_neg (by omega)]
 by_cases e0:at2 A (tr j x a) j=0
 ·rw [if_pos e0,e0]
  show at2 A (tr j x a) b=_
  grind
 ·rw [if_neg e0]
  unfold kS
  rw [wW (by rw [h.2 _ (aAI hj hx ha)];exact hb),if_neg (by omega)]
  rfl
theorem aWG {A:Mt} {n j x:Nat} (h:qM A n n) (hj:j < n) (hjx:j≤x) (hx:x < n) (h0:at2 A x j≠0):
  dt (n - j) (aCW A j)=esg j x*at2 A x j*dt (n - (j+1)) (aCW (wZ A j x) (j+1)):=by
 obtain ⟨m,hm⟩:∃m,n - j=m+1:=⟨n - j - 1,by omega⟩
 have hm2:n - (j+1)=m:=by omega
 rw [hm,hm2]
 -- exchanged
 have h1:dt (m+1) (fun a b=>aCW A j (tr 0 (x - j) a) b)=esg j x*dt (m+1) (aCW A j):=by
  unfold esg
  by_cases e:j=x
  ·subst e
   rw [if_pos rfl,Nat.sub_self,show (fun a b=>aCW A j (tr 0 0 a) b)=aCW A j by funext a b;simp only [tr];split <;>simp_all];grind
  ·rw [if_neg e,aRB (by omega) (by omega) (by omega)];grind
 obtain ⟨g,hg⟩:∃g:Nat→Nat→Rat,g=fun a b=>aCW A j (tr 0 (x - j) a) b:=⟨_,rfl⟩
 rw [←hg] at h1
 have htr:∀a,tr 0 (x - j) a+j=tr j x (a+j):=fun a=>by
  by_cases e1:a=0
  ·have:tr 0 (x - j) a=x - j:=by simp [tr,e1]
   have h2:tr j x (a+j)=x:=by simp [tr,e1]
   omega
  ·by_cases e2:a=x - j
   ·have:tr 0 (x - j) a=0:=by simp [tr,e1,e2]
    have h2:tr j x (a+j)=j:=by simp [tr,e1,show a+j=x by omega]
    omega
   ·have:tr 0 (x - j) a=a:=by simp [tr,e1,e2]
    have h2:tr j x (a+j)=a+j:=by simp [tr,e1,show ¬a+j=x by omega]
    omega
 have hgv:∀a b,g a b=at2 A (tr j x (a+j)) (b+j):=fun a b=>by rw [hg];show at2 A (tr 0 (x - j) a+j) (b+j)=_;rw [htr]
 have htj:tr j x (0+j)=x:=by simp [tr]
 have hg0:∀b,g 0 b=at2 A x (b+j):=fun b=>by rw [hgv,htj]
 have h2:=aPR (n:=m+1) (r:=0) (f:=g) (c:=fun a=>g a 0 / g 0 0) (by omega)
 have hg00:g 0 0≠0:=by rw [hg0,Nat.zero_add];exact h0
 have h3:dt (m+1) (fun a b=>if a=0 then g 0 b else g a b - g a 0 / g 0 0*g 0 b)=g 0 0*dt m (aCW (wZ A j x) (j+1)):=by
  rw [aLI (fun i hi _=>by
   rw [if_neg (by omega)]
   have:g i 0 / g 0 0*g 0 0=g i 0:=by grind
   grind)]
  rw [if_pos rfl]
  congr 1
  apply jS
  intro a b ha hb
  rw [if_neg (by omega)]
  show _=at2 (wZ A j x) (a+(j+1)) (b+(j+1))
  rw [aSA h hj hx (by omega) (by omega) (by omega) (by omega),hg0,hg0,hgv,hgv,Nat.zero_add]
  rw [show a+1+j=a+(j+1) by omega,show b+1+j=b+(j+1) by omega]
 have hs:esg j x*esg j x=1:=by unfold esg;split <;>grind
 have h4:dt (m+1) (aCW A j)=esg j x*dt (m+1) g:=by rw [h1];grind
 rw [h4,←h2,h3,hg0,Nat.zero_add];grind
theorem aXG {A:Mt} {n j:Nat} (hj:j < n) (h:∀i,j≤i→i < n→at2 A i j=0):dt (n - j) (aCW A j)=0:=by
 obtain ⟨m,hm⟩:∃m,n - j=m+1:=⟨n - j - 1,by omega⟩
 rw [hm]
 exact aIC (fun i hi=>by show at2 A (i+j) (0+j)=0;rw [Nat.zero_add];exact h _ (by omega) (by omega))
theorem bBW {A:Mt} {n:Nat}:dt (n - 0) (aCW A 0)=dt n (at2 A):=rfl
theorem aUZ {A:Mt} {r:Nat} (h:r < A.length):swp A r r=A:=by
 have e:rowAt A r=A[r]:=by simp [rowAt,List.getD,h]
 unfold swp
 rw [e,List.set_set,List.set_getElem_self]
theorem aUO {rows:List MR} {R C:Nat} (hl:rows.length=R) (hc:∀r∈rows,r.es.length=C):qM (mq rows) R C:=
 ⟨by simp [hl],fun i hi=>by rw [nE (by omega)];simp [hc _ (bF (ms:=rows) (i:=(i:Int)) (by omega))]⟩
theorem aWQ {rows4 rows2:List MR} {n j:Nat} (h4:rows4.length=n) (h2:rows2.length=n)
  (hk:∀t:Nat,t < n→t≤j→gt rows4 (t:Int)=gt rows2 (t:Int))
  (hd:∀t:Nat,t < n→j < t→qs (gt rows4 (t:Int)).es=if at2 (mq rows2) t j=0 then qs (gt rows2 (t:Int)).es else kS j (at2 (mq rows2) t j / at2 (mq rows2) j j) (rowAt (mq rows2) j) (qs (gt rows2 (t:Int)).es)):
  mq rows4=(mq rows2).mapIdx (fun i row=>if i≤j then row else if row.getD j 0=0 then row else kS j (row.getD j 0 / at2 (mq rows2) j j) (rowAt (mq rows2) j) row):=by
 apply List.ext_getElem
 ·simp [h4,h2]
 ·intro t h1 h3
  have ht:t < n:=by simpa [h4] using h1
  have e4:(mq rows4)[t]=qs (gt rows4 (t:Int)).es:=by rw [dP (by omega)];simp
  have e3:(mq rows2)[t]'(by simp;omega)=qs (gt rows2 (t:Int)).es:=by rw [dP (by omega)];simp
  have ea:at2 (mq rows2) t j=(qs (gt rows2 (t:Int)).es).getD j 0:=by unfold at2;rw [nE (by omega)]
  rw [e4,List.getElem_mapIdx,e3]
  by_cases htj:t≤j
  ·rw [if_pos htj,hk t ht htj]
  ·rw [if_neg htj,hd t ht (by omega),ea]
/- regions that draw: some reads see all up to a first effect, others what stays up to a second one -/
section
variable {P:Program} {n:Nat} {Q:Exit→Act→World→Prop} {G:Env} {X:List Nat} {w0:World} {M M' M1 Ms:List Ent} {I I' I1 Is:List aL}
def CsL (J1 J2:Nat) (X:List Nat) (w0:World) (M:List Ent) (I:List aL) (Ms:List Ent) (Is:List aL):Nat→World→Prop:=fun s w=>(s≤J1→Mem X w0 M I w)∧(s≤J2→Mem X w0 Ms Is w)
theorem aSU {id:Nat} {l:List Oper} (J1 J2:Nat) (Ms:List Ent) (Is:List aL) (p ms:List Nat) (hM:SubP M Ms) (hI:Inc I Is) (hx:P.follows .mixedOrders=true)
  (hp:(Region.noSelect l.toArray && iL l.toArray p ms (Array.replicate l.length false) && p.length==l.length)=true)
  (h:RD P n l Q (.any (CsL J1 J2 X w0 M I Ms Is) 0 ms) (pick l p) G X w0 M I):TD P n (.region id l.toArray true) Q G X w0 M I:=
 uI (CsL J1 J2 X w0 M I Ms Is) p ms hx (fun s w h=>⟨fun hs=>h.1 (by omega),fun hs=>h.2 (by omega)⟩) hp (fun _ h=>⟨fun _=>h,fun _=>h.weak hM hI⟩) h
theorem aQW {J1 J2 k:Nat} {ms:List Nat} (h:k+ms.headD 0≤J1):View (.any (CsL J1 J2 X w0 M1 I1 Ms Is) k ms) X w0 M I M1 I1:=⟨fun w w' _ hc=>by
 have hc':CsL J1 J2 X w0 M1 I1 Ms Is (k+ms.headD 0) w':=hc
 exact hc'.1 h⟩
theorem aDE {J1 J2 k:Nat} {ms:List Nat} (h:k+ms.headD 0≤J2):View (.any (CsL J1 J2 X w0 M1 I1 Ms Is) k ms) X w0 M I Ms Is:=⟨fun w w' _ hc=>by
 have hc':CsL J1 J2 X w0 M1 I1 Ms Is (k+ms.headD 0) w':=hc
 exact hc'.2 h⟩
theorem bDX {J1 J2 k:Nat} {ms:List Nat} (h1:SubP M M1) (i1:Inc I I1) (h2:SubP M Ms) (i2:Inc I Is):OkD (.any (CsL J1 J2 X w0 M1 I1 Ms Is) k ms) X w0 M I:=⟨fun w hw=>by
 show CsL J1 J2 X w0 M1 I1 Ms Is (k+1) w
 exact ⟨fun _=>hw.weak h1 i1,fun _=>hw.weak h2 i2⟩⟩
theorem bEW {J1 J2 k:Nat} {ms:List Nat} (h1:J1≤k) (h2:SubP M Ms) (i2:Inc I Is):OkD (.any (CsL J1 J2 X w0 M1 I1 Ms Is) k ms) X w0 M I:=⟨fun w hw=>by
 show CsL J1 J2 X w0 M1 I1 Ms Is (k+1) w
 exact ⟨fun hs=>by omega,fun _=>hw.weak h2 i2⟩⟩
end
section
variable {X:List Nat} {w0:World} {M0:List Ent} {I0:List aL}
abbrev zRm:List Value:=[.bool false, .slice none 0 0, .bool false, .slice none 0 0]
theorem aCZ {a:MX} {n k0:Nat} (hb:kb k0 n≤20000000000) (hk0:k0≤20000000000) (da:a.fit n n) (ha:gI a k0∈I0):CD Tryz.prog 249 [mv a] X w0 M0 I0 (RQc (dt n (at2 a.q)) (kb k0 n) M0 I0):=by
 obtain ⟨n1,n2⟩:=da.2.1
 refine uW (fun w hw=>Mem.xsml ha da (by omega) hw) (fun sa=>?_)
 have hC:=fun M0 I0 h1=>aHF (X:=X) (w0:=w0) (M0:=M0) (I0:=I0) (a:=a.raw) sa h1
 have e0:sqC a.raw=0:=by
  unfold sqC
  rw [if_pos da.ok,a.raw_rows,MX.raw_c0 da,da.1.1,if_pos rfl]
 rw [e0,aOO] at hC
 have hW:=fun (x:Int) (hx:x.natAbs≤1) M0 I0=>vF (X:=X) (w0:=w0) (M0:=M0) (I0:=I0) (x:=x) (by omega) (k:=0) hx
 refine aV (φ:=aDB a.raw) (Hv.xraw ha (by omega)) ?_
 refine aR Tryz.func249 rfl Tryz.ntmps249 rfl ?_
 refine gG ?_
 refine cK (fun b2=>?_)
 repeat refine aB ?_
 refine dH rfl (hC _ _ aA) ?_
 repeat refine aB ?_
 (refine bD rfl (aPD da aA) ?_;rintro _ _ _ ⟨bo,rows0,rfl,hl0,hc0,hq0,rfl,rfl⟩;refine aN ?_)
 repeat refine aB ?_
 refine fK rfl (hW 1 (by decide) _ _) (fun d0 hd0=>?_)
 repeat refine aB ?_
 refine cK (fun b6=>?_)
 repeat refine aB ?_
 obtain ⟨M1,hM1⟩:∃M1:List Ent,M1= .blk b2 zRm 77::M0:=⟨_,rfl⟩
 rw [←hM1]
 have hmq0:mq rows0=a.q:=by rw [da.1.mk];exact hq0
 refine bG (φ:=bL d0 (kb k0 0)) (Hv.q (k:=0) (List.Mem.head _) (Nat.zero_le _)) ?_
 refine lX [2,5,6,20] rfl (fun k G M I=>∃(j:Nat) (rows1:List MR) (d:RE),j≤n∧k=n - j∧rows1.length=n∧(∀r∈rows1,r.es.length=n)∧dt n (at2 a.q)=d.q*dt (n - j) (aCW (mq rows1) j)∧G=[(21, .int .i64 j)]∧M= .blk b6 (eR d) 77:: .blk bo (recs eM rows1) 70::(rows1.map fZ++M1)∧I=bL d (kb k0 j)::allM rows1 (kb k0 j)::I0) (n) (⟨0,rows0,d0,by omega,rfl,hl0,hc0,by rw [hd0,hmq0,bBW];grind,rfl,rfl,rfl⟩) ?_
 clear hC
 rintro kk G M I ⟨j,rows1,d,hj,rfl,hl1,hC1,hD,rfl,rfl,rfl⟩
 have hCg:∀t:Nat,t < n→(gt rows1 (t:Int)).es.length=n:=fun t ht=>hC1 _ (bF (by omega))
 have hdim:=aUO hl1 hC1
 have hbj:=tL k0 (m:=j) (n:=n) hj
 by_cases hjn:j < n
 ·have hb4:4*kb k0 j+1≤20000000000:=Nat.le_trans (tL k0 (m:=j+1) (n:=n) hjn) hb
  have hkj1:kb k0 (j+1)=4*kb k0 j+1:=rfl
  generalize hkj:kb k0 j=kj at*
  repeat refine aB ?_
  refine lX [2,5,6,7,20,21] rfl (fun k G M I=>∃x:Nat,j≤x∧x≤n∧k=n - x∧(∀i:Nat,j≤i→i < x→at2 (mq rows1) i j=0)∧G=[(8, .int .i64 x)]∧M= .blk b6 (eR d) 77:: .blk bo (recs eM rows1) 70::(rows1.map fZ++M1)∧I=bL d kj::allM rows1 kj::I0) (n - j) (⟨j,by omega,by omega,rfl,fun i h1 h2=>by omega,rfl,rfl,rfl⟩) ?_
  rintro k G M I ⟨x,hjx,hxn,rfl,hz,rfl,rfl,rfl⟩
  by_cases hxn2:x < n
  ·have hlx:=hCg x hxn2
   have hat:=yQ (rows:=rows1) (i:=x) (j:=j) (by omega) (by omega)
   have hS:=nM (X:=X) (w0:=w0) (M0:= .blk (gt rows1 (x:Int)).b (recs eR (gt rows1 (x:Int)).es) 77:: .blk b6 (eR d) 77:: .blk bo (recs eM rows1) 70::((rows1.eraseIdx x).map fZ++M1)) (I0:=bL d kj::allM rows1 kj::I0) (e:=gt (gt rows1 (x:Int)).es (j:Int)) (k:=kj) (by omega) (Hv.elM (List.Mem.tail _ (List.Mem.head _)) (by omega) (by omega) (Nat.le_refl _))
   by_cases hx2:at2 (mq rows1) x j=0
   ·rw [hat] at hx2
    rw [(nW _).2 hx2] at hS
    refine nR (aCS (rows:=rows1) (i:=x) (by omega)) ?_
    repeat refine aB ?_
    (refine bD rfl (hS) ?_;rintro _ _ _ ⟨rfl,rfl,rfl⟩;refine aN ?_)
    repeat refine aB ?_
    refine vS (aCS (rows:=rows1) (i:=x) (by omega)).symm ?_
    refine gL (n - (x+1)) (⟨x+1,by omega,by omega,rfl,fun i h1 h2=>?_,rfl,rfl,rfl⟩)
    by_cases e:i=x
    ·rw [e,hat];exact hx2
    ·exact hz i h1 (by omega)
   ·have hxne:=hx2
    rw [hat] at hx2
    have hs0:¬(gt (gt rows1 (x:Int)).es (j:Int)).q.num.sign=0:=fun h=>hx2 ((nW _).1 h)
    generalize (gt (gt rows1 (x:Int)).es (j:Int)).q.num.sign=sg1 at*
    refine nR (aCS (rows:=rows1) (i:=x) (by omega)) ?_
    repeat refine aB ?_
    (refine bD rfl (hS) ?_;rintro _ _ _ ⟨rfl,rfl,rfl⟩;refine aN ?_)
    clear hS
    repeat refine aB ?_
    refine nR (aCS (rows:=rows1) (i:=x) (by omega)).symm ?_
    refine jQ (fun G M I=>∃(rows2:List MR) (d2:RE),rows2.length=n∧(∀r∈rows2,r.es.length=n)∧mq rows2=swp (mq rows1) j x∧d2.q=esg j x*d.q∧G=[(2, .pointer (some ⟨b2,0,none⟩)),(5, .slice (some ⟨bo,0,none⟩) n n),(6, .pointer (some ⟨b6,0,none⟩)),(7, .int .i64 (j:Int)),(20, .int .i64 (n:Int)),(21, .int .i64 (j:Int))]∧M= .blk b6 (eR d2) 77:: .blk bo (recs eM rows2) 70::(rows2.map fZ++M1)∧I=bL d2 kj::allM rows2 kj::I0) ?_ ?_
    ·by_cases hxj:x=j
     ·subst hxj
      repeat refine aB ?_
      refine tV ⟨rows1,d,hl1,hC1,?_,?_,rfl,rfl,rfl⟩
      ·exact (aUZ (by simp [hl1];omega)).symm
      ·unfold esg;rw [if_pos rfl];grind
     ·repeat refine aB ?_
      (repeat refine aG ?_);refine aW 0 [0,1,2,3,4,5,6,7,8,9,10,11,12,13,14,15] [0,0,1,1,0,0,0,0,1,1,1,0,0,0,0,0] mixed (by kernel_rfl) ?_
      repeat refine yXh ?_
      refine nH rfl rfl rfl jJ (StAt.r1 (gt rows1 (j:Int)) (by omega) rfl) rfl rfl ⟨okF,?_⟩
      repeat refine yXh ?_
      refine nH rfl rfl rfl jJ (StAt.r1 (gt rows1 (x:Int)) (by rw [dK];omega) rfl) rfl rfl ⟨okF,?_⟩
      obtain ⟨rows2,hrows2⟩:∃rows2,rows2=st (st rows1 (x:Int) (gt rows1 (j:Int))) (j:Int) (gt rows1 (x:Int)):=⟨_,rfl⟩
      have hsp:=swap_perm (rows:=rows1) (r:=x) (k:=j) (by omega) (by omega)
      rw [←hrows2] at hsp ⊢
      refine zU (M':= .blk b6 (eR d) 77:: .blk bo (recs eM rows2) 70::(rows2.map fZ++M1)) (List.Perm.cons _ (List.Perm.cons _ ((hsp.symm.map fZ).append_right M1))) ?_
      refine bQ (φ:=allM rows2 kj) (Hv.permM (List.Mem.tail _ (List.Mem.head _)) hsp) ?_
      repeat refine aB ?_
      refine fK rfl (aJA (k:=kj) (by omega) (Hv.mem aA)) (fun d2 hd2=>?_)
      repeat refine aB ?_
      refine tV ⟨rows2,d2,by rw [hsp.length_eq];exact hl1,fun r hr=>hC1 r (hsp.mem_iff.1 hr),?_,?_,rfl,rfl,rfl⟩
      ·rw [hrows2]
       unfold st swp
       simp only [Int.toNat_natCast]
       rw [aET,aET,nE (by omega),nE (by omega),List.set_comm _ _ hxj]
      ·unfold esg;rw [if_neg (fun e=>hxj e.symm),hd2];grind
    ·clear hs0 hz
     rintro G M I ⟨rows2,d2,hl2,hC2,hmq2,hd2,rfl,rfl,rfl⟩
     have hC2g:∀t:Nat,t < n→(gt rows2 (t:Int)).es.length=n:=fun t ht=>hC2 _ (bF (by omega))
     have hdim2:=aUO hl2 hC2
     have hlr:=hC2g j hjn
     have hatj:=yQ (rows:=rows2) (i:=j) (j:=j) (by omega) (by omega)
     have hpe:at2 (mq rows2) j j=at2 (mq rows1) x j:=by
      rw [hmq2]
      unfold at2
      rw [rU hdim hjn hxn2]
      simp [tr]
     have hpiv:(gt (gt rows2 (j:Int)).es (j:Int)).q≠0:=by rw [←hatj,hpe];exact hxne
     have hEl:∀I,allM rows2 kj∈I→Hv I (bL (gt (gt rows2 (j:Int)).es (j:Int)) kj):=fun I h=>Hv.elM h (by omega) (by omega) (Nat.le_refl _)
     refine nR (aCS (rows:=rows2) (i:=j) (by omega)) ?_
     (repeat refine aG ?_);refine aW 1 [0,1,2,3,4,5,6,7,8,9] [0,1,1,1,1,1,1,0,0,0] mixed (by kernel_rfl) ?_
     repeat refine aB ?_
     refine fK rfl (tK (k:=kj) (m:=kj) (by omega) (Hv.mem aA) (hEl _ aA)) (fun d3 hd3=>?_)
     repeat refine aB ?_
     refine nR (aCS (rows:=rows2) (i:=j) (by omega)).symm ?_
     refine bG (φ:=allM rows2 (4*kj+1)) (Hv.monoM (k:=kj) aA (by omega)) ?_
     refine lX [2,5,6,7,20,21] rfl (fun k G M I=>∃(i:Nat) (rows4:List MR),j+1≤i∧i≤n∧k=n - i∧rows4.length=n∧(∀t:Nat,t < n→(gt rows4 (t:Int)).es.length=n)∧(∀t:Nat,t < n→(t≤j∨i≤t)→gt rows4 (t:Int)=gt rows2 (t:Int))∧(∀t:Nat,j < t→t < i→qs (gt rows4 (t:Int)).es=if at2 (mq rows2) t j=0 then qs (gt rows2 (t:Int)).es else kS j (at2 (mq rows2) t j / at2 (mq rows2) j j) (rowAt (mq rows2) j) (qs (gt rows2 (t:Int)).es))∧G=[(9, .int .i64 i)]∧M= .blk b6 (eR d3) 77:: .blk bo (recs eM rows4) 70::(rows4.map fZ++M1)∧I=allM rows4 (4*kj+1)::bL d3 (kj+kj)::allM rows2 kj::I0) (n - (j+1)) (⟨j+1,rows2,by omega,by omega,rfl,hl2,hC2g,fun _ _ _=>rfl,fun t h1 h2=>by omega,rfl,rfl,rfl⟩) ?_
     rintro k G M I ⟨i,rows4,hji,hin,rfl,hl4,hC4,hrest,hdone,rfl,rfl,rfl⟩
     have hg4j:=hrest j hjn (.inl (Nat.le_refl _))
     by_cases hi:i < n
     ·have hgi:=hrest i hi (.inr (Nat.le_refl _))
      have hij:i≠j:=by omega
      have hlx:=hC4 i hi
      have hlj:=hC4 j hjn
      have hat:at2 (mq rows2) i j=(gt (gt rows4 (i:Int)).es (j:Int)).q:=by rw [hgi];exact yQ (by omega) (by rw [hC2g i hi];omega)
      have hEi:∀I,allM rows2 kj∈I→Hv I (bL (gt (gt rows4 (i:Int)).es (j:Int)) kj):=fun I h=>by rw [hgi];exact Hv.elM h (by omega) (by rw [hC2g i hi];omega) (Nat.le_refl _)
      have hEj:∀I,allM rows2 kj∈I→Hv I (bL (gt (gt rows4 (j:Int)).es (j:Int)) kj):=fun I h=>by rw [hg4j];exact hEl I h
      have hpj:(gt (gt rows4 (j:Int)).es (j:Int)).q≠0:=by rw [hg4j];exact hpiv
      have hRi:∀I,allM rows2 kj∈I→Hv I (aP (gt rows4 (i:Int)).es kj):=fun I h=>by rw [hgi];exact Hv.rowMm h (by omega) (Nat.le_refl _)
      have hRj:∀I,allM rows2 kj∈I→Hv I (aP (gt rows4 (j:Int)).es kj):=fun I h=>by rw [hg4j];exact Hv.rowMm h (by omega) (Nat.le_refl _)
      have hfoc:=foc2 (rows:=rows4) (i:=i) (j:=j) (by omega) (by omega) hij (A:= .blk b6 (eR d3) 77) (B:= .blk bo (recs eM rows4) 70) (M1:=M1)
      have hS:=fun M0 I0 h=>nM (X:=X) (w0:=w0) (M0:=M0) (I0:=I0) (e:=gt (gt rows4 (i:Int)).es (j:Int)) (k:=kj) (by omega) h
      refine nR hfoc ?_
      by_cases hx0:(gt (gt rows4 (i:Int)).es (j:Int)).q=0
      ·rw [(nW _).2 hx0] at hS
       repeat refine aB ?_
       refine dH rfl (hS _ _ (hEi _ aA)) ?_
       repeat refine aB ?_
       refine vS hfoc.symm ?_
       refine gL (n - (i+1)) (⟨i+1,rows4,by omega,by omega,rfl,hl4,hC4,fun t ht h=>hrest t ht (by omega),fun t h1 h2=>?_,rfl,rfl,rfl⟩)
       by_cases hti:t=i
       ·subst hti
        rw [hat,if_pos hx0,hgi]
       ·exact hdone t h1 (by omega)
      ·have hs0:¬(gt (gt rows4 (i:Int)).es (j:Int)).q.num.sign=0:=fun h=>hx0 ((nW _).1 h)
       generalize (gt (gt rows4 (i:Int)).es (j:Int)).q.num.sign=sg2 at*
       repeat refine aB ?_
       refine dH rfl (hS _ _ (hEi _ aA)) ?_
       repeat refine aB ?_
       (repeat refine aG ?_);refine aSU 1 2 (.blk b6 (eR d3) 77:: .blk bo (recs eM rows4) 70::((jX rows4 i j).map fZ++M1)) (allM rows4 (4*kj+1)::bL d3 (kj+kj)::allM rows2 kj::I0) [0,1,2,3,4,5,6,7,8,9,10,11,12,13,14,15,16,17,18,19,20,21,23,22,24] [2,2,2,1,2,2,2,1,2,2,2,2,2,2,1,2,2,2,2,2,2,1,1,0,0] aF aC mixed (by kernel_rfl) ?_
       repeat refine aB ?_
       (apply gM;exact aDE (by decide);exact rfl;exact aA;exact wP;exact rfl;exact rfl)
       repeat refine aB ?_
       (apply gM;exact aDE (by decide);exact rfl;exact aA;exact wP;exact rfl;exact rfl)
       repeat refine aB ?_
       (apply gM;exact aDE (by decide);exact rfl;exact aA;exact wP;exact rfl;exact rfl)
       repeat refine aB ?_
       (apply bJ;exact aQW (by decide);exact rfl;exact aA;exact atY;exact rfl;exact rfl)
       repeat refine aB ?_
       (apply gM;exact aDE (by decide);exact rfl;exact aA;exact wP;exact rfl;exact rfl)
       repeat refine aB ?_
       (apply bJ;exact aQW (by decide);exact rfl;exact aA;exact atY;exact rfl;exact rfl)
       repeat refine aB ?_
       (refine bD rfl (aCF (k:=kj) (m:=kj) (by omega) hpj (hEi _ aA) (hEj _ aA)) ?_;rintro _ _ _ ⟨rfl,κ,rfl,hκ,rfl⟩;refine ⟨bDX aF aC aF aC,?_⟩)
       repeat refine aB ?_
       rw [hlx,hlj]
       refine bQ (φ:=aP (gt rows4 (i:Int)).es kj) (hRi _ aA) ?_
       refine bQ (φ:=aP (gt rows4 (j:Int)).es kj) (hRj _ aA) ?_
       (refine bD rfl (aCH (kz:=kj) (m:=kj+kj) (h:=kj) (fr:=j) (n:=n) (κ:=κ) (M1:= .blk b6 (eR d3) 77:: .blk bo (recs eM rows4) 70::((jX rows4 i j).map fZ++M1)) (by omega) (by omega) hlx hlj (by omega) aA aA aA rfl) ?_;rintro _ _ _ ⟨rfl,e5,hl5,hd5,rfl,rfl⟩;refine ⟨bEW (by decide) aF aC,?_⟩)
       rw [show kj+(kj+kj+kj)+1=4*kj+1 by omega]
       obtain ⟨rows5,hrows5⟩:∃rows5,rows5=rows4.set i ⟨(gt rows4 (i:Int)).b,e5⟩:=⟨_,rfl⟩
       have hl5':rows5.length=n:=by rw [hrows5,List.length_set];exact hl4
       have hh5:recs eM rows4=recs eM rows5:=by rw [hrows5];exact (xL (by omega) (by rw [hlx,hl5])).symm
       have hr5:jX rows4 i j=jX rows5 i j:=by rw [hrows5,rW _ _ _ _ hij]
       have hg5i:gt rows5 (i:Int)=⟨(gt rows4 (i:Int)).b,e5⟩:=by rw [hrows5,dP (by simpa using (show i < rows4.length by omega))];simp
       have hg5o:∀t:Nat,t < n→t≠i→gt rows5 (t:Int)=gt rows4 (t:Int):=fun t ht hti=>by
        rw [hrows5,dP (by simpa using (show t < rows4.length by omega)),List.getElem_set_ne (Ne.symm hti)];exact (dP (by omega)).symm
       have hf5:=foc2 (rows:=rows5) (i:=i) (j:=j) (by omega) (by omega) hij (A:= .blk b6 (eR d3) 77) (B:= .blk bo (recs eM rows5) 70) (M1:=M1)
       rw [hg5i,hg5o j (by omega) (Ne.symm hij)] at hf5
       rw [hh5,hr5]
       refine zU hf5.symm ?_
       refine bQ (φ:=allM rows5 (4*kj+1)) (by rw [hrows5];exact Hv.setM (k:=4*kj+1) (m:=4*kj+1) aA aA (by omega) (by omega)) ?_
       repeat refine aB ?_
       refine gL (n - (i+1)) (⟨i+1,rows5,by omega,by omega,rfl,hl5',fun t ht=>?_,fun t ht h=>?_,fun t h1 h2=>?_,rfl,rfl,rfl⟩)
       ·by_cases hti:t=i
        ·subst hti;rw [hg5i];exact hl5
        ·rw [hg5o t ht hti];exact hC4 t ht
       ·rw [hg5o t ht (by omega)];exact hrest t ht (by omega)
       ·by_cases hti:t=i
        ·subst hti
         rw [hg5i,hat,if_neg hx0,←hgi]
         have e1:rowAt (mq rows2) j=qs (gt rows4 (j:Int)).es:=by rw [nE (by omega),hg4j]
         have e2:at2 (mq rows2) j j=(gt (gt rows4 (j:Int)).es (j:Int)).q:=by rw [hg4j];exact hatj
         rw [e1,e2,←hκ]
         exact aYY hl5 hlx hlj hd5
        ·rw [hg5o t (by omega) hti];exact hdone t h1 (by omega)
     ·obtain rfl:i=n:=by omega
      have hmq4:mq rows4=wZ (mq rows1) j x:=by
       unfold wZ
       rw [←hmq2]
       exact aWQ hl4 hl2 (fun t ht h=>hrest t ht (.inl h)) (fun t ht h=>hdone t h ht)
      repeat refine aB ?_
      refine dF (φ:=bL d3 (kb k0 (j+1))) (Hv.q (k:=kj+kj) aA (by omega)) ?_
      refine dF (φ:=allM rows4 (kb k0 (j+1))) (Hv.monoM (k:=4*kj+1) aA (by omega)) ?_
      refine gL (i - (j+1)) (⟨j+1,rows4,d3,by omega,rfl,hl4,fun r hr=>?_,?_,rfl,rfl,rfl⟩)
      ·obtain ⟨t,ht,rfl⟩:=List.mem_iff_getElem.1 hr
       have:=hC4 t (by omega)
       rwa [dP ht] at this
      ·rw [hD,hd3,←hatj,hpe,hd2,aWG hdim hjn hjx hxn2 hxne,hmq4];grind
  ·obtain rfl:x=n:=by omega
   repeat refine aB ?_
   refine fK rfl (hW 0 (by decide) _ _) (fun e1 he1=>?_)
   rw [hM1]
   refine wO (M':= .blk b2 zRm 77::M0) (I':=bL e1 0::I0) (SubP.drop (SubP.drop (lY SubP.refl))) aC ?_
   repeat refine aB ?_
   refine dF (φ:=bL e1 (kb k0 x)) (Hv.q (k:=0) aA (Nat.zero_le _)) ?_
   refine dW (rs:=[.cell 2 77, .tmp 3]) (vs:=[rv e1, .int .i64 0]) (.inl rfl) rfl (.cellN (cs:=eR e1) inferInstance rfl aA rfl (.tmp rfl .nil)) rfl M0 (bL e1 (kb k0 x)::I0) aF aC ⟨rfl,e1,rfl,?_,rfl⟩
   rw [hD,he1,aXG hjn (fun i h1 h2=>hz i h1 h2)];grind
 ·obtain rfl:j=n:=by omega
  rw [hM1]
  refine rJ (M':= .blk b6 (eR d) 77:: .blk b2 zRm 77::M0) (I':=bL d (kb k0 j)::I0) (SubP.cons .here (SubP.drop (lY SubP.refl))) aC ?_
  repeat refine aB ?_
  refine dW (rs:=[.cell 2 77, .tmp 3]) (vs:=[rv d, .int .i64 0]) (.inl rfl) rfl (.cellN (cs:=eR d) inferInstance rfl aA rfl (.tmp rfl .nil)) rfl M0 (bL d (kb k0 j)::I0) aF aC ⟨rfl,d,rfl,?_,rfl⟩
  rw [hD,Nat.sub_self]
  show d.q=d.q*1
  grind
end
def aCY (n:Nat) (A:Mt):Mt:=xE n (n+n) (fun i j=>if j < n then at2 A i j else oF i (j - n))
def aEJ (n:Nat) (A:Mt):Mt:=xE n n (fun i j=>at2 (eQ (aCY n A) n).1 i (n+j))
theorem aRK {R C:Nat} {F:Nat→Nat→Rat}:qM (xE R C F) R C:=⟨by simp [xE],fun i hi=>by simp [xE,rowAt,List.getD,hi]⟩
theorem aUR {n:Nat} {A:Mt} {i j:Nat} (hi:i < n) (hj:j < n):at2 (aCY n A) i j=at2 A i j:=by
 unfold aCY
 rw [qY hi (by omega),if_pos hj]
theorem bDY {n:Nat} {A:Mt} {i j:Nat} (hi:i < n) (hj:j < n):at2 (aCY n A) i (n+j)=oF i j:=by
 unfold aCY
 rw [qY hi (by omega),if_neg (by omega),Nat.add_sub_cancel_left]
theorem aQH {n:Nat} {A:Mt}:(eQ (aCY n A) n).2.length=n↔dt n (at2 A)≠0:=by
 obtain ⟨_,s,hr⟩:=iQ (A:=aCY n A) (R:=n) (C:=n+n) aRK n (by omega)
 rw [hr.iff (by omega),jS (f:=at2 (aCY n A)) (g:=at2 A) (fun i j hi hj=>aUR hi hj)]
theorem aRO {n:Nat} {A:Mt} (h:dt n (at2 A)≠0):(∀i j,i < n→j < n→tX n (at2 A) (at2 (aEJ n A)) i j=oF i j)∧(∀i j,i < n→j < n→tX n (at2 (aEJ n A)) (at2 A) i j=oF i j):=by
 obtain ⟨_,s,hr⟩:=iQ (A:=aCY n A) (R:=n) (C:=n+n) aRK n (by omega)
 obtain ⟨h1,h2⟩:=hr.inv (a:=at2 A) (aQH.2 h) (fun i j hi hj=>aUR hi hj) (fun i j hi hj=>bDY hi hj)
 have e:∀i j,i < n→j < n→at2 (aEJ n A) i j=at2 (eQ (aCY n A) n).1 i (n+j):=fun i j hi hj=>by unfold aEJ;rw [qY hi hj]
 constructor
 ·intro i j hi hj
  rw [←h1 i j hi hj]
  exact zD (fun _ _=>rfl) (fun k hk=>e k j hk hj)
 ·intro i j hi hj
  rw [←h2 i j hi hj]
  exact zD (fun k hk=>e i k hi hk) (fun _ _=>rfl)
section
variable {X:List Nat} {w0:World} {M0:List Ent} {I0:List aL}
theorem aIG {a:MX} {n k0:Nat} (hb:kb k0 n≤20000000000) (hk0:k0≤20000000000) (da:a.fit n n) (ha:gI a k0∈I0):CD Tryz.prog 177 [mv a] X w0 M0 I0 (fun v M I=>if dt n (at2 a.q)=0 then (M0=M∧I0=I∧v= .tuple #[.slice none 0 0, .int .i64 14]) else XQc (aEJ n a.q) n n (kb k0 n) M0 I0 v M I):=by
 obtain ⟨n1,n2⟩:=da.2.1
 refine uW (fun w hw=>Mem.xsml ha da (by omega) hw) (fun sa=>?_)
 have hC:=fun M0 I0 h1=>aHF (X:=X) (w0:=w0) (M0:=M0) (I0:=I0) (a:=a.raw) sa h1
 have e0:sqC a.raw=0:=by
  unfold sqC
  rw [if_pos da.ok,a.raw_rows,MX.raw_c0 da,da.1.1,if_pos rfl]
 rw [e0,aOO] at hC
 have lR:=da.1.1
 refine aV (φ:=aDB a.raw) (Hv.xraw ha (by omega)) ?_
 refine aR Tryz.func177 rfl Tryz.ntmps177 rfl ?_
 repeat refine aB ?_
 refine dH rfl (hC _ _ aA) ?_
 repeat refine aB ?_
 refine cK (fun b5=>?_)
 repeat refine aB ?_
 rw [lR]
 refine aH .here ?_
 repeat refine aB ?_
 (refine bR rfl (aKA (R:=n) (C:=n) (g:=238) (fs:=#[]) (cs:=#[]) (k0:=0) (by omega) (by omega) oF (fun M I _ i j hi hj=>by have:=bAE (X:=X) (w0:=w0) (M0:=M) (I0:=I) (i:=(i:Int)) (j:=(j:Int));rw [←bDG] at this;exact this)) rfl rfl ?_;rintro _ _ _ ⟨rfl,u,rfl,hu,hud,rfl⟩;refine aN ?_)
 repeat refine aB ?_
 refine bQ (φ:=gI u k0) (Hv.xm (k:=0) aA (Nat.zero_le _)) ?_
 (refine bD rfl (aUL da ⟨hud,⟨n1,n2⟩,n1,n2⟩ aA aA) ?_;rintro _ _ _ ⟨bo,rows0,rfl,hl0,hc0,hq0,rfl,rfl⟩;refine aN ?_)
 repeat refine aB ?_
 refine cK (fun b6=>?_)
 repeat refine aB ?_
 refine aEO (fun _ hw=>hw.freezeB .here) ?_
 have hB:mq rows0=aCY n a.q:=by
  unfold aCY
  refine Eq.trans hq0 ?_
  refine xV (R:=n) (C:=n+n) (fun i j hi hj=>?_)
  by_cases e:j < n
  ·rw [if_pos e,if_pos e]
  ·rw [if_neg e,if_neg e,hu,qY hi (by omega)]
 (repeat refine aG ?_);refine nV 1 (M0) (aI (some ⟨b6,0,none⟩) [.slice (some ⟨bo,0,none⟩) n n]::aI (some ⟨b5,0,none⟩) [.int .i64 (n:Int)]::I0) [0,1,4,2,3,5] [0,0,1,0,0,0] (SubP.drop (lY SubP.refl)) aC mixed (by kernel_rfl) ?_
 repeat refine aB ?_
 have hRd:=fun I0 h=>aSM (X:=X) (w0:=w0) (M0:= .blk bo (recs eM rows0) 70::(rows0.map fZ++M0)) (I0:=I0) (bo:=bo) (R:=n) (C:=n+n) (n:=n) (k0:=k0) (rows:=rows0) (M1:=M0) hl0 (by omega) (by omega) hc0 (by omega) (by omega) h rfl
 (refine bD rfl (hRd _ aA) ?_;rintro _ _ _ ⟨rows,pv,q,c,rfl,hl,hc,hred,hpv,rfl,rfl⟩;refine ⟨OkD.kY (SubP.drop (SubP.drop (lY SubP.refl))) aC,?_⟩)
 rw [hB] at hred
 have hiff:pv.length=n↔dt n (at2 a.q)≠0:=by
  have:=aQH (n:=n) (A:=a.q)
  rw [hred] at this
  exact this
 by_cases hd0:dt n (at2 a.q)=0
 ·simp only [if_pos hd0]
  have hlt:pv.length < n:=by
   rcases Nat.lt_or_ge pv.length n with h|h
   ·exact h
   ·exact absurd hd0 (hiff.1 (by omega))
  repeat refine aB ?_
  refine gJ [2,3] (.inl rfl) rfl rfl rfl M0 I0 (SubP.drop (SubP.drop (lY SubP.refl))) aC ⟨rfl,rfl,rfl⟩
 ·simp only [if_neg hd0]
  have hlt:pv.length=n:=hiff.2 hd0
  repeat refine aB ?_
  refine wO (M':= .blk bo (recs eM rows) 70::(rows.map fZ++M0)) (I':=allM rows (kb k0 n)::aI (some ⟨b6,0,none⟩) [.slice (some ⟨bo,0,none⟩) n n]::aI (some ⟨b5,0,none⟩) [.int .i64 (n:Int)]::I0) (SubP.drop SubP.refl) aC ?_
  refine vQ (fun _ hw=>aRR hw (List.Mem.head _)) ?_
  refine bQ (φ:=bxX b6 (MR.x bo rows)) (by show Hv _ (aI _ [.slice (some ⟨bo,0,none⟩) (rows.map MR.l).length rows.length]);rw [List.length_map,hl];exact Hv.mem aA) ?_
  have xl:(MR.x bo rows).rows.length=n:=by show (rows.map MR.l).length=n;rw [List.length_map,hl]
  have xc:∀i:Nat,i < n→(gt (MR.x bo rows).rows (i:Int)).es.length=n+n:=fun i hi=>by
   have:gt (MR.x bo rows).rows (i:Int)=(gt rows (i:Int)).l:=aID (by omega)
   rw [this];exact hc _ (bF (by omega))
  have hg:=fun M I (hI:∀φ∈bxX b6 (MR.x bo rows)::gI (MR.x bo rows) (kb k0 n)::allM rows (kb k0 n)::aI (some ⟨b6,0,none⟩) [.slice (some ⟨bo,0,none⟩) n n]::aI (some ⟨b5,0,none⟩) [.int .i64 (n:Int)]::I0,φ∈I) (i j:Nat) (hi:i < n) (hj:j < n)=>aMC (X:=X) (w0:=w0) (M0:=M) (I0:=I) (a:=MR.x bo rows) (p:=b6) (q:=b5) (k:=kb k0 n) (i:=i) (j:=j) (n:=n) (by omega) (by rw [xc i hi];omega) (by omega) (by omega) (hI _ aA) (hI _ aA) (hI _ aA)
  (refine bD rfl (aKA (R:=n) (C:=n) (g:=239) (fs:=#[]) (cs:=#[pb b6,pb b5]) (k0:=kb k0 n) (by omega) (by omega) (fun i j=>at2 (MR.x bo rows).q i (n+j)) hg) ?_;rintro _ _ _ ⟨rfl,x,rfl,hx,hd,rfl⟩;refine aN ?_)
  rw [q_x] at hx
  repeat refine aB ?_
  refine gJ [2,3] (by first|exact .inl rfl|exact .inr rfl) rfl rfl rfl _ _ aF aC (⟨rfl,x,rfl,by unfold aEJ;rw [hred];exact hx,hd,rfl⟩)
end
structure Q4 where
 x:Int
 y:Int
 u:Int
 v:Int
instance Q4.inh:Inhabited Q4:=⟨⟨0,0,0,0⟩⟩
abbrev gX (s:Q4):List Value:=[.int .i64 s.x, .int .i64 s.y, .int .i64 s.u, .int .i64 s.v]
abbrev vQ4 (s:Q4):Value:= .agg (gX s).toArray
instance Q4.szd:Sized gX 4:=⟨fun _=>rfl⟩
def farC (a b:Int):Prop:=(a < -32768∨b < -32768)∨32768 < a∨32768 < b
instance farC.dec (a b:Int):Decidable (farC a b):=inferInstanceAs (Decidable ((a < -32768∨b < -32768)∨32768 < a∨32768 < b))
def Q4.far (s:Q4):Prop:=farC s.x s.y∨farC s.u s.v
instance Q4.far.dec (s:Q4):Decidable s.far:=inferInstanceAs (Decidable (farC s.x s.y∨farC s.u s.v))
def anyFar (l:List Q4):Prop:=∃s∈l,s.far
instance anyFar.dec (l:List Q4):Decidable (anyFar l):=inferInstanceAs (Decidable (∃s∈l,s.far))
def lF (l:List Q4):Int:=if l.length=0 then 1 else if 64 < l.length then 3 else if anyFar l then 2 else 0
structure Q4.near (s:Q4):Prop where
 x: -32768≤s.x∧s.x≤32768
 y: -32768≤s.y∧s.y≤32768
 u: -32768≤s.u∧s.u≤32768
 v: -32768≤s.v∧s.v≤32768
theorem Q4.near_of {s:Q4} (h:¬s.far):s.near:=by
 unfold Q4.far farC at h
 refine ⟨?_,?_,?_,?_⟩ <;>omega
theorem aAE {l:List Q4} (h:lF l=0):(1≤l.length∧l.length≤64)∧∀s∈l,s.near:=by
 unfold lF at h
 split at h
 ·omega
 ·split at h
  ·omega
  ·split at h
   ·omega
   ·rename_i h1 h2 h3
    exact ⟨by omega,fun s hs=>Q4.near_of (fun e=>h3 ⟨s,hs,e⟩)⟩
def cz (l:List Int):List Rat:=l.map (fun x:Int=>(x:Rat))
def dr1 (k:Nat) (s:Q4):List Int:=if k=0 then [1,0] else if k=1 then [s.x, -s.y,1,0] else [s.x,s.y,1,0,0,0]
def dr2 (k:Nat) (s:Q4):List Int:=if k=0 then [0,1] else if k=1 then [s.y,s.x,0,1] else [0,0,0,s.x,s.y,1]
def db1 (k:Nat) (s:Q4):Int:=if k=0 then s.u - s.x else s.u
def db2 (k:Nat) (s:Q4):Int:=if k=0 then s.v - s.y else s.v
def lG (k:Nat):Nat:=if k=0 then 2 else if k=1 then 4 else 6
def sP (k:Nat) (l:List Q4):Mt:=l.flatMap (fun s=>[cz (dr1 k s),cz (dr2 k s)])
def zV (k:Nat) (l:List Q4):List Rat:=l.flatMap (fun s=>[(db1 k s:Rat),(db2 k s:Rat)])
def zA (k:Nat) (x:List Rat):Mt:=
 if k=0 then [[1,0,x.getD 0 0],[0,1,x.getD 1 0],[0,0,1]]
 else if k=1 then [[x.getD 0 0, -x.getD 1 0,x.getD 2 0],[x.getD 1 0,x.getD 0 0,x.getD 3 0],[0,0,1]]
 else [[x.getD 0 0,x.getD 1 0,x.getD 2 0],[x.getD 3 0,x.getD 4 0,x.getD 5 0],[0,0,1]]
def nrN (R C:Nat) (A:Mt):Mt:=xE C C (fun i j=>sm R (fun t=>at2 A t i*at2 A t j))
def nrB (R C:Nat) (A:Mt) (b:List Rat):List Rat:=(List.range C).map (fun i=>sm R (fun t=>at2 A t i*b.getD t 0))
def lsX (R C:Nat) (A:Mt) (b:List Rat):List Rat:=(List.range C).map (fun i=>sm C (fun t=>at2 (aEJ C (nrN R C A)) i t*(nrB R C A b).getD t 0))
def rG (k:Nat) (l:List Q4):List Rat:=lsX (2*l.length) (lG k) (sP k l) (zV k l)
def aCV (k:Nat) (l:List Q4):Rat:=dt (lG k) (at2 (nrN (2*l.length) (lG k) (sP k l)))
def qQ (k:Nat) (l:List Q4):Option Mt:=if l=[] then none else if aCV k l=0 then none else if dt 3 (at2 (zA k (rG k l)))=0 then none else some (zA k (rG k l))
def lL (m:Mt) (i:Nat) (s:Q4):Rat:=at2 m i 0*(s.x:Rat)+at2 m i 1*(s.y:Rat)+at2 m i 2
def aNJ (m:Mt) (s:Q4):Rat:=lL m 0 s / lL m 2 s - (s.u:Rat)
def aNH (m:Mt) (s:Q4):Rat:=lL m 1 s / lL m 2 s - (s.v:Rat)
def tQ (m:Mt) (s:Q4):Rat:=aNJ m s*aNJ m s+aNH m s*aNH m s
def okQ (m:Mt) (tol:Int) (s:Q4):Prop:=lL m 2 s≠0∧tQ m s≤(tol:Rat)
instance okQ.dec (m:Mt) (tol:Int) (s:Q4):Decidable (okQ m tol s):=inferInstanceAs (Decidable (lL m 2 s≠0∧tQ m s≤(tol:Rat)))
def aBY (m:Mt) (l:List Q4) (tol:Int):Nat→List Int
 |0=>[]
 |n+1=>if okQ m tol (gt l (n:Int)) then aBY m l tol n++[(n:Int)] else aBY m l tol n
def iJ (m:Mt) (l:List Q4) (tol:Int):List Int:=aBY m l tol l.length
theorem qW {m:Mt} {l:List Q4} {tol:Int}:∀{n:Nat},(aBY m l tol n).length≤n
 |0=>Nat.le_refl _
 |n+1=>by
  have ih:=qW (m:=m) (l:=l) (tol:=tol) (n:=n)
  unfold aBY
  split
  ·simp;exact ih
  ·omega
def bM (l:List Q4) (smp:List Int):List Q4:=smp.map (fun i=>gt l i)
def cmb (n:Nat):Nat→Nat→List (List Int)
 |0,_=>[[]]
 |k+1,a=>(List.range (n - a)).flatMap (fun j=>(cmb n k (a+j+1)).map (fun l=>((a+j:Nat):Int)::l))
def yV (n k a m:Nat):List (List Int):=(List.range m).flatMap (fun j=>(cmb n k (a+j+1)).map (fun l=>((a+j:Nat):Int)::l))
theorem aFG {n k a:Nat}:cmb n (k+1) a=yV n k a (n - a):=rfl
theorem aHM {n k a:Nat}:yV n k a 0=[]:=rfl
theorem aHC {n k a m:Nat}:yV n k a (m+1)=yV n k a m++(cmb n k (a+m+1)).map (fun l=>((a+m:Nat):Int)::l):=by
 unfold yV
 rw [List.range_succ,List.flatMap_append]
 simp
theorem aQI {n:Nat}:∀{k a:Nat},n < a+(k+1)→cmb n (k+1) a=[]
 |0,a,h=>by
  rw [aFG,show n - a=0 by omega];rfl
 |k+1,a,h=>by
  rw [aFG]
  unfold yV
  rw [List.flatMap_eq_nil_iff]
  intro j hj
  rw [aQI (k:=k) (a:=a+j+1) (by omega)]
  rfl
theorem aKO {n k a m:Nat} (hm:n < a+m+(k+1)) (hle:m≤n - a):yV n k a m=cmb n (k+1) a:=by
 rw [aFG]
 by_cases hna:n≤a
 ·rw [show n - a=0 by omega,show m=0 by omega]
 have h:∀d,yV n k a (m+d)=yV n k a m∨n < a+m+d:=by
  intro d
  induction d with
  |zero=>exact .inl rfl
  |succ d ih=>
   by_cases h:n < a+m+(d+1)
   ·exact .inr (by omega)
   rcases ih with ih|ih
   ·refine .inl ?_
    rw [←Nat.add_assoc,aHC,ih]
    cases k with
    |zero=>omega
    |succ k=>rw [aQI (by omega)];simp
   ·omega
 rcases h (n - a - m) with h|h
 ·rw [show n - a=m+(n - a - m) by omega,h]
 ·omega
structure SmpP (n k a:Nat) (l:List Int):Prop where
 len:l.length=k
 lt:∀x∈l,(a:Int)≤x∧x < n
 asc:l.Pairwise (· < ·)
theorem aPL {n:Nat}:∀{k a:Nat} {l:List Int},l∈cmb n k a→SmpP n k a l
 |0,a,l,h=>by
  rw [show cmb n 0 a=[[]] from rfl,List.mem_singleton] at h
  subst h
  exact ⟨rfl,fun x hx=>absurd hx List.not_mem_nil,List.Pairwise.nil⟩
 |k+1,a,l,h=>by
  unfold cmb at h
  obtain ⟨j,hj,h⟩:=List.mem_flatMap.1 h
  obtain ⟨r,hr,rfl⟩:=List.mem_map.1 h
  have hj':=List.mem_range.1 hj
  have ih:=aPL hr
  refine ⟨by simp [ih.len],fun x hx=>?_,List.pairwise_cons.2 ⟨fun x hx=>?_,ih.asc⟩⟩
  ·rcases List.mem_cons.1 hx with rfl|hx
   ·omega
   ·have:=ih.lt x hx;omega
  ·have:=ih.lt x hx;omega
def aEA (mdl:List Int→Option Mt) (inl:Mt→List Int) (o:Option (List Int × List Int × Mt)) (l:List Int):Option (List Int × List Int × Mt):=
 match mdl l with
 |none=>o
 |some m=>match o with
  |none=>some (l,inl m,m)
  |some f=>if f.2.1.length < (inl m).length then some (l,inl m,m) else o
def nC (mdl:List Int→Option Mt) (inl:Mt→List Int) (ls:List (List Int)):Option (List Int × List Int × Mt):=ls.foldl (aEA mdl inl) none
theorem sH {mdl:List Int→Option Mt} {inl:Mt→List Int} {ls:List (List Int)} {l:List Int}:nC mdl inl (ls++[l])=aEA mdl inl (nC mdl inl ls) l:=by
 unfold nC
 rw [List.foldl_append]
 rfl
theorem aDR {mdl:List Int→Option Mt} {inl:Mt→List Int}:∀(ls done:List (List Int)) (o:Option (List Int × List Int × Mt)),(∀f,o=some f→f.1∈done∧mdl f.1=some f.2.2∧f.2.1=inl f.2.2)→
  ∀f,ls.foldl (aEA mdl inl) o=some f→f.1∈done++ls∧mdl f.1=some f.2.2∧f.2.1=inl f.2.2
 |[],done,o,h,f,hf=>by
  obtain ⟨a,b,c⟩:=h f hf
  exact ⟨by simpa using a,b,c⟩
 |l::ls,done,o,h,f,hf=>by
  have:=aDR ls (done++[l]) (aEA mdl inl o l) (fun g hg=>by
   unfold aEA at hg
   split at hg
   ·obtain ⟨a,b,c⟩:=h g hg
    exact ⟨List.mem_append_left _ a,b,c⟩
   ·rename_i m hm
    split at hg
    ·injection hg with hg;subst hg;exact ⟨by simp,hm,rfl⟩
    ·split at hg
     ·injection hg with hg;subst hg;exact ⟨by simp,hm,rfl⟩
     ·obtain ⟨a,b,c⟩:=h g hg
      exact ⟨List.mem_append_left _ a,b,c⟩) f hf
  simpa using this
theorem aBQ {mdl:List Int→Option Mt} {inl:Mt→List Int} {ls:List (List Int)} {f:List Int × List Int × Mt} (h:nC mdl inl ls=some f):f.1∈ls∧mdl f.1=some f.2.2∧f.2.1=inl f.2.2:=by
 have:=aDR (mdl:=mdl) (inl:=inl) ls [] none (fun f h=>by cases h) f h
 simpa using this
end Go.Proofs.YtmmmfphealhapaaGreat
namespace Go.Fx
theorem wXn {p g:Prop} (h:g) (w:BoxP g→p:=by (intro hh;(first|refine aG ?_|refine iE ?_|refine oW ?_|refine lK ?_|refine jP ?_|refine jE ?_|refine lS ?_|refine jU ?_|refine jN ?_|refine jM ?_|refine pG ?_|refine pI ?_|refine oU ?_|refine oJ rfl ?_|refine bE ?_|(refine kK ?_;first|refine kD rfl rfl rfl ?_|(refine kL rfl rfl ?_;refine iV rfl rfl rfl okD ?_)|refine kP rfl rfl (by omega) ?_|refine kT rfl rfl (by omega) ?_)|(refine eP ?_;refine aD rfl (fun _=>fQ rfl) rfl rfl ?_)|refine aD rfl (fun _=>bP rfl) rfl rfl ?_|(refine kQ ?_;first|refine aD rfl (fun _=>dC rfl rfl w_) rfl rfl ?_|refine aD rfl (fun _=>dD rfl rfl w_) rfl rfl ?_|refine aD rfl (fun _=>gW rfl rfl w_) rfl rfl ?_|refine aD rfl (fun _=>gU rfl rfl (by omega) q_) rfl rfl ?_|refine aD rfl (fun _=>gV rfl rfl (by omega) rfl) rfl rfl ?_|refine aD rfl (fun _=>fO rfl rfl) rfl rfl ?_)|(refine eP ?_;first|refine aD rfl (fun _=>gH rfl w_) rfl rfl ?_)|(refine kU ?_;first|refine aD rfl (fun _=>fE rfl w_) rfl rfl ?_)|(refine kF ?_;first|refine aD rfl (fun _=>dE rfl) rfl rfl ?_|refine aD rfl (fun _=>fT rfl rfl) rfl rfl ?_|refine aD rfl (fun _=>fP rfl rfl) rfl rfl ?_|refine aD rfl (fun _=>fU rfl rfl rfl) rfl rfl ?_)|(refine kE ?_;first|refine jZ rfl (by decide) rfl rfl ?_|refine nA rfl (by decide) rfl rfl ?_)|(refine kI ?_;first|refine aD rfl (fun _=>fB rfl) rfl rfl ?_)|(refine kR ?_;first|refine mV rfl rfl iH rfl rfl ?_|refine mZ vwX rfl rfl iH bA nD rfl rfl ?_|refine mY vwX rfl rfl iH bA nD rfl rfl ?_|refine aD rfl (fun _=>dZ rfl rfl iH) rfl rfl ?_)|(refine bN ?_;first|refine mX vwX rfl bA yG rfl rfl ?_|refine mW vwX rfl bA yG rfl rfl ?_|refine gM vwX rfl bA yG rfl rfl ?_|refine jY vwX rfl bA yG rfl rfl ?_|refine rA vwX rfl bA nN jV rfl rfl ?_|refine rO vwX rfl bA nN jV rfl rfl ?_|refine rE vwX rfl bA nN jV rfl rfl ?_|refine oV vwX rfl bA nN jV rfl rfl ?_)|(refine kG ?_;first|refine aD rfl (fun _=>eF rfl rfl) rfl rfl ?_|refine aD rfl (fun _=>dI rfl) rfl rfl ?_)|(refine nO ?_;first|refine nH rfl rfl rfl tO stC rfl rfl ⟨okD,?_⟩|refine fJ rfl rfl jV aCU tO aCQ rfl rfl ⟨okD,?_⟩)|(refine lW ?_;first|refine fF rfl ?_|refine dV rfl ?_|refine pE rfl (by omega) ?_|refine tC rfl (by omega) ?_));(repeat (first|refine aG ?_|refine iE ?_|refine oW ?_|refine lK ?_|refine jP ?_|refine jE ?_|refine lS ?_|refine jU ?_|refine jN ?_|refine jM ?_|refine pG ?_|refine pI ?_|refine oU ?_|refine oJ rfl ?_|refine bE ?_|(refine kK ?_;first|refine kD rfl rfl rfl ?_|(refine kL rfl rfl ?_;refine iV rfl rfl rfl okD ?_)|refine kP rfl rfl (by omega) ?_|refine kT rfl rfl (by omega) ?_)|(refine eP ?_;refine aD rfl (fun _=>fQ rfl) rfl rfl ?_)|refine aD rfl (fun _=>bP rfl) rfl rfl ?_|(refine kQ ?_;first|refine aD rfl (fun _=>dC rfl rfl w_) rfl rfl ?_|refine aD rfl (fun _=>dD rfl rfl w_) rfl rfl ?_|refine aD rfl (fun _=>gW rfl rfl w_) rfl rfl ?_|refine aD rfl (fun _=>gU rfl rfl (by omega) q_) rfl rfl ?_|refine aD rfl (fun _=>gV rfl rfl (by omega) rfl) rfl rfl ?_|refine aD rfl (fun _=>fO rfl rfl) rfl rfl ?_)|(refine eP ?_;first|refine aD rfl (fun _=>gH rfl w_) rfl rfl ?_)|(refine kU ?_;first|refine aD rfl (fun _=>fE rfl w_) rfl rfl ?_)|(refine kF ?_;first|refine aD rfl (fun _=>dE rfl) rfl rfl ?_|refine aD rfl (fun _=>fT rfl rfl) rfl rfl ?_|refine aD rfl (fun _=>fP rfl rfl) rfl rfl ?_|refine aD rfl (fun _=>fU rfl rfl rfl) rfl rfl ?_)|(refine kE ?_;first|refine jZ rfl (by decide) rfl rfl ?_|refine nA rfl (by decide) rfl rfl ?_)|(refine kI ?_;first|refine aD rfl (fun _=>fB rfl) rfl rfl ?_)|(refine kR ?_;first|refine mV rfl rfl iH rfl rfl ?_|refine mZ vwX rfl rfl iH bA nD rfl rfl ?_|refine mY vwX rfl rfl iH bA nD rfl rfl ?_|refine aD rfl (fun _=>dZ rfl rfl iH) rfl rfl ?_)|(refine bN ?_;first|refine mX vwX rfl bA yG rfl rfl ?_|refine mW vwX rfl bA yG rfl rfl ?_|refine gM vwX rfl bA yG rfl rfl ?_|refine jY vwX rfl bA yG rfl rfl ?_|refine rA vwX rfl bA nN jV rfl rfl ?_|refine rO vwX rfl bA nN jV rfl rfl ?_|refine rE vwX rfl bA nN jV rfl rfl ?_|refine oV vwX rfl bA nN jV rfl rfl ?_)|(refine kG ?_;first|refine aD rfl (fun _=>eF rfl rfl) rfl rfl ?_|refine aD rfl (fun _=>dI rfl) rfl rfl ?_)|(refine nO ?_;first|refine nH rfl rfl rfl tO stC rfl rfl ⟨okD,?_⟩|refine fJ rfl rfl jV aCU tO aCQ rfl rfl ⟨okD,?_⟩)|(refine lW ?_;first|refine fF rfl ?_|refine dV rfl ?_|refine pE rfl (by omega) ?_|refine tC rfl (by omega) ?_)));exact hh.out)):p:=w ⟨h⟩
end Go.Fx
namespace Go.Proofs.YtmmmfphealhapaaGreat
open Go Go.Fx
theorem aGI {α:Type} [Inhabited α] {a b:List α} (hl:a.length=b.length) (h:∀j:Nat,j < a.length→gt a j=gt b j):a=b:=by
 apply List.ext_getElem hl
 intro j h1 h2
 have:=h j h1
 rwa [fH h1,fH h2] at this
section
variable {X:List Nat} {w0:World} {M0:List Ent} {I0:List aL}
theorem aIF {p q:Option Addr} {a b:List Int} {c c':Nat} (hn:(a.length:Int)≤9223372036854775807) (ha:aI p (recs (eI .i64) a)∈I0) (hb:aI q (recs (eI .i64) b)∈I0):
  CD Tryz.prog 14 [.slice p a.length c, .slice q b.length c'] X w0 M0 I0 (fun v M I=>M0=M∧I0=I∧v= .bool (B (a=b))):=by
 refine dY Tryz.func14 rfl Tryz.ntmps14 rfl ?_
 repeat' (first|refine wXn ?_|refine aJ rfl (fun h=>?_) (fun h=>?_)|refine aK rfl rfl (fun h=>?_) (fun h=>?_)|fail)
 ·refine aU (by first|exact .inl rfl|exact .inr rfl) rfl rfl _ _ bY bW (⟨rfl,rfl,congrArg Value.bool (bH (fun h=>by subst h;omega)).symm⟩)
 refine bX [0,1,12] rfl (fun k G M I=>∃i:Nat,i≤a.length∧k=a.length - i∧(∀j:Nat,j < i→gt a j=gt b j)∧G=[(13, .int .i64 i)]∧M=M0∧I=I0) (a.length) _ _ _ dB bY bW (⟨0,by omega,rfl,fun j hj=>by omega,rfl,rfl,rfl⟩) ?_
 rintro k G M I ⟨i,hi,rfl,hs,rfl,rfl,rfl⟩
 repeat' (first|refine wXn ?_|refine aJ rfl (fun h=>?_) (fun h=>?_)|refine aK rfl rfl (fun h=>?_) (fun h=>?_)|fail)
 ·(repeat refine aG ?_);refine eO [0,1,2,3,4,5,6,7,8] [0,0,0,0,0,0,0,0,0] mixed (by kernel_rfl) ?_
  repeat' (first|refine wXn ?_|refine aJ rfl (fun h=>?_) (fun h=>?_)|refine aK rfl rfl (fun h=>?_) (fun h=>?_)|fail)
  ·refine aU (by first|exact .inl rfl|exact .inr rfl) rfl rfl _ _ bY bW (⟨rfl,rfl,congrArg Value.bool (bH (fun h=>by subst h;contradiction)).symm⟩)
  ·refine cO (a.length - (i+1)) _ _ _ (by first|omega|(simp only [List.length_append,List.length_cons,List.length_nil];omega)) dB bY bW (⟨i+1,by omega,rfl,fun j hj=>?_,rfl,rfl,rfl⟩)
   by_cases e:j=i
   ·subst e;omega
   ·exact hs j (by omega)
 ·refine aU (by first|exact .inl rfl|exact .inr rfl) rfl rfl _ _ bY bW (⟨rfl,rfl,congrArg Value.bool (bK (aGI (by omega) (fun j hj=>hs j (by omega)))).symm⟩)
end
/- ---------- IndexFunc, ContainsFunc of []fiducial/api.Pair ---------- -/
section
variable {X:List Nat} {w0:World} {M0:List Ent} {I0:List aL}
theorem aVN {q:Option Addr} {a:List Q4} {c:Nat} {g:FuncId} [FnOk Tryz.prog g] {fs cs:Array Value} (pr:Q4→Prop) [DecidablePred pr] (hn:(a.length:Int)≤9223372036854775807) (ha:aI q (recs gX a)∈I0)
  (hg:∀i:Nat,i < a.length→CD Tryz.prog g (fs.toList++[vQ4 (gt a i)]++cs.toList) X w0 M0 I0 (fun v M I=>M0=M∧I0=I∧v= .bool (B (pr (gt a i))))):
  CD Tryz.prog 104 [.slice q a.length c, .func (.func g) fs cs] X w0 M0 I0 (fun v M I=>M0=M∧I0=I∧∃r:Int,v= .int .i64 r∧((∃i:Nat,i < a.length∧r=i∧pr (gt a i)∧∀j:Nat,j < i→¬pr (gt a j))∨(r= -1∧∀j:Nat,j < a.length→¬pr (gt a j)))):=by
 refine aM Tryz.func104 rfl Tryz.ntmps104 rfl ?_
 repeat refine aB ?_
 refine lX [0,1,7] rfl (fun k G M I=>∃i:Nat,i≤a.length∧k=a.length - i∧(∀j:Nat,j < i→¬pr (gt a j))∧G=[(8, .int .i64 i)]∧M=M0∧I=I0) (a.length) (⟨0,by omega,rfl,fun j hj=>by omega,rfl,rfl,rfl⟩) ?_
 rintro k G M I ⟨i,hi,rfl,hs,rfl,rfl,rfl⟩
 repeat' (first|refine aB ?_|refine aJ rfl (fun h=>?_) (fun h=>?_)|refine aK rfl rfl (fun h=>?_) (fun h=>?_)|fail)
 ·have hlt:i < a.length:=by omega
  (refine dJ rfl rfl (hg i hlt) rfl rfl rfl ?_;rintro _ _ _ ⟨rfl,rfl,rfl⟩;refine aN ?_)
  repeat' (first|refine aB ?_|refine aJ rfl (fun h=>?_) (fun h=>?_)|refine aK rfl rfl (fun h=>?_) (fun h=>?_)|fail)
  ·refine aU (by first|exact .inl rfl|exact .inr rfl) rfl rfl _ _ aF aC (⟨rfl,rfl,_,rfl, .inl ⟨i,hlt,rfl,by assumption,hs⟩⟩)
  ·refine gL (a.length - (i+1)) (⟨i+1,by omega,rfl,fun j hj=>?_,rfl,rfl,rfl⟩)
   by_cases e:j=i
   ·subst e;assumption
   ·exact hs j (by omega)
 ·refine aU (by first|exact .inl rfl|exact .inr rfl) rfl rfl _ _ aF aC (⟨rfl,rfl,_,rfl, .inr ⟨rfl,fun j hj=>hs j (by omega)⟩⟩)
theorem aZP {q:Option Addr} {a:List Q4} {c:Nat} {g:FuncId} [FnOk Tryz.prog g] {fs cs:Array Value} (pr:Q4→Prop) [DecidablePred pr] (hn:(a.length:Int)≤9223372036854775807) (ha:aI q (recs gX a)∈I0)
  (hg:∀i:Nat,i < a.length→CD Tryz.prog g (fs.toList++[vQ4 (gt a i)]++cs.toList) X w0 M0 I0 (fun v M I=>M0=M∧I0=I∧v= .bool (B (pr (gt a i))))):
  CD Tryz.prog 37 [.slice q a.length c, .func (.func g) fs cs] X w0 M0 I0 (fun v M I=>M0=M∧I0=I∧v= .bool (B (∃x∈a,pr x))):=by
 refine aM Tryz.func37 rfl Tryz.ntmps37 rfl ?_
 repeat refine aB ?_
 (refine bD rfl (aVN pr hn ha hg) ?_;rintro _ _ _ ⟨rfl,rfl,r,rfl,h⟩;refine aN ?_)
 repeat refine aB ?_
 refine iR rfl rfl (⟨rfl,rfl,congrArg Value.bool (iZ ?_)⟩)
 rcases h with ⟨i,hi,rfl,hp,_⟩|⟨rfl,h⟩
 ·exact ⟨fun _=>⟨gt a i,by rw [fH hi];exact List.getElem_mem hi,hp⟩,fun _=>by omega⟩
 ·refine ⟨fun h=>by omega,?_⟩
  rintro ⟨x,hx,hp⟩
  obtain ⟨j,hj,rfl⟩:=List.mem_iff_getElem.1 hx
  exact absurd (by rw [fH hj];exact hp) (h j hj)
end
section
variable {X:List Nat} {w0:World} {M0 M1:List Ent} {I0:List aL}
theorem aQP {a b:Int}:CD Tryz.prog 39 [.agg #[.int .i64 a, .int .i64 b]] X w0 M0 I0 (fun v M I=>M0=M∧I0=I∧v= .bool (B (farC a b))):=by
 refine aR Tryz.func39 rfl Tryz.ntmps39 rfl ?_
 refine gG ?_
 refine gN rfl (fun b1=>?_)
 by_cases h1:min a b < -32768
 ·repeat refine aB ?_
  refine fC (M':=M0) (I':=I0) aF aC ?_
  refine iR rfl rfl (⟨rfl,rfl,congrArg Value.bool (bK (show farC a b from .inl (by omega))).symm⟩)
 ·by_cases h2:32768 < max a b
  ·repeat refine aB ?_
   refine fC (M':=M0) (I':=I0) aF aC ?_
   refine iR rfl rfl (⟨rfl,rfl,congrArg Value.bool ((bK h2).trans (bK (show farC a b from .inr (by omega))).symm)⟩)
  ·repeat refine aB ?_
   refine fC (M':=M0) (I':=I0) aF aC ?_
   refine aU (by first|exact .inl rfl|exact .inr rfl) rfl rfl _ _ aF aC (⟨rfl,rfl,congrArg Value.bool ((bH h2).trans (bH (show ¬farC a b by unfold farC;omega)).symm)⟩)
theorem aOV {s:Q4}:CD Tryz.prog 38 [vQ4 s] X w0 M0 I0 (fun v M I=>M0=M∧I0=I∧v= .bool (B s.far)):=by
 have hF:=fun M0 I0=>aQP (X:=X) (w0:=w0) (M0:=M0) (I0:=I0) (a:=s.x) (b:=s.y)
 have hG:=fun M0 I0=>aQP (X:=X) (w0:=w0) (M0:=M0) (I0:=I0) (a:=s.u) (b:=s.v)
 refine aR Tryz.func38 rfl Tryz.ntmps38 rfl ?_
 refine gG ?_
 refine gN rfl (fun b1=>?_)
 by_cases h1:farC s.x s.y
 ·rw [bK h1] at hF
  repeat refine aB ?_
  refine dH rfl (hF _ _) ?_
  repeat refine aB ?_
  refine fC (M':=M0) (I':=I0) aF aC ?_
  refine iR rfl rfl (⟨rfl,rfl,congrArg Value.bool (bK (show s.far from .inl h1)).symm⟩)
 ·rw [bH h1] at hF
  repeat refine aB ?_
  refine dH rfl (hF _ _) ?_
  repeat refine aB ?_
  refine dH rfl (hG _ _) ?_
  repeat refine aB ?_
  refine fC (M':=M0) (I':=I0) aF aC ?_
  refine iR rfl rfl (⟨rfl,rfl,congrArg Value.bool (iZ ⟨fun h=> .inr h,fun h=>h.resolve_left h1⟩)⟩)
theorem aBD {q:Option Addr} {l:List Q4} {n c:Nat} (hl:l.length=n) (hn:(n:Int)≤9223372036854775807) (hq:aI q (recs gX l)∈I0):CD Tryz.prog 8 [.slice q n c] X w0 M0 I0 (fun v M I=>M0=M∧I0=I∧v= .int .i64 (lF l)):=by
 subst hl
 have hF:=fun M0 I0 h=>aZP (X:=X) (w0:=w0) (M0:=M0) (I0:=I0) (q:=q) (a:=l) (c:=c) (g:=38) (fs:=#[]) (cs:=#[]) Q4.far hn h (fun i _=>aOV)
 refine aR Tryz.func8 rfl Tryz.ntmps8 rfl ?_
 by_cases h0:l.length=0
 ·rw [show lF l=1 by unfold lF;rw [if_pos h0]]
  repeat refine aB ?_
  refine iR rfl rfl (⟨rfl,rfl,rfl⟩)
 by_cases h1:64 < l.length
 ·rw [show lF l=3 by unfold lF;rw [if_neg h0,if_pos h1]]
  repeat refine aB ?_
  refine iR rfl rfl (⟨rfl,rfl,rfl⟩)
 by_cases h2:anyFar l
 ·rw [show lF l=2 by unfold lF;rw [if_neg h0,if_neg h1,if_pos h2]]
  repeat refine aB ?_
  refine dH rfl (hF _ _ aA) ?_
  rw [bK (show ∃x∈l,x.far from h2)]
  repeat refine aB ?_
  refine iR rfl rfl (⟨rfl,rfl,rfl⟩)
 ·rw [show lF l=0 by unfold lF;rw [if_neg h0,if_neg h1,if_neg h2]]
  repeat refine aB ?_
  refine dH rfl (hF _ _ aA) ?_
  rw [bH (show ¬∃x∈l,x.far from h2)]
  repeat refine aB ?_
  refine iR rfl rfl (⟨rfl,rfl,rfl⟩)
def kdP (x:Int):Prop:=0≤x∧x≤3
instance kdP.dec (x:Int):Decidable (kdP x):=inferInstanceAs (Decidable (0≤x∧x≤3))
theorem aZT {x:Int}:CD Tryz.prog 17 [.int .i64 x] X w0 M0 I0 (fun v M I=>M0=M∧I0=I∧v= .tuple #[.int .i64 (if kdP x then x+1 else 0), .int .i64 (if kdP x then 0 else 1)]):=by
 refine aR Tryz.func17 rfl Tryz.ntmps17 rfl ?_
 by_cases h0:x=0
 ·rw [if_pos (show kdP x from ⟨by omega,by omega⟩),if_pos (show kdP x from ⟨by omega,by omega⟩)]
  subst h0
  repeat refine aB ?_
  refine tyS [2,3] rfl rfl (⟨rfl,rfl,rfl⟩)
 by_cases h1:x=1
 ·rw [if_pos (show kdP x from ⟨by omega,by omega⟩),if_pos (show kdP x from ⟨by omega,by omega⟩)]
  subst h1
  repeat refine aB ?_
  refine tyS [2,3] rfl rfl (⟨rfl,rfl,rfl⟩)
 by_cases h2:x=2
 ·rw [if_pos (show kdP x from ⟨by omega,by omega⟩),if_pos (show kdP x from ⟨by omega,by omega⟩)]
  subst h2
  repeat refine aB ?_
  refine tyS [2,3] rfl rfl (⟨rfl,rfl,rfl⟩)
 by_cases h3:x=3
 ·rw [if_pos (show kdP x from ⟨by omega,by omega⟩),if_pos (show kdP x from ⟨by omega,by omega⟩)]
  subst h3
  repeat refine aB ?_
  refine tyS [2,3] rfl rfl (⟨rfl,rfl,rfl⟩)
 rw [if_neg (show ¬kdP x by unfold kdP;omega),if_neg (show ¬kdP x by unfold kdP;omega)]
 repeat refine aB ?_
 refine tyS [2,3] rfl rfl (⟨rfl,rfl,rfl⟩)
def pK (x:Int) (l:List Q4):Int:=if lF l=0 then (if kdP x then 0 else 1) else lF l
theorem aGU {x:Int} {q:Option Addr} {l:List Q4} {n c:Nat} (hl:l.length=n) (hn:(n:Int)≤9223372036854775807) (hq:aI q (recs gX l)∈I0):
  CD Tryz.prog 40 [.int .i64 x, .slice q n c] X w0 M0 I0 (fun v M I=>M0=M∧I0=I∧v= .tuple #[.int .i64 (if pK x l=0 then x+1 else 0), .int .i64 (pK x l)]):=by
 have hC:=fun M0 I0 h=>aBD (X:=X) (w0:=w0) (M0:=M0) (I0:=I0) (q:=q) (l:=l) (n:=n) (c:=c) hl hn h
 have hS:=fun M0 I0=>aZT (X:=X) (w0:=w0) (M0:=M0) (I0:=I0) (x:=x)
 refine aM Tryz.func40 rfl Tryz.ntmps40 rfl ?_
 by_cases h0:lF l=0
 ·rw [h0] at hC
  have e:pK x l=if kdP x then 0 else 1:=by unfold pK;rw [if_pos h0]
  rw [e]
  by_cases hk:kdP x
  ·rw [if_pos hk,if_pos hk] at hS
   rw [if_pos hk,if_pos rfl]
   repeat refine aB ?_
   refine dH rfl (hC _ _ aA) ?_
   repeat refine aB ?_
   refine dH rfl (hS _ _) ?_
   repeat refine aB ?_
   refine tyS [4,5] rfl rfl (⟨rfl,rfl,rfl⟩)
  ·rw [if_neg hk,if_neg hk] at hS
   rw [if_neg hk,if_neg (by decide)]
   repeat refine aB ?_
   refine dH rfl (hC _ _ aA) ?_
   repeat refine aB ?_
   refine dH rfl (hS _ _) ?_
   repeat refine aB ?_
   refine tyS [4,5] rfl rfl (⟨rfl,rfl,rfl⟩)
 ·have e:pK x l=lF l:=by unfold pK;rw [if_neg h0]
  rw [e,if_neg h0]
  obtain ⟨cd,hcd⟩:∃z,lF l=z:=⟨_,rfl⟩
  rw [hcd] at hC h0 ⊢
  repeat refine aB ?_
  refine dH rfl (hC _ _ aA) ?_
  repeat refine aB ?_
  refine tyS [4,5] rfl rfl (⟨rfl,rfl,rfl⟩)
def tolP (t:Int):Prop:=0≤t∧t≤1073741824
instance tolP.dec (x:Int):Decidable (tolP x):=inferInstanceAs (Decidable (0≤x∧x≤1073741824))
theorem aVO {t:Int}:CD Tryz.prog 41 [.int .i64 t] X w0 M0 I0 (fun v M I=>M0=M∧I0=I∧v= .int .i64 (if tolP t then 0 else 2)):=by
 refine aR Tryz.func41 rfl Tryz.ntmps41 rfl ?_
 by_cases h0:t < 0
 ·rw [if_neg (show ¬tolP t by unfold tolP;omega)]
  repeat refine aB ?_
  refine iR rfl rfl (⟨rfl,rfl,rfl⟩)
 by_cases h1:1073741824 < t
 ·rw [if_neg (show ¬tolP t by unfold tolP;omega)]
  repeat refine aB ?_
  refine iR rfl rfl (⟨rfl,rfl,rfl⟩)
 ·rw [if_pos (show tolP t from ⟨by omega,by omega⟩)]
  repeat refine aB ?_
  refine iR rfl rfl (⟨rfl,rfl,rfl⟩)
end
end Go.Proofs.YtmmmfphealhapaaGreat
