/- TopChains, plain: the rotation matrix is orthogonal; the quaternion in it. -/
import Derived.Test.YtgpkjcmipiodcaaGreatZwbd
import Derived.Test.YtgpkjcmipiodcaaGreatZwaz
import Derived.Test.YtgpkjcmipiodcaaGreatZwan
set_option linter.unusedSimpArgs false
set_option linter.unusedVariables false
set_option maxRecDepth 100000
set_option maxHeartbeats 4000000
namespace Go.Proofs.YtgpkjcmipiodcaaGreat
open Go Go.Fx
theorem aYF {q:Qn} (h:q.nz) {i j:Nat} (hi:i < 3) (hj:j < 3):sm 3 (fun t=>(q.row i).nth t*(q.row j).nth t)=if i=j then 1 else 0:=by
 have hn:=Qn.nR_nz h
 obtain ⟨h1,h2,h3,h4,h5,h6⟩:=Qn.mor q
 have e:∀u v:V3,sm 3 (fun t=>u.nth t*v.nth t)=0+u.x*v.x+u.y*v.y+u.z*v.z:=fun _ _=>rfl
 rw [e]
 obtain rfl|rfl|rfl:i=0∨i=1∨i=2:=by omega
 all_goals
  obtain rfl|rfl|rfl:j=0∨j=1∨j=2:=by omega
 all_goals simp only [Qn.row]
 ·rw [if_pos True.intro];grind
 ·rw [if_neg (by decide)];grind
 ·rw [if_neg (by decide)];grind
 ·rw [if_neg (by decide)];grind
 ·rw [if_pos True.intro];grind
 ·rw [if_neg (by decide)];grind
 ·rw [if_neg (by decide)];grind
 ·rw [if_neg (by decide)];grind
 ·rw [if_pos True.intro];grind
theorem aTM (f:Nat→Nat→Rat):dt 3 f=f 0 0*(f 1 1*f 2 2 - f 1 2*f 2 1) - f 0 1*(f 1 0*f 2 2 - f 1 2*f 2 0)+f 0 2*(f 1 0*f 2 1 - f 1 1*f 2 0):=by
 simp [dt,sm,sk,sgd]
 grind
theorem aWI {q:Qn} (h:q.nz):dt 3 (fun i j=>(q.row i).nth j)=1:=by
 have hn:=Qn.nR_nz h
 have hd:=Qn.det q
 rw [aTM]
 show Qn.m11 q / Qn.nR q*(Qn.m22 q / Qn.nR q*(Qn.m33 q / Qn.nR q) - Qn.m23 q / Qn.nR q*(Qn.m32 q / Qn.nR q)) - Qn.m12 q / Qn.nR q*(Qn.m21 q / Qn.nR q*(Qn.m33 q / Qn.nR q) - Qn.m23 q / Qn.nR q*(Qn.m31 q / Qn.nR q))+Qn.m13 q / Qn.nR q*(Qn.m21 q / Qn.nR q*(Qn.m32 q / Qn.nR q) - Qn.m22 q / Qn.nR q*(Qn.m31 q / Qn.nR q))=1
 generalize Qn.nR q=n at*
 generalize Qn.m11 q=a at*
 generalize Qn.m12 q=b at*
 generalize Qn.m13 q=c at*
 generalize Qn.m21 q=d at*
 generalize Qn.m22 q=e at*
 generalize Qn.m23 q=f at*
 generalize Qn.m31 q=g at*
 generalize Qn.m32 q=i at*
 generalize Qn.m33 q=j at*
 have:a / n*(e / n*(j / n) - f / n*(i / n)) - b / n*(d / n*(j / n) - f / n*(g / n))+c / n*(d / n*(i / n) - e / n*(g / n))=(a*(e*j - f*i) - b*(d*j - f*g)+c*(d*i - e*g)) / (n*n*n):=by grind
 rw [this,hd]
 grind
theorem aCP {q:Qn} (h:q.nz) (k0 k1 k2:Int):1+(k0:Rat)*(q.row 0).nth 0+(k1:Rat)*(q.row 1).nth 1+(k2:Rat)*(q.row 2).nth 2=(Qn.nR q+k0*Qn.m11 q+k1*Qn.m22 q+k2*Qn.m33 q) / Qn.nR q:=by
 have hn:=Qn.nR_nz h
 show 1+(k0:Rat)*(Qn.m11 q / Qn.nR q)+(k1:Rat)*(Qn.m22 q / Qn.nR q)+(k2:Rat)*(Qn.m33 q / Qn.nR q)=_
 grind
theorem lst0 {q:Qn} (h:q.nz):1+((1:Int):Rat)*(q.row 0).nth 0+((1:Int):Rat)*(q.row 1).nth 1+((1:Int):Rat)*(q.row 2).nth 2=4*(q.a:Rat) / Qn.nR q*q.a∧(q.row 2).nth 1 - (q.row 1).nth 2=4*(q.a:Rat) / Qn.nR q*q.b∧(q.row 0).nth 2 - (q.row 2).nth 0=4*(q.a:Rat) / Qn.nR q*q.c∧(q.row 1).nth 0 - (q.row 0).nth 1=4*(q.a:Rat) / Qn.nR q*q.d:=by
 have hn:=Qn.nR_nz h
 rw [aCP h]
 refine ⟨?_,?_,?_,?_⟩
 ·unfold Qn.m11 Qn.m22 Qn.m33 Qn.nR at*;grind
 ·show Qn.m32 q / Qn.nR q - Qn.m23 q / Qn.nR q=_;unfold Qn.m32 Qn.m23;grind
 ·show Qn.m13 q / Qn.nR q - Qn.m31 q / Qn.nR q=_;unfold Qn.m13 Qn.m31;grind
 ·show Qn.m21 q / Qn.nR q - Qn.m12 q / Qn.nR q=_;unfold Qn.m21 Qn.m12;grind
theorem lst1 {q:Qn} (h:q.nz):(q.row 2).nth 1 - (q.row 1).nth 2=4*(q.b:Rat) / Qn.nR q*q.a∧1+((1:Int):Rat)*(q.row 0).nth 0+((-1:Int):Rat)*(q.row 1).nth 1+((-1:Int):Rat)*(q.row 2).nth 2=4*(q.b:Rat) / Qn.nR q*q.b∧(q.row 0).nth 1+(q.row 1).nth 0=4*(q.b:Rat) / Qn.nR q*q.c∧(q.row 0).nth 2+(q.row 2).nth 0=4*(q.b:Rat) / Qn.nR q*q.d:=by
 have hn:=Qn.nR_nz h
 rw [aCP h]
 refine ⟨?_,?_,?_,?_⟩
 ·show Qn.m32 q / Qn.nR q - Qn.m23 q / Qn.nR q=_;unfold Qn.m32 Qn.m23;grind
 ·unfold Qn.m11 Qn.m22 Qn.m33 Qn.nR at*;grind
 ·show Qn.m12 q / Qn.nR q+Qn.m21 q / Qn.nR q=_;unfold Qn.m12 Qn.m21;grind
 ·show Qn.m13 q / Qn.nR q+Qn.m31 q / Qn.nR q=_;unfold Qn.m13 Qn.m31;grind
theorem lst2 {q:Qn} (h:q.nz):(q.row 0).nth 2 - (q.row 2).nth 0=4*(q.c:Rat) / Qn.nR q*q.a∧(q.row 0).nth 1+(q.row 1).nth 0=4*(q.c:Rat) / Qn.nR q*q.b∧1+((-1:Int):Rat)*(q.row 0).nth 0+((1:Int):Rat)*(q.row 1).nth 1+((-1:Int):Rat)*(q.row 2).nth 2=4*(q.c:Rat) / Qn.nR q*q.c∧(q.row 1).nth 2+(q.row 2).nth 1=4*(q.c:Rat) / Qn.nR q*q.d:=by
 have hn:=Qn.nR_nz h
 rw [aCP h]
 refine ⟨?_,?_,?_,?_⟩
 ·show Qn.m13 q / Qn.nR q - Qn.m31 q / Qn.nR q=_;unfold Qn.m13 Qn.m31;grind
 ·show Qn.m12 q / Qn.nR q+Qn.m21 q / Qn.nR q=_;unfold Qn.m12 Qn.m21;grind
 ·unfold Qn.m11 Qn.m22 Qn.m33 Qn.nR at*;grind
 ·show Qn.m23 q / Qn.nR q+Qn.m32 q / Qn.nR q=_;unfold Qn.m23 Qn.m32;grind
theorem lst3 {q:Qn} (h:q.nz):(q.row 1).nth 0 - (q.row 0).nth 1=4*(q.d:Rat) / Qn.nR q*q.a∧(q.row 0).nth 2+(q.row 2).nth 0=4*(q.d:Rat) / Qn.nR q*q.b∧(q.row 1).nth 2+(q.row 2).nth 1=4*(q.d:Rat) / Qn.nR q*q.c∧1+((-1:Int):Rat)*(q.row 0).nth 0+((-1:Int):Rat)*(q.row 1).nth 1+((1:Int):Rat)*(q.row 2).nth 2=4*(q.d:Rat) / Qn.nR q*q.d:=by
 have hn:=Qn.nR_nz h
 rw [aCP h]
 refine ⟨?_,?_,?_,?_⟩
 ·show Qn.m21 q / Qn.nR q - Qn.m12 q / Qn.nR q=_;unfold Qn.m21 Qn.m12;grind
 ·show Qn.m13 q / Qn.nR q+Qn.m31 q / Qn.nR q=_;unfold Qn.m13 Qn.m31;grind
 ·show Qn.m23 q / Qn.nR q+Qn.m32 q / Qn.nR q=_;unfold Qn.m23 Qn.m32;grind
 ·unfold Qn.m11 Qn.m22 Qn.m33 Qn.nR at*;grind
structure RotM (m:MX) (q:Qn):Prop where
 da:m.fit 3 3
 at':∀i j:Nat,i < 3→j < 3→at2 m.q i j=(q.row i).nth j
theorem yO {m:MX} (h:m.dim 3 3):m.fit 3 3:=⟨h,by decide,by decide⟩
section
variable {X:List Nat} {w0:World} {M0 M1:List Ent} {I0:List aV}
theorem aKO {m:MX} {q:Qn} {kb:Nat} (hk:kb≤300000) (hz:q.nz) (hm:RotM m q) (hx:pW m kb∈I0):CD Tryz.prog 107 [mv m] X w0 M0 I0 (fun v M I=>M0=M∧I0=I∧v= .bool true):=by
 refine bO (φ:=pW m kb) (Hv.mem hx) ?_
 have hkb:Go.Proofs.YtgpkjcmipiodcaaGreat.kb kb 3=4*(4*(4*kb+1)+1)+1:=rfl
 have hdet:dt 3 (at2 m.q)=1:=by
  rw [iY (g:=fun i j=>(q.row i).nth j) (fun i j hi hj=>hm.at' i j hi hj)]
  exact aWI hz
 refine aZ Tryz.func107 rfl Tryz.ntmps107 rfl ?_
 repeat refine aB ?_
 (refine aU rfl (aEK (a:=m) (R:=3) (C:=3) (k:=kb) (by omega) hm.da aA) ?_;rintro _ _ _ ⟨rfl,t,rfl,ht,htd,rfl⟩;refine aL ?_)
 repeat refine aB ?_
 (refine aU rfl (aOF (a:=m) (b:=t) (R:=3) (C:=3) (D:=3) (k:=kb) (m:=kb) (by omega) (by omega) hm.da (yO htd) aA aA) ?_;rintro _ _ _ ⟨rfl,p,rfl,hp,hpd,rfl⟩;refine aL ?_)
 obtain ⟨kp,hkp⟩:∃kp,3*(kb+kb+1)=kp:=⟨_,rfl⟩
 rw [hkp]
 have hpr:=hpd.1
 have hpq:∀i j:Nat,i < 3→j < 3→at2 p.q i j=if i=j then 1 else 0:=fun i j hi hj=>by
  rw [hp,oV hi hj,←aYF hz hi hj]
  refine gK (fun s hs=>?_)
  rw [ht,oV hs hj,hm.at' i s hi hs,hm.at' j s hj hs]
 refine fH (φ:=aI p.p (recs eL p.rows)) (Hv.xsl (k:=kp) aA) ?_
 repeat refine aB ?_
 rw [hpr]
 refine kS [0,25,26] rfl (fun k G M I=>∃i:Nat,i≤3∧k=3 - i∧G=[(27, .int .i64 (i:Int))]∧M0=M∧aI p.p (recs eL p.rows)::pW p kp::pW m kb::I0=I) (3) (⟨0,by omega,rfl,rfl,rfl,rfl⟩) ?_
 rintro kk G M I ⟨i,hi,rfl,rfl,rfl,rfl⟩
 by_cases hi3:i < 3
 ·have hlr:=hpd.row hi3
  have hri:∀j:Nat,j < 3→(gt (gt p.rows (i:Int)).es (j:Int)).q=if i=j then 1 else 0:=fun j hj=>by
   rw [←hpq i j hi3 hj,vG (by omega) (by omega)]
  obtain ⟨r,hre⟩:∃r,gt p.rows (i:Int)=r:=⟨_,rfl⟩
  refine bD (φ:=lK r kp) (by rw [←hre];exact Hv.xrow (k:=kp) aA ⟨by omega,by omega⟩) ?_
  refine bD (φ:=aI r.p (recs eR r.es)) (Hv.lsl (k:=kp) aA) ?_
  rw [hre] at hlr hri
  repeat refine aB ?_
  rw [hre]
  repeat refine aB ?_
  rw [hlr]
  refine kS [0,7,25,26,27,32,33] rfl (fun k G M I=>∃j:Nat,j≤3∧k=3 - j∧G=[(34, .int .i64 (j:Int))]∧M0=M∧aI r.p (recs eR r.es)::lK r kp::aI p.p (recs eL p.rows)::pW p kp::pW m kb::I0=I) (3) (⟨0,by omega,rfl,rfl,rfl,rfl⟩) ?_
  rintro kk G M I ⟨j,hj,rfl,rfl,rfl,rfl⟩
  by_cases hj3:j < 3
  ·have hej:=hri j hj3
   obtain ⟨e,hee⟩:∃e,gt r.es (j:Int)=e:=⟨_,rfl⟩
   rw [hee] at hej
   refine bD (φ:=cK e kp) (by rw [←hee];exact Hv.lel (r:=r) (k:=kp) aA (by omega)) ?_
   repeat refine aB ?_
   rw [hee]
   refine bG (fun b10=>?_)
   repeat refine aB ?_
   by_cases hij:i=j
   ·rw [if_pos hij] at hej
    have hW:=fun M0 I0=>jA (X:=X) (w0:=w0) (M0:=M0) (I0:=I0) (x:=1) (by decide) (k:=0) (by decide)
    repeat refine aB ?_
    (repeat refine aJ ?_);refine aO 2 [0,1,2,3,4] [1,1,0,0,0] mixed (by kernel_rfl) ?_
    repeat refine aB ?_
    refine iG rfl (hW _ _) (fun e1 he1=>?_)
    refine dP rfl (oM (a:=e) (b:=e1) (k:=kp) (m:=0) (by omega) (Hv.mem aA) (Hv.mem aA)) ?_
    rw [show aDX e.q e1.q=0 by rw [hej,he1];exact vF.2 rfl]
    repeat refine aB ?_
    refine iC (3 - (j+1)) (⟨j+1,by omega,rfl,rfl,rfl,rfl⟩)
   ·rw [if_neg hij] at hej
    have hW:=fun M0 I0=>jA (X:=X) (w0:=w0) (M0:=M0) (I0:=I0) (x:=0) (by decide) (k:=0) (by decide)
    repeat refine aB ?_
    (repeat refine aJ ?_);refine aO 2 [0,1,2,3,4] [1,1,0,0,0] mixed (by kernel_rfl) ?_
    repeat refine aB ?_
    refine iG rfl (hW _ _) (fun e1 he1=>?_)
    refine dP rfl (oM (a:=e) (b:=e1) (k:=kp) (m:=0) (by omega) (Hv.mem aA) (Hv.mem aA)) ?_
    rw [show aDX e.q e1.q=0 by rw [hej,he1];exact vF.2 rfl]
    repeat refine aB ?_
    refine iC (3 - (j+1)) (⟨j+1,by omega,rfl,rfl,rfl,rfl⟩)
  obtain rfl:j=3:=by omega
  repeat refine aB ?_
  refine iC (3 - (i+1)) (⟨i+1,by omega,rfl,rfl,rfl,rfl⟩)
 obtain rfl:i=3:=by omega
 have hW:=fun M0 I0=>jA (X:=X) (w0:=w0) (M0:=M0) (I0:=I0) (x:=1) (by decide) (k:=0) (by decide)
 repeat refine aB ?_
 (refine aU rfl (aBZ (a:=m) (n:=3) (k0:=kb) (by omega) (by omega) hm.da aA) ?_;rintro _ _ _ ⟨rfl,d,rfl,hd,rfl⟩;refine aL ?_)
 rw [hdet] at hd
 obtain ⟨kd,hkd⟩:∃kd,Go.Proofs.YtgpkjcmipiodcaaGreat.kb kb 3=kd:=⟨_,rfl⟩
 rw [hkd] at hkb ⊢
 repeat refine aB ?_
 refine bG (fun b12=>?_)
 repeat refine aB ?_
 (repeat refine aJ ?_);refine aO 2 [0,1,2,3,4] [1,0,0,0,0] mixed (by kernel_rfl) ?_
 repeat refine aB ?_
 refine iG rfl (hW _ _) (fun e1 he1=>?_)
 refine dP rfl (oM (a:=d) (b:=e1) (k:=kd) (m:=0) (by omega) (Hv.mem aA) (Hv.mem aA)) ?_
 rw [show aDX d.q e1.q=0 by rw [hd,he1];exact vF.2 rfl]
 repeat refine aB ?_
 refine aH (by first|exact .inl rfl|exact .inr rfl) rfl rfl _ _ aG aF (⟨rfl,rfl,by rw [cB (p:=(0:Int)=0) rfl]⟩)
theorem aTL {m:MX} {kb b i j:Nat} (hk:kb≤300000) (hm:m.fit 3 3) (hi:i < 3) (hj:j < 3) (hx:pW m kb∈I0) (hb:aI (some ⟨b,0,none⟩) (eMX m)∈I0):CD Tryz.prog 109 [.int .i64 (i:Int), .int .i64 (j:Int), .pointer (some ⟨b,0,none⟩)] X w0 M0 I0 (RQ (at2 m.q i j+at2 m.q j i) (kb+kb+1) M0 I0):=by
 have hl:=hm.1.1
 have hli:=hm.1.row hi
 have hlj:=hm.1.row hj
 have e1:=vG (m:=m) (i:=i) (j:=j) (by omega) (by omega)
 have e2:=vG (m:=m) (i:=j) (j:=i) (by omega) (by omega)
 refine bO (φ:=aI m.p (recs eL m.rows)) (Hv.xsl (k:=kb) hx) ?_
 refine bO (φ:=aI (gt m.rows (i:Int)).p (recs eR (gt m.rows (i:Int)).es)) (Hv.xrsl (k:=kb) (List.mem_cons_of_mem _ hx) ⟨by omega,by omega⟩) ?_
 refine bO (φ:=aI (gt m.rows (j:Int)).p (recs eR (gt m.rows (j:Int)).es)) (Hv.xrsl (k:=kb) (List.mem_cons_of_mem _ (List.mem_cons_of_mem _ hx)) ⟨by omega,by omega⟩) ?_
 refine bO (φ:=cK (gt (gt m.rows (i:Int)).es (j:Int)) kb) (Hv.xel (k:=kb) (List.mem_cons_of_mem _ (List.mem_cons_of_mem _ (List.mem_cons_of_mem _ hx))) ⟨by omega,by omega⟩ ⟨by omega,by omega⟩) ?_
 refine bO (φ:=cK (gt (gt m.rows (j:Int)).es (i:Int)) kb) (Hv.xel (k:=kb) (List.mem_cons_of_mem _ (List.mem_cons_of_mem _ (List.mem_cons_of_mem _ (List.mem_cons_of_mem _ hx)))) ⟨by omega,by omega⟩ ⟨by omega,by omega⟩) ?_
 refine iO Tryz.func109 rfl Tryz.ntmps109 rfl ?_
 refine fE ?_
 refine bG (fun b5=>?_)
 repeat refine aB ?_
 (repeat refine aJ ?_);refine aO 1 [0,1,2,3,4,5,6,7,8,9,10,11,12,13,14,15] [1,1,1,1,1,1,0,1,1,1,1,1,1,0,0,0] mixed (by kernel_rfl) ?_
 repeat refine aB ?_
 refine iG rfl (uL (a:=gt (gt m.rows (i:Int)).es (j:Int)) (b:=gt (gt m.rows (j:Int)).es (i:Int)) (k:=kb) (m:=kb) (by omega) (Hv.mem aA) (Hv.mem aA)) (fun e he=>?_)
 repeat refine aB ?_
 refine bA (cs:=eR e) (.inl rfl) rfl rfl aA rfl M0 (cK e (kb+kb+1)::I0) aG aF ⟨rfl,e,rfl,by rw [he,e1,e2],rfl⟩
theorem aPL {m:MX} {kb b i j:Nat} (hk:kb≤300000) (hm:m.fit 3 3) (hi:i < 3) (hj:j < 3) (hx:pW m kb∈I0) (hb:aI (some ⟨b,0,none⟩) (eMX m)∈I0):CD Tryz.prog 110 [.int .i64 (i:Int), .int .i64 (j:Int), .pointer (some ⟨b,0,none⟩)] X w0 M0 I0 (RQ (at2 m.q i j - at2 m.q j i) (kb+kb+1) M0 I0):=by
 have hl:=hm.1.1
 have hli:=hm.1.row hi
 have hlj:=hm.1.row hj
 have e1:=vG (m:=m) (i:=i) (j:=j) (by omega) (by omega)
 have e2:=vG (m:=m) (i:=j) (j:=i) (by omega) (by omega)
 refine bO (φ:=aI m.p (recs eL m.rows)) (Hv.xsl (k:=kb) hx) ?_
 refine bO (φ:=aI (gt m.rows (i:Int)).p (recs eR (gt m.rows (i:Int)).es)) (Hv.xrsl (k:=kb) (List.mem_cons_of_mem _ hx) ⟨by omega,by omega⟩) ?_
 refine bO (φ:=aI (gt m.rows (j:Int)).p (recs eR (gt m.rows (j:Int)).es)) (Hv.xrsl (k:=kb) (List.mem_cons_of_mem _ (List.mem_cons_of_mem _ hx)) ⟨by omega,by omega⟩) ?_
 refine bO (φ:=cK (gt (gt m.rows (i:Int)).es (j:Int)) kb) (Hv.xel (k:=kb) (List.mem_cons_of_mem _ (List.mem_cons_of_mem _ (List.mem_cons_of_mem _ hx))) ⟨by omega,by omega⟩ ⟨by omega,by omega⟩) ?_
 refine bO (φ:=cK (gt (gt m.rows (j:Int)).es (i:Int)) kb) (Hv.xel (k:=kb) (List.mem_cons_of_mem _ (List.mem_cons_of_mem _ (List.mem_cons_of_mem _ (List.mem_cons_of_mem _ hx)))) ⟨by omega,by omega⟩ ⟨by omega,by omega⟩) ?_
 refine iO Tryz.func110 rfl Tryz.ntmps110 rfl ?_
 refine fE ?_
 refine bG (fun b5=>?_)
 repeat refine aB ?_
 (repeat refine aJ ?_);refine aO 1 [0,1,2,3,4,5,6,7,8,9,10,11,12,13,14,15] [1,1,1,1,1,1,0,1,1,1,1,1,1,0,0,0] mixed (by kernel_rfl) ?_
 repeat refine aB ?_
 refine iG rfl (zB (a:=gt (gt m.rows (i:Int)).es (j:Int)) (b:=gt (gt m.rows (j:Int)).es (i:Int)) (k:=kb) (m:=kb) (by omega) (Hv.mem aA) (Hv.mem aA)) (fun e he=>?_)
 repeat refine aB ?_
 refine bA (cs:=eR e) (.inl rfl) rfl rfl aA rfl M0 (cK e (kb+kb+1)::I0) aG aF ⟨rfl,e,rfl,by rw [he,e1,e2],rfl⟩
theorem aVO {m:MX} {kb b:Nat} {s:P3} (hk:kb≤300000) (hm:m.fit 3 3) (hs:∀j:Int,(s.co j).natAbs≤1) (hx:pW m kb∈I0) (hb:aI (some ⟨b,0,none⟩) (eMX m)∈I0):CD Tryz.prog 108 [p3v s, .pointer (some ⟨b,0,none⟩)] X w0 M0 I0 (RQ (1+((s.x:Int):Rat)*at2 m.q 0 0+((s.y:Int):Rat)*at2 m.q 1 1+((s.z:Int):Rat)*at2 m.q 2 2) (3*(kb+1)) M0 I0):=by
 have hl:=hm.1.1
 have hW1:=fun M0 I0=>jA (X:=X) (w0:=w0) (M0:=M0) (I0:=I0) (x:=1) (by decide) (k:=0) (by decide)
 refine bO (φ:=aI m.p (recs eL m.rows)) (Hv.xsl (k:=kb) hx) ?_
 refine bO (φ:=pW m kb) (Hv.mem (List.mem_cons_of_mem _ hx)) ?_
 refine bO (φ:=aI (some ⟨b,0,none⟩) (eMX m)) (Hv.mem (List.mem_cons_of_mem _ (List.mem_cons_of_mem _ hb))) ?_
 refine aP Tryz.func108 rfl Tryz.ntmps108 rfl ?_
 refine fE ?_
 refine fG rfl (fun b2=>?_)
 refine aC (cs:=gP s) .here ?_
 refine bG (fun b3=>?_)
 repeat refine aB ?_
 refine iG rfl (hW1 _ _) (fun e0 he0=>?_)
 refine bG (fun b4=>?_)
 repeat refine aB ?_
 refine bD (φ:=cK e0 (0*(kb+1))) (Hv.mem (by rw [Nat.zero_mul];exact List.mem_cons_self)) ?_
 refine kS [1,3,4,8] rfl (fun k G M I=>∃(i:Nat) (e:RE),i≤3∧k=3 - i∧e.q=1+sm i (fun j=>((s.co (j:Int):Int):Rat)*at2 m.q j j)∧G=[(9, .int .i64 (i:Int))]∧M= .blk b4 (eR e) 40:: .blk b3 zRv 40::M0∧cK e (i*(kb+1))::aI (some ⟨b,0,none⟩) (eMX m)::pW m kb::aI m.p (recs eL m.rows)::I0=I) (3) (⟨0,e0,by omega,rfl,by rw [he0];simp [sm];grind,rfl,rfl,rfl⟩) ?_
 rintro kk G M I ⟨i,e,hi,rfl,he,rfl,rfl,rfl⟩
 by_cases hi3:i < 3
 ·have hli:=hm.1.row hi3
  have e1:=vG (m:=m) (i:=i) (j:=i) (by omega) (by omega)
  have hW:=fun M0 I0=>jA (X:=X) (w0:=w0) (M0:=M0) (I0:=I0) (x:=s.co (i:Int)) (by have:=hs i;omega) (k:=0) (by have:=hs i;simpa using this)
  refine bD (φ:=aI (gt m.rows (i:Int)).p (recs eR (gt m.rows (i:Int)).es)) (Hv.xrsl (k:=kb) aA ⟨by omega,by omega⟩) ?_
  refine bD (φ:=cK (gt (gt m.rows (i:Int)).es (i:Int)) kb) (Hv.xel (k:=kb) aA ⟨by omega,by omega⟩ ⟨by omega,by omega⟩) ?_
  repeat refine aB ?_
  (refine aD rfl (fun _=>rF (cs:=gP s) (v:= .int .i64 (s.co (i:Int))) (i:=(i:Int)) rfl rfl ⟨by omega,by omega⟩ rfl (aVA s hi3)) rfl rfl ?_)
  repeat refine aB ?_
  (repeat refine aJ ?_);refine aO 3 [0,1,3,4,5,6,7,8,9,2,10,11,12] [2,2,3,3,3,3,3,3,2,0,0,0,0] mixed (by kernel_rfl) ?_
  repeat refine aB ?_
  refine iG rfl (hW _ _) (fun w1 hw1=>?_)
  refine iG rfl (iV (a:=w1) (b:=gt (gt m.rows (i:Int)).es (i:Int)) (k:=0) (m:=kb) (by omega) (Hv.mem aA) (Hv.mem aA)) (fun x1 hx1=>?_)
  have hki:i*(kb+1)≤3*(kb+1):=Nat.mul_le_mul_right _ hi
  refine iG rfl (uL (a:=e) (b:=x1) (k:=i*(kb+1)) (m:=0+kb) (by omega) (Hv.mem aA) (Hv.mem aA)) (fun y1 hy1=>?_)
  rw [show i*(kb+1)+(0+kb)+1=(i+1)*(kb+1) by rw [Nat.succ_mul];omega]
  repeat refine aB ?_
  refine iC (3 - (i+1)) (⟨i+1,y1,by omega,rfl,by rw [hy1,he,hx1,hw1];simp only [sm];rw [e1];grind,rfl,rfl,rfl⟩)
 obtain rfl:i=3:=by omega
 repeat refine aB ?_
 refine bA (cs:=eR e) (.inl rfl) rfl rfl aA rfl M0 (cK e (3*(kb+1))::I0) aG aF ⟨rfl,e,rfl,?_,rfl⟩
 rw [he]
 show 1+(((0+_)+_)+_)=_
 show 1+(((0+((s.x:Int):Rat)*at2 m.q 0 0)+((s.y:Int):Rat)*at2 m.q 1 1)+((s.z:Int):Rat)*at2 m.q 2 2)=_
 grind
end
end Go.Proofs.YtgpkjcmipiodcaaGreat
namespace Go.Proofs.YtgpkjcmipiodcaaGreat
open Go Go.Fx
structure R4 where
 a:RE
 b:RE
 c:RE
 d:RE
instance R4.inh:Inhabited R4:=⟨⟨default,default,default,default⟩⟩
abbrev R4.es (r:R4):List RE:=[r.a,r.b,r.c,r.d]
abbrev eR4 (r:R4):List Value:=recs eR [r.a,r.b,r.c,r.d]
instance R4.szd:Sized eR4 16:=⟨fun _=>rfl⟩
instance R4.ones:Ones eR4:=⟨fun m u hu=>wI _ u hu⟩
theorem Hv.r4v {I:List aV} {a b c d:RE} {k:Nat} (ha:Hv I (cK a k)) (hb:Hv I (cK b k)) (hc:Hv I (cK c k)) (hd:Hv I (cK d k)):Hv I (bW [a,b,c,d] k):=⟨fun X w hw=>⟨fun x hx=>by
 simp only [List.mem_cons,List.not_mem_nil,or_false] at hx
 rcases hx with rfl|rfl|rfl|rfl
 ·exact ha.go X w hw
 ·exact hb.go X w hw
 ·exact hc.go X w hw
 ·exact hd.go X w hw⟩⟩
structure AllR4 (ls:List R4) (k:Nat) (X:List Nat) (w:World):Prop where
 go:∀r∈ls,AllR r.es k X w
abbrev aOB (ls:List R4) (k:Nat):aV:=AllR4 ls k
instance (ls:List R4) (k:Nat):Fx.Good (AllR4 ls k):=⟨fun X Y w w' h he hY=>⟨fun r hm=>Fx.Good.go (φ:=AllR _ _) X Y w w' (h.go r hm) he hY⟩⟩
theorem Hv.el4 {I:List aV} {ls:List R4} {k:Nat} {i:Int} (h:aOB ls k∈I) (hi:0≤i∧i < ls.length):Hv I (bW (gt ls i).es k):=⟨fun X w hw=>(hw _ h:AllR4 ls k X w).go _ (bJ hi)⟩
theorem Hv.all4 {I:List aV} {a b c d:R4} {k:Nat} (ha:Hv I (bW a.es k)) (hb:Hv I (bW b.es k)) (hc:Hv I (bW c.es k)) (hd:Hv I (bW d.es k)):Hv I (aOB [a,b,c,d] k):=⟨fun X w hw=>⟨fun x hx=>by
 simp only [List.mem_cons,List.not_mem_nil,or_false] at hx
 rcases hx with rfl|rfl|rfl|rfl
 ·exact ha.go X w hw
 ·exact hb.go X w hw
 ·exact hc.go X w hw
 ·exact hd.go X w hw⟩⟩
def Mul4 (es:List RE) (c:Rat) (q:Qn):Prop:=∀t:Nat,t < 4→(gt es (t:Int)).q=c*((gt (iQ q) (t:Int):Int):Rat)
theorem Mul4.mk {a b c d:RE} {x:Rat} {q:Qn} (h0:a.q=x*q.a) (h1:b.q=x*q.b) (h2:c.q=x*q.c) (h3:d.q=x*q.d):Mul4 [a,b,c,d] x q:=fun t ht=>by
 obtain rfl|rfl|rfl|rfl:t=0∨t=1∨t=2∨t=3:=by omega
 ·exact h0
 ·exact h1
 ·exact h2
 ·exact h3
theorem sgn3 (a b c:Int) (ha:a.natAbs≤1) (hb:b.natAbs≤1) (hc:c.natAbs≤1):∀j:Int,((⟨a,b,c⟩:P3).co j).natAbs≤1:=fun j=>by
 unfold P3.co
 split
 ·exact ha
 ·split
  ·exact hb
  ·exact hc
section
variable {X:List Nat} {w0:World} {M0 M1:List Ent} {I0:List aV}
theorem aQM {m:MX} {q:Qn} {kb KK:Nat} (hk:kb≤300000) (hK:3*(kb+1)=KK) (hz:q.nz) (hf:(Qn.prm q).fit) (hm:RotM m q) (hx:pW m kb∈I0):CD Tryz.prog 51 [mv m] X w0 M0 I0 (fun v M I=>M0=M∧I0=I∧v= .tuple #[qv (Qn.prm q), .int .i64 0]):=by
 have hl:=hm.da.1.1
 have hl0:(gt m.rows 0).es.length=3:=hm.da.1.row (show 0 < 3 by decide)
 have hat:=hm.at'
 have hn:=Qn.nR_nz hz
 refine bO (φ:=aI m.p (recs eL m.rows)) (Hv.xsl (k:=kb) hx) ?_
 refine bO (φ:=pW m kb) (Hv.mem (List.mem_cons_of_mem _ hx)) ?_
 have hSu:=fun (s:P3) (hs:∀j:Int,(s.co j).natAbs≤1) (b:Nat) M0 I0 h1 h2=>aVO (X:=X) (w0:=w0) (M0:=M0) (I0:=I0) (m:=m) (kb:=kb) (b:=b) (s:=s) (by omega) hm.da hs h1 h2
 have hPl:=fun (i j:Nat) (hi:i < 3) (hj:j < 3) (b:Nat) M0 I0 h1 h2=>aTL (X:=X) (w0:=w0) (M0:=M0) (I0:=I0) (m:=m) (kb:=kb) (b:=b) (i:=i) (j:=j) (by omega) hm.da hi hj h1 h2
 have hMi:=fun (i j:Nat) (hi:i < 3) (hj:j < 3) (b:Nat) M0 I0 h1 h2=>aPL (X:=X) (w0:=w0) (M0:=M0) (I0:=I0) (m:=m) (kb:=kb) (b:=b) (i:=i) (j:=j) (by omega) hm.da hi hj h1 h2
 have a00:=hat 0 0 (by decide) (by decide)
 have a01:=hat 0 1 (by decide) (by decide)
 have a02:=hat 0 2 (by decide) (by decide)
 have a10:=hat 1 0 (by decide) (by decide)
 have a11:=hat 1 1 (by decide) (by decide)
 have a12:=hat 1 2 (by decide) (by decide)
 have a20:=hat 2 0 (by decide) (by decide)
 have a21:=hat 2 1 (by decide) (by decide)
 have a22:=hat 2 2 (by decide) (by decide)
 obtain ⟨z00,z01,z02,z03⟩:=lst0 hz
 obtain ⟨z10,z11,z12,z13⟩:=lst1 hz
 obtain ⟨z20,z21,z22,z23⟩:=lst2 hz
 obtain ⟨z30,z31,z32,z33⟩:=lst3 hz
 refine aZ Tryz.func51 rfl Tryz.ntmps51 rfl ?_
 refine fE ?_
 refine tyX rfl (fun b1=>?_)
 refine aC (cs:=eMX m) .here ?_
 refine bG (fun b2=>?_)
 repeat refine aB ?_
 refine dP rfl (aFF (a:=m) (R:=3) (C:=3) (k:=kb) (by omega) hm.da aA) ?_
 repeat refine aB ?_
 refine dP rfl (aKO (kb:=kb) (by omega) hz hm aA) ?_
 repeat refine aB ?_
 (refine aD rfl (fun _=>bH (vals:=[.int .i64 1, .int .i64 1, .int .i64 1]) (cells:=[.int .i64 1, .int .i64 1, .int .i64 1]) rfl ?hpl rfl ?hz) rfl rfl ?_;(case hpl=>exact (by intro v hv;repeat (first|exact absurd hv (List.not_mem_nil)|(rcases List.mem_cons.1 hv with rfl|hv; · rfl))));(case hz=>rfl))
 (refine bI rfl rfl (hSu ⟨1,1,1⟩ (sgn3 _ _ _ (by decide) (by decide) (by decide)) b1 _ _ aA aA) rfl rfl rfl ?_;rintro _ _ _ ⟨rfl,x00,rfl,hx00,rfl⟩;refine aL ?_)
 repeat refine aB ?_
 (refine bI rfl rfl (hMi 2 1 (by decide) (by decide) b1 _ _ aA aA) rfl rfl rfl ?_;rintro _ _ _ ⟨rfl,x01,rfl,hx01,rfl⟩;refine aL ?_)
 repeat refine aB ?_
 (refine bI rfl rfl (hMi 0 2 (by decide) (by decide) b1 _ _ aA aA) rfl rfl rfl ?_;rintro _ _ _ ⟨rfl,x02,rfl,hx02,rfl⟩;refine aL ?_)
 repeat refine aB ?_
 (refine bI rfl rfl (hMi 1 0 (by decide) (by decide) b1 _ _ aA aA) rfl rfl rfl ?_;rintro _ _ _ ⟨rfl,x03,rfl,hx03,rfl⟩;refine aL ?_)
 repeat refine aB ?_
 (refine aD rfl (fun _=>bH (vals:=[rv x00,rv x01,rv x02,rv x03]) (cells:=recs eR [x00,x01,x02,x03]) rfl ?hpl rfl ?hz) rfl rfl ?_;(case hpl=>exact (by intro v hv;repeat (first|exact absurd hv (List.not_mem_nil)|(rcases List.mem_cons.1 hv with rfl|hv; · rfl))));(case hz=>rfl))
 repeat refine aB ?_
 (refine bI rfl rfl (hMi 2 1 (by decide) (by decide) b1 _ _ aA aA) rfl rfl rfl ?_;rintro _ _ _ ⟨rfl,x10,rfl,hx10,rfl⟩;refine aL ?_)
 repeat refine aB ?_
 (refine aD rfl (fun _=>bH (vals:=[.int .i64 1, .int .i64 (-1), .int .i64 (-1)]) (cells:=[.int .i64 1, .int .i64 (-1), .int .i64 (-1)]) rfl ?hpl rfl ?hz) rfl rfl ?_;(case hpl=>exact (by intro v hv;repeat (first|exact absurd hv (List.not_mem_nil)|(rcases List.mem_cons.1 hv with rfl|hv; · rfl))));(case hz=>rfl))
 (refine bI rfl rfl (hSu ⟨1, -1, -1⟩ (sgn3 _ _ _ (by decide) (by decide) (by decide)) b1 _ _ aA aA) rfl rfl rfl ?_;rintro _ _ _ ⟨rfl,x11,rfl,hx11,rfl⟩;refine aL ?_)
 repeat refine aB ?_
 (refine bI rfl rfl (hPl 0 1 (by decide) (by decide) b1 _ _ aA aA) rfl rfl rfl ?_;rintro _ _ _ ⟨rfl,x12,rfl,hx12,rfl⟩;refine aL ?_)
 repeat refine aB ?_
 (refine bI rfl rfl (hPl 0 2 (by decide) (by decide) b1 _ _ aA aA) rfl rfl rfl ?_;rintro _ _ _ ⟨rfl,x13,rfl,hx13,rfl⟩;refine aL ?_)
 repeat refine aB ?_
 (refine aD rfl (fun _=>bH (vals:=[rv x10,rv x11,rv x12,rv x13]) (cells:=recs eR [x10,x11,x12,x13]) rfl ?hpl rfl ?hz) rfl rfl ?_;(case hpl=>exact (by intro v hv;repeat (first|exact absurd hv (List.not_mem_nil)|(rcases List.mem_cons.1 hv with rfl|hv; · rfl))));(case hz=>rfl))
 repeat refine aB ?_
 (refine bI rfl rfl (hMi 0 2 (by decide) (by decide) b1 _ _ aA aA) rfl rfl rfl ?_;rintro _ _ _ ⟨rfl,x20,rfl,hx20,rfl⟩;refine aL ?_)
 repeat refine aB ?_
 (refine bI rfl rfl (hPl 0 1 (by decide) (by decide) b1 _ _ aA aA) rfl rfl rfl ?_;rintro _ _ _ ⟨rfl,x21,rfl,hx21,rfl⟩;refine aL ?_)
 repeat refine aB ?_
 (refine aD rfl (fun _=>bH (vals:=[.int .i64 (-1), .int .i64 1, .int .i64 (-1)]) (cells:=[.int .i64 (-1), .int .i64 1, .int .i64 (-1)]) rfl ?hpl rfl ?hz) rfl rfl ?_;(case hpl=>exact (by intro v hv;repeat (first|exact absurd hv (List.not_mem_nil)|(rcases List.mem_cons.1 hv with rfl|hv; · rfl))));(case hz=>rfl))
 (refine bI rfl rfl (hSu ⟨-1,1, -1⟩ (sgn3 _ _ _ (by decide) (by decide) (by decide)) b1 _ _ aA aA) rfl rfl rfl ?_;rintro _ _ _ ⟨rfl,x22,rfl,hx22,rfl⟩;refine aL ?_)
 repeat refine aB ?_
 (refine bI rfl rfl (hPl 1 2 (by decide) (by decide) b1 _ _ aA aA) rfl rfl rfl ?_;rintro _ _ _ ⟨rfl,x23,rfl,hx23,rfl⟩;refine aL ?_)
 repeat refine aB ?_
 (refine aD rfl (fun _=>bH (vals:=[rv x20,rv x21,rv x22,rv x23]) (cells:=recs eR [x20,x21,x22,x23]) rfl ?hpl rfl ?hz) rfl rfl ?_;(case hpl=>exact (by intro v hv;repeat (first|exact absurd hv (List.not_mem_nil)|(rcases List.mem_cons.1 hv with rfl|hv; · rfl))));(case hz=>rfl))
 repeat refine aB ?_
 (refine bI rfl rfl (hMi 1 0 (by decide) (by decide) b1 _ _ aA aA) rfl rfl rfl ?_;rintro _ _ _ ⟨rfl,x30,rfl,hx30,rfl⟩;refine aL ?_)
 repeat refine aB ?_
 (refine bI rfl rfl (hPl 0 2 (by decide) (by decide) b1 _ _ aA aA) rfl rfl rfl ?_;rintro _ _ _ ⟨rfl,x31,rfl,hx31,rfl⟩;refine aL ?_)
 repeat refine aB ?_
 (refine bI rfl rfl (hPl 1 2 (by decide) (by decide) b1 _ _ aA aA) rfl rfl rfl ?_;rintro _ _ _ ⟨rfl,x32,rfl,hx32,rfl⟩;refine aL ?_)
 repeat refine aB ?_
 (refine aD rfl (fun _=>bH (vals:=[.int .i64 (-1), .int .i64 (-1), .int .i64 1]) (cells:=[.int .i64 (-1), .int .i64 (-1), .int .i64 1]) rfl ?hpl rfl ?hz) rfl rfl ?_;(case hpl=>exact (by intro v hv;repeat (first|exact absurd hv (List.not_mem_nil)|(rcases List.mem_cons.1 hv with rfl|hv; · rfl))));(case hz=>rfl))
 (refine bI rfl rfl (hSu ⟨-1, -1,1⟩ (sgn3 _ _ _ (by decide) (by decide) (by decide)) b1 _ _ aA aA) rfl rfl rfl ?_;rintro _ _ _ ⟨rfl,x33,rfl,hx33,rfl⟩;refine aL ?_)
 repeat refine aB ?_
 (refine aD rfl (fun _=>bH (vals:=[rv x30,rv x31,rv x32,rv x33]) (cells:=recs eR [x30,x31,x32,x33]) rfl ?hpl rfl ?hz) rfl rfl ?_;(case hpl=>exact (by intro v hv;repeat (first|exact absurd hv (List.not_mem_nil)|(rcases List.mem_cons.1 hv with rfl|hv; · rfl))));(case hz=>rfl))
 repeat refine aB ?_
 refine lL (cs:=recs eR4 [⟨x00,x01,x02,x03⟩,⟨x10,x11,x12,x13⟩,⟨x20,x21,x22,x23⟩,⟨x30,x31,x32,x33⟩]) ([.agg (recs eR [x00,x01,x02,x03]).toArray, .agg (recs eR [x10,x11,x12,x13]).toArray, .agg (recs eR [x20,x21,x22,x23]).toArray, .agg (recs eR [x30,x31,x32,x33]).toArray]) rfl (fun b72=>?_)
 refine fH (φ:=bW [x00,x01,x02,x03] KK) (Hv.r4v (Hv.q (k:=3*(kb+1)) aA (by omega)) (Hv.q (k:=kb+kb+1) aA (by omega)) (Hv.q (k:=kb+kb+1) aA (by omega)) (Hv.q (k:=kb+kb+1) aA (by omega))) ?_
 refine fH (φ:=bW [x10,x11,x12,x13] KK) (Hv.r4v (Hv.q (k:=kb+kb+1) aA (by omega)) (Hv.q (k:=3*(kb+1)) aA (by omega)) (Hv.q (k:=kb+kb+1) aA (by omega)) (Hv.q (k:=kb+kb+1) aA (by omega))) ?_
 refine fH (φ:=bW [x20,x21,x22,x23] KK) (Hv.r4v (Hv.q (k:=kb+kb+1) aA (by omega)) (Hv.q (k:=kb+kb+1) aA (by omega)) (Hv.q (k:=3*(kb+1)) aA (by omega)) (Hv.q (k:=kb+kb+1) aA (by omega))) ?_
 refine fH (φ:=bW [x30,x31,x32,x33] KK) (Hv.r4v (Hv.q (k:=kb+kb+1) aA (by omega)) (Hv.q (k:=kb+kb+1) aA (by omega)) (Hv.q (k:=kb+kb+1) aA (by omega)) (Hv.q (k:=3*(kb+1)) aA (by omega))) ?_
 refine aC (cs:=recs eR4 [⟨x00,x01,x02,x03⟩,⟨x10,x11,x12,x13⟩,⟨x20,x21,x22,x23⟩,⟨x30,x31,x32,x33⟩]) .here ?_
 have m0:Mul4 [x00,x01,x02,x03] (4*((gt (iQ q) (0:Int):Int):Rat) / Qn.nR q) q:=Mul4.mk (by rw [hx00];simp only [a00,a01,a02,a10,a11,a12,a20,a21,a22];exact z00) (by rw [hx01];simp only [a00,a01,a02,a10,a11,a12,a20,a21,a22];exact z01) (by rw [hx02];simp only [a00,a01,a02,a10,a11,a12,a20,a21,a22];exact z02) (by rw [hx03];simp only [a00,a01,a02,a10,a11,a12,a20,a21,a22];exact z03)
 have m1:Mul4 [x10,x11,x12,x13] (4*((gt (iQ q) (1:Int):Int):Rat) / Qn.nR q) q:=Mul4.mk (by rw [hx10];simp only [a00,a01,a02,a10,a11,a12,a20,a21,a22];exact z10) (by rw [hx11];simp only [a00,a01,a02,a10,a11,a12,a20,a21,a22];exact z11) (by rw [hx12];simp only [a00,a01,a02,a10,a11,a12,a20,a21,a22];exact z12) (by rw [hx13];simp only [a00,a01,a02,a10,a11,a12,a20,a21,a22];exact z13)
 have m2:Mul4 [x20,x21,x22,x23] (4*((gt (iQ q) (2:Int):Int):Rat) / Qn.nR q) q:=Mul4.mk (by rw [hx20];simp only [a00,a01,a02,a10,a11,a12,a20,a21,a22];exact z20) (by rw [hx21];simp only [a00,a01,a02,a10,a11,a12,a20,a21,a22];exact z21) (by rw [hx22];simp only [a00,a01,a02,a10,a11,a12,a20,a21,a22];exact z22) (by rw [hx23];simp only [a00,a01,a02,a10,a11,a12,a20,a21,a22];exact z23)
 have m3:Mul4 [x30,x31,x32,x33] (4*((gt (iQ q) (3:Int):Int):Rat) / Qn.nR q) q:=Mul4.mk (by rw [hx30];simp only [a00,a01,a02,a10,a11,a12,a20,a21,a22];exact z30) (by rw [hx31];simp only [a00,a01,a02,a10,a11,a12,a20,a21,a22];exact z31) (by rw [hx32];simp only [a00,a01,a02,a10,a11,a12,a20,a21,a22];exact z32) (by rw [hx33];simp only [a00,a01,a02,a10,a11,a12,a20,a21,a22];exact z33)
 obtain ⟨ls,hls⟩:∃ls:List R4,[⟨x00,x01,x02,x03⟩,⟨x10,x11,x12,x13⟩,⟨x20,x21,x22,x23⟩,⟨x30,x31,x32,x33⟩]=ls:=⟨_,rfl⟩
 have hll:ls.length=4:=by rw [←hls];rfl
 have hlm:∀i:Nat,i < 4→Mul4 (gt ls (i:Int)).es (4*((gt (iQ q) (i:Int):Int):Rat) / Qn.nR q) q:=fun i hi=>by
  obtain rfl|rfl|rfl|rfl:i=0∨i=1∨i=2∨i=3:=by omega
  ·rw [←hls];exact m0
  ·rw [←hls];exact m1
  ·rw [←hls];exact m2
  ·rw [←hls];exact m3
 refine fH (φ:=aOB ls KK) (by rw [←hls];exact Hv.all4 (Hv.mem aA) (Hv.mem aA) (Hv.mem aA) (Hv.mem aA)) ?_
 rw [hls]
 repeat refine aB ?_
 refine kS [2,72,73] rfl (fun k G M I=>∃i:Nat,i≤4∧k=4 - i∧(∀j:Nat,j < i→gt (iQ q) (j:Int)=0)∧G=[(74, .int .i64 (i:Int))]∧M= .blk b2 zQ 28::M0∧aOB ls KK::aI (some ⟨b72,0,none⟩) (recs eR4 ls)::I0=I) (4) (⟨0,by omega,rfl,fun j hj=>absurd hj (by omega),rfl,rfl,rfl⟩) ?_
 rintro kk G M I ⟨i,hi,rfl,hzz,rfl,rfl,rfl⟩
 by_cases hi4:i < 4
 ·have hme:=hlm i hi4
  obtain ⟨L,hL⟩:∃L,gt ls (i:Int)=L:=⟨_,rfl⟩
  rw [hL] at hme
  refine bD (φ:=bW L.es KK) (by rw [←hL];exact Hv.el4 aA ⟨by omega,by omega⟩) ?_
  have hNz:=fun M0 I0 h=>aUU (X:=X) (w0:=w0) (M0:=M0) (I0:=I0) (es:=L.es) (kb:=KK) (by omega) rfl h
  repeat refine aB ?_
  rw [hL]
  refine bG (fun b8=>?_)
  repeat refine aB ?_
  (refine aU rfl (hNz _ _ (Hv.mem aA)) ?_;rintro _ _ _ ⟨rfl,rfl,rfl⟩;refine aL ?_)
  by_cases hx0:gt (iQ q) (i:Int)=0
  ·have hne:¬∃t:Nat,t < 4∧(gt L.es (t:Int)).q≠0:=fun ⟨t,ht,h⟩=>h (by
    rw [hme t ht,hx0]
    show 4*(0:Rat) / Qn.nR q*_=0
    grind)
   rw [bF hne]
   repeat refine aB ?_
   refine iC (4 - (i+1)) (⟨i+1,by omega,rfl,fun j hj=>?_,rfl,rfl,rfl⟩)
   by_cases e:j=i
   ·subst e;exact hx0
   ·exact hzz j (by omega)
  ·have hxr:((gt (iQ q) (i:Int):Int):Rat)≠0:=by exact_mod_cast hx0
   have hc:4*((gt (iQ q) (i:Int):Int):Rat) / Qn.nR q≠0:=fun h=>hxr (by
    generalize ((gt (iQ q) (i:Int):Int):Rat)=y at*
    generalize Qn.nR q=n at*
    have h1:y=(4*y / n)*n / 4:=by grind
    rw [h1,h];grind)
   have hye:∃t:Nat,t < 4∧(gt L.es (t:Int)).q≠0:=⟨i,hi4,by
    rw [hme i hi4]
    exact fun h=>(Rat.mul_eq_zero.1 h).elim hc hxr⟩
   rw [cB hye]
   repeat refine aB ?_
   refine dP rfl (aQX (es:=L.es) (q:=q) (kb:=KK) (by omega) rfl hc hz hf hme (Hv.mem aA)) ?_
   repeat refine aB ?_
   refine dI (rs:=[.cell 2 28, .tmp 3]) (vs:=[qv (Qn.prm q), .int .i64 0]) (.inl rfl) rfl (.cellN (cs:=eQ (Qn.prm q)) inferInstance rfl aA rfl (.tmp rfl .nil)) rfl M0 I0 aG aF ⟨rfl,rfl,rfl⟩
 exfalso
 exact Qn.nz_iff.1 hz ⟨hzz 0 (by omega),hzz 1 (by omega),hzz 2 (by omega),hzz 3 (by omega)⟩
end
end Go.Proofs.YtgpkjcmipiodcaaGreat
namespace Go.Proofs.YtgpkjcmipiodcaaGreat
open Go Go.Fx
theorem aCZ (x:Rat):0≤x*x:=by
 by_cases h:0≤x
 ·exact Rat.mul_nonneg h h
 ·have h1:0≤ -x:=by have:=Rat.le_of_lt (Rat.not_le.1 h);grind
  have:=Rat.mul_nonneg h1 h1
  grind
theorem aUA {u:V3} (h:u.dot u=0):u=⟨0,0,0⟩:=by
 have h1:=aCZ u.x
 have h2:=aCZ u.y
 have h3:=aCZ u.z
 unfold V3.dot at h
 have e1:u.x*u.x=0:=by grind
 have e2:u.y*u.y=0:=by grind
 have e3:u.z*u.z=0:=by grind
 apply V3.ext
 ·rcases Rat.mul_eq_zero.1 e1 with h|h <;>exact h
 ·rcases Rat.mul_eq_zero.1 e2 with h|h <;>exact h
 ·rcases Rat.mul_eq_zero.1 e3 with h|h <;>exact h
theorem bBA {u v:V3} (h:(u.crs v).dot (u.crs v)≠0):u.dot u≠0:=fun h0=>by
 rw [aUA h0] at h
 refine h ?_
 unfold V3.crs V3.dot
 simp only
 grind
theorem sm3 (f:Nat→Rat):sm 3 f=0+f 0+f 1+f 2:=rfl
theorem aSZ {u v:V3}:dt 3 (frF u v 1)=(u.crs v).dot (u.crs v):=by
 rw [aTM]
 show (1*u.x)*((1*v.y)*(1*1*(u.crs v).z) - (1*1*(u.crs v).y)*(1*v.z)) - (1*v.x)*((1*u.y)*(1*1*(u.crs v).z) - (1*1*(u.crs v).y)*(1*u.z))+(1*1*(u.crs v).x)*((1*u.y)*(1*v.z) - (1*v.y)*(1*u.z))=_
 unfold V3.crs V3.dot
 simp only
 grind
theorem aXX {q:Qn} (h:q.nz) {u v:V3} (hw:(u.crs v).dot (u.crs v)≠0) {i j:Nat} (hi:i < 3) (hj:j < 3):sm 3 (fun t=>frF (q.app u) (q.app v) (1 / Qn.nR q) i t*at2 (zU 3 (yN 3 3 (frF u v 1))) t j)=(q.row i).nth j:=by
 have hd:dt 3 (at2 (yN 3 3 (frF u v 1)))≠0:=by
  rw [iY (g:=frF u v 1) (fun i j hi hj=>oV hi hj),aSZ]
  exact hw
 have h1:=(aVU hd).1
 obtain ⟨G,hG⟩:∃G:V3,G=⟨at2 (zU 3 (yN 3 3 (frF u v 1))) 0 j,at2 (zU 3 (yN 3 3 (frF u v 1))) 1 j,at2 (zU 3 (yN 3 3 (frF u v 1))) 2 j⟩:=⟨_,rfl⟩
 have g0:at2 (zU 3 (yN 3 3 (frF u v 1))) 0 j=G.x:=by rw [hG]
 have g1:at2 (zU 3 (yN 3 3 (frF u v 1))) 1 j=G.y:=by rw [hG]
 have g2:at2 (zU 3 (yN 3 3 (frF u v 1))) 2 j=G.z:=by rw [hG]
 have k:∀s:Nat,s < 3→0+frF u v 1 s 0*G.x+frF u v 1 s 1*G.y+frF u v 1 s 2*G.z=qX s j:=fun s hs=>by
  have h2:=h1 s j hs hj
  unfold vK at h2
  rw [sm3,g0,g1,g2,oV hs (by decide),oV hs (by decide),oV hs (by decide)] at h2
  exact h2
 have k0:0+1*u.x*G.x+1*v.x*G.y+1*1*(u.crs v).x*G.z=qX 0 j:=k 0 (by decide)
 have k1:0+1*u.y*G.x+1*v.y*G.y+1*1*(u.crs v).y*G.z=qX 1 j:=k 1 (by decide)
 have k2:0+1*u.z*G.x+1*v.z*G.y+1*1*(u.crs v).z*G.z=qX 2 j:=k 2 (by decide)
 have hf:=aXU h u v i
 rw [sm3,g0,g1,g2]
 show 0+(frm (q.app u) (q.app v) (1 / Qn.nR q) i).x*G.x+(frm (q.app u) (q.app v) (1 / Qn.nR q) i).y*G.y+(frm (q.app u) (q.app v) (1 / Qn.nR q) i).z*G.z=_
 rw [hf]
 have hfi:=aXJ (r:=q.row i) (u:=u) (v:=v) (w:=u.crs v) (g:=G) (e:=⟨qX 0 j,qX 1 j,qX 2 j⟩) (by rw [←k0];grind) (by rw [←k1];grind) (by rw [←k2];grind)
 have e3:(q.row i).x*qX 0 j+(q.row i).y*qX 1 j+(q.row i).z*qX 2 j=(q.row i).nth j:=by
  obtain rfl|rfl|rfl:j=0∨j=1∨j=2:=by omega
  ·show _ *(1:Rat)+_ *(0:Rat)+_ *(0:Rat)=(q.row i).x;grind
  ·show _ *(0:Rat)+_ *(1:Rat)+_ *(0:Rat)=(q.row i).y;grind
  ·show _ *(0:Rat)+_ *(0:Rat)+_ *(1:Rat)=(q.row i).z;grind
 rw [←e3,←hfi]
 simp only
 grind
end Go.Proofs.YtgpkjcmipiodcaaGreat
