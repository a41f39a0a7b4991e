/- integer: long division integer: quotient and remainder of magnitudes integer: Of, sum inte -/
import Derived.Test.YtmmmfphealhapaaGreatZsai
import Derived.Test.YtmmmfphealhapaaGreatZsah
set_option linter.unusedSimpArgs false
set_option linter.unusedVariables false
set_option maxRecDepth 100000
set_option maxHeartbeats 4000000
namespace Go.Proofs.YtmmmfphealhapaaGreat
open Go Go.Fx
theorem cut0 (b c:Nat):wL (some ⟨b,0,none⟩) c 0 1=some ⟨b,0,none⟩:=by
 unfold wL
 split <;>simp [Addr.add]
section
variable {X:List Nat} {w0:World} {M0:List Ent} {I0:List aM}
set_option pp.maxSteps 300000 in
set_option pp.deepTerms true in
theorem aYO {p q:Option Addr} {m n cp cq:Nat} (hm:(gr m).length≤50000000000) (hn:2≤(gr n).length) (hle:n≤m) (hp:aH p (recs eG (gr m))∈I0) (hq:aH q (recs eG (gr n))∈I0):
  CD Tryz.prog 202 [.slice p (gr m).length cp, .slice q (gr n).length cq] X w0 M0 I0 (fun v M I=>M0=M∧∃p1 c1 p2 c2,sF p1 (m / n) c1∧sF p2 (m % n) c2∧v= .tuple #[.slice p1 (gr (m / n)).length c1, .slice p2 (gr (m % n)).length c2]∧I=aH p1 (recs eG (gr (m / n)))::aH p2 (recs eG (gr (m % n)))::I0):=by
 have hnm:(gr n).length≤(gr m).length:=gV hle
 obtain ⟨bt,hgt,hbt⟩:=aVN (n:=n) (by omega)
 have da:=bR m
 have db:=bR n
 generalize ha:gr m=a at*
 generalize hb:gr n=b at*
 have hT1:=fun (M0:List Ent) (I0:List aM) (b1:Nat) (f:Nat) (hf:0 < f) (hf2:f < 1000000000) (h:aH p (recs eG a)∈I0) (h2:aH (some ⟨b1,0,none⟩) (recs eG [(f:Int)])∈I0)=>aGV (X:=X) (w0:=w0) (M0:=M0) (I0:=I0) (p:=p) (q:=some ⟨b1,0,none⟩) (m:=m) (n:=f) (cp:=cp) (cq:=1) (by rw [ha];omega) (by rw [wM hf hf2];simp) (by rw [ha];exact h) (by rw [wM hf hf2];exact h2)
 have hT2:=fun (M0:List Ent) (I0:List aM) (b1:Nat) (f:Nat) (hf:0 < f) (hf2:f < 1000000000) (h:aH q (recs eG b)∈I0) (h2:aH (some ⟨b1,0,none⟩) (recs eG [(f:Int)])∈I0)=>aGV (X:=X) (w0:=w0) (M0:=M0) (I0:=I0) (p:=q) (q:=some ⟨b1,0,none⟩) (m:=n) (n:=f) (cp:=cq) (cq:=1) (by rw [hb];omega) (by rw [wM hf hf2];simp) (by rw [hb];exact h) (by rw [wM hf hf2];exact h2)
 rw [ha] at hT1
 rw [hb] at hT2
 refine dV Tryz.func202 rfl Tryz.ntmps202 rfl ?_
 repeat (refine iW ?_)
 rw [hgt]
 repeat (refine iW ?_)
 obtain ⟨f,hf1,hf2,ef⟩:=aJX (bt:=bt) hbt
 rw [ef]
 clear ef
 replace hT1:=fun M0 I0 b1=>hT1 M0 I0 b1 f hf1 hf2
 replace hT2:=fun M0 I0 b1=>hT2 M0 I0 b1 f hf1 hf2
 rw [wM hf1 hf2] at hT1 hT2
 have hlu:=tX (m:=m) hf1 hf2
 have hlv:=tX (m:=n) hf1 hf2
 have hluv:(gr (n*f)).length≤(gr (m*f)).length:=gV (Nat.mul_le_mul_right _ hle)
 rw [ha] at hlu
 rw [hb] at hlv
 have du:=bR (m*f)
 have dv:=bR (n*f)
 have vu:=cO (m*f)
 have vv:=cO (n*f)
 have tv:=aDI (n*f)
 generalize hu0:gr (m*f)=u0 at*
 generalize hv0:gr (n*f)=v at*
 repeat (refine iW ?_)
 (refine vO (cs:=recs eG [(f:Int)]) ([.int .u32 (f:Int)]) rfl rfl (by intro v hv;repeat (first|exact absurd hv (List.not_mem_nil)|(rcases List.mem_cons.1 hv with rfl|hv; · rfl))) (by omega) rfl rfl rfl ?_;intro b1;refine ⟨kT,?_⟩)
 refine aI yM ?_
 (refine aO rfl (hT1 _ _ b1 aZ aZ) rfl rfl ?_;rintro _ _ _ ⟨bu,cu,rfl,hcu,rfl,rfl⟩;refine ⟨kT,?_⟩)
 repeat (refine iW ?_)
 (refine vO (cs:=recs eG [(f:Int)]) ([.int .u32 (f:Int)]) rfl rfl (by intro v hv;repeat (first|exact absurd hv (List.not_mem_nil)|(rcases List.mem_cons.1 hv with rfl|hv; · rfl))) (by omega) rfl rfl rfl ?_;intro b2;refine ⟨kT,?_⟩)
 refine aI yM ?_
 (refine aO rfl (hT2 _ _ b2 aZ aZ) rfl rfl ?_;rintro _ _ _ ⟨bv,cv,rfl,hcv,rfl,rfl⟩;refine ⟨kT,?_⟩)
 repeat (refine iW ?_)
 (refine vO (cs:=recs eG [(0:Int)]) ([.int .u32 0]) rfl rfl (by intro v hv;repeat (first|exact absurd hv (List.not_mem_nil)|(rcases List.mem_cons.1 hv with rfl|hv; · rfl))) (by omega) rfl rfl rfl ?_;intro b3;refine ⟨kT,?_⟩)
 (refine iE (ys:=[(0:Int)]) 2 rfl rfl rfl ?_ (by decide) rfl (by omega) (by omega) rfl rfl ?_;(· first|exact Src.blk aZ|exact Src.row aZ|exact Src.imm aZ (by first|assumption|exact .inl (Ok.mk _ _)));intro a2 c2;refine ⟨kT,?_⟩)
 have hl0:(u0++[(0:Int)]).length=u0.length+1:=by simp
 repeat (refine iW ?_)
 (refine jI (u0.length+1 - v.length) rfl rfl (by omega) (by omega) (by omega) (by omega) (oF _ _) rfl rfl ?_;intro bq;refine ⟨kT,?_⟩)
 repeat (refine iW ?_)
 refine rY (M':= .row a2 (u0++[(0:Int)]).length c2 (recs eG (u0++[(0:Int)])) 121 1:: .blk bq (recs eG (List.replicate (u0.length+1 - v.length) 0)) 121:: .row (some ⟨bv,0,none⟩) v.length cv (recs eG v) 121 1::M0) (I':=I0) bQ bP ?_
 refine aGG (fun _ h _=>absurd h (by omega)) (fun bU tl e hc2=>?_)
 subst e
 refine aFP (M':= .blk bU (recs eG (u0++[(0:Int)])++tl) 121:: .blk bq (recs eG (List.replicate (u0.length+1 - v.length) 0)) 121::M0) (I':=aH (some ⟨bv,0,none⟩) (recs eG v)::I0) (fun w hw=>hw.freezeR yM) ?_
 clear hT1 hT2 hp hq
 obtain ⟨L,hL⟩:∃L,(u0++[(0:Int)]).length=L:=⟨_,rfl⟩
 rw [hL] at hl0 hc2 ⊢
 have hin:=aRA (v:=v) ⟨dv,tv⟩ (by omega) du hluv
 refine bX [4,6,7,8,9] rfl (fun k G M I=>∃(j:Nat) (c:Int) (u qs:List Int),j≤u0.length+1 - v.length∧k=j∧c=(j:Int) - 1∧u.length=L∧qs.length=u0.length+1 - v.length∧Dig u∧Dig qs∧val u+1000000000 ^ j*(val v*val (qs.drop j))=val u0∧val (u.drop j) < val v∧G=[(10, .int .i64 c)]∧M= .blk bU (recs eG u++tl) 121:: .blk bq (recs eG qs) 121::M0∧I=aH (some ⟨bv,0,none⟩) (recs eG v)::I0) (u0.length+1 - v.length) _ _ _ dE bQ bP (⟨u0.length+1 - v.length,_,_,_,Nat.le_refl _,rfl,by omega,hL,by simp,Dig.snoc du (by omega),Dig.zeros _,by rw [List.drop_of_length_le (by simp),val_append];simp [val],hin,rfl,rfl,rfl⟩) ?_
 rintro k G M I ⟨j,c,u,qs,hj,rfl,hcj,hul,hql,dU,dQ,hval,hlt,rfl,rfl,rfl⟩
 by_cases hj0:0≤c
 ·obtain ⟨j,rfl⟩:∃j,k=j+1:=⟨k - 1,by omega⟩
  obtain rfl:c=(j:Int):=by omega
  repeat (refine iW ?_)
  have hk:=aVK dU ⟨dv,tv⟩ (by omega) hlt (by omega)
  obtain ⟨t2,ht2⟩:∃t2,gt u ((j:Int)+(v.length:Int))=t2:=⟨_,rfl⟩
  obtain ⟨t1,ht1⟩:∃t1,gt u ((j:Int)+(v.length:Int) - 1)=t1:=⟨_,rfl⟩
  obtain ⟨t0,ht0⟩:∃t0,gt u ((j:Int)+(v.length:Int) - 2)=t0:=⟨_,rfl⟩
  obtain ⟨v1,hv1⟩:∃v1,gt v ((v.length:Int) - 1)=v1:=⟨_,rfl⟩
  obtain ⟨v2,hv2⟩:∃v2,gt v ((v.length:Int) - 2)=v2:=⟨_,rfl⟩
  rw [ht2,ht1,ht0,hv1,hv2] at hk
  have k0:=hk.d0
  have k1:=hk.d1
  have k2:=hk.d2
  have k3:=hk.e1
  have k4:=hk.e0
  (repeat refine aG ?_);refine dJ [0,1,2,3,7,8,9,10,11,12,13,14,4,5,6,15,16] [0,1,1,0,1,1,1,1,1,1,1,1,0,0,0,0,0] mixed (by kernel_rfl) ?_
  repeat (refine iW ?_)
  rw [ht1]
  repeat (refine iW ?_)
  (refine aO rfl (CD.lend [aH (some ⟨bU,0,none⟩) (recs eG u)] (fun w hw=>Mem.lendBT (b:=bU) (tl:=tl) (e:=121) aZ hw hw.imm0) (fun W=>(aPA (X:=[]) (w0:=W) (M0:=[]) (I0:=[aH (some ⟨bU,0,none⟩) (recs eG u)]) (l:=u) (n:=L) (c:=c2) (i:=(j:Int)+v.length) hul.symm (by omega) aZ).mono (fun _ _ _ h=>h.2.2))) rfl rfl ?_;rintro _ _ _ ⟨rfl,rfl,rfl⟩;refine ⟨kT,?_⟩)
  rw [ht2]
  repeat (refine iW ?_)
  (repeat refine aG ?_);refine dJ [0,1,2,3,4,5,6,7,8,9,10,11,12,13,14,15,16,17] [0,0,0,0,0,0,0,0,0,0,0,0,0,0,0,0,0,0] mixed (by kernel_rfl) ?_
  repeat (first|(refine jU ?_;first|refine kD rfl rfl rfl ?_|(refine jT rfl rfl ?_;refine iT rfl rfl rfl kT ?_)|refine jZ rfl rfl (by omega) ?_|refine jX rfl rfl (by omega) ?_)|(refine eO ?_;refine aC rfl (fun _=>fM rfl) rfl rfl ?_)|refine aC rfl (fun _=>bN rfl) rfl rfl ?_|(refine jY ?_;first|refine aC rfl (fun _=>dD rfl rfl w_) rfl rfl ?_|refine aC rfl (fun _=>dC rfl rfl w_) rfl rfl ?_|refine aC rfl (fun _=>gQ rfl rfl w_) rfl rfl ?_|refine aC rfl (fun _=>gT rfl rfl (by omega) q_) rfl rfl ?_|refine aC rfl (fun _=>gP rfl rfl (by omega) rfl) rfl rfl ?_|refine aC rfl (fun _=>fJ rfl rfl) rfl rfl ?_|refine aC rfl (fun _=>gM rfl rfl) rfl rfl ?_|refine aC rfl (fun _=>gK rfl rfl) rfl rfl ?_)|(refine eO ?_;first|refine aC rfl (fun _=>gD rfl w_) rfl rfl ?_)|(refine jW ?_;first|refine aC rfl (fun _=>fD rfl w_) rfl rfl ?_)|(refine jV ?_;first|refine aC rfl (fun _=>cZ rfl) rfl rfl ?_|refine aC rfl (fun _=>fK rfl rfl) rfl rfl ?_|refine aC rfl (fun _=>fP rfl rfl) rfl rfl ?_|refine aC rfl (fun _=>fQ rfl rfl rfl) rfl rfl ?_)|(refine kG ?_;first|refine kI rfl (by decide) rfl rfl ?_|refine mM rfl (by decide) rfl rfl ?_)|(refine kH ?_;first|refine aC rfl (fun _=>fC rfl) rfl rfl ?_)|(refine kL ?_;first|refine mQ rfl rfl iC rfl rfl ?_|refine mO uY rfl rfl iC aZ mU rfl rfl ?_|refine mJ uY rfl rfl iC aZ mU rfl rfl ?_|refine aC rfl (fun _=>dZ rfl rfl iC) rfl rfl ?_)|(refine bM ?_;first|refine mK uY rfl aZ xX rfl rfl ?_|refine mP uY rfl aZ xX rfl rfl ?_|refine gI uY rfl aZ xX rfl rfl ?_|refine kK uY rfl aZ xX rfl rfl ?_|refine qV uY rfl aZ nE jN rfl rfl ?_|refine rA uY rfl aZ nE jN rfl rfl ?_|refine qX uY rfl aZ nE jN rfl rfl ?_|refine nX uY rfl aZ nE jN rfl rfl ?_)|(refine kF ?_;first|refine aC rfl (fun _=>dY rfl rfl) rfl rfl ?_|refine aC rfl (fun _=>dG rfl) rfl rfl ?_)|(refine nI ?_;first|refine mX rfl rfl rfl tJ stC rfl rfl ⟨kT,?_⟩|refine fO rfl rfl jN aCG tJ aCL rfl rfl ⟨kT,?_⟩))
  rw [hv1]
  repeat (first|(refine jU ?_;first|refine kD rfl rfl rfl ?_|(refine jT rfl rfl ?_;refine iT rfl rfl rfl kT ?_)|refine jZ rfl rfl (by omega) ?_|refine jX rfl rfl (by omega) ?_)|(refine eO ?_;refine aC rfl (fun _=>fM rfl) rfl rfl ?_)|refine aC rfl (fun _=>bN rfl) rfl rfl ?_|(refine jY ?_;first|refine aC rfl (fun _=>dD rfl rfl w_) rfl rfl ?_|refine aC rfl (fun _=>dC rfl rfl w_) rfl rfl ?_|refine aC rfl (fun _=>gQ rfl rfl w_) rfl rfl ?_|refine aC rfl (fun _=>gT rfl rfl (by omega) q_) rfl rfl ?_|refine aC rfl (fun _=>gP rfl rfl (by omega) rfl) rfl rfl ?_|refine aC rfl (fun _=>fJ rfl rfl) rfl rfl ?_|refine aC rfl (fun _=>gM rfl rfl) rfl rfl ?_|refine aC rfl (fun _=>gK rfl rfl) rfl rfl ?_)|(refine eO ?_;first|refine aC rfl (fun _=>gD rfl w_) rfl rfl ?_)|(refine jW ?_;first|refine aC rfl (fun _=>fD rfl w_) rfl rfl ?_)|(refine jV ?_;first|refine aC rfl (fun _=>cZ rfl) rfl rfl ?_|refine aC rfl (fun _=>fK rfl rfl) rfl rfl ?_|refine aC rfl (fun _=>fP rfl rfl) rfl rfl ?_|refine aC rfl (fun _=>fQ rfl rfl rfl) rfl rfl ?_)|(refine kG ?_;first|refine kI rfl (by decide) rfl rfl ?_|refine mM rfl (by decide) rfl rfl ?_)|(refine kH ?_;first|refine aC rfl (fun _=>fC rfl) rfl rfl ?_)|(refine kL ?_;first|refine mQ rfl rfl iC rfl rfl ?_|refine mO uY rfl rfl iC aZ mU rfl rfl ?_|refine mJ uY rfl rfl iC aZ mU rfl rfl ?_|refine aC rfl (fun _=>dZ rfl rfl iC) rfl rfl ?_)|(refine bM ?_;first|refine mK uY rfl aZ xX rfl rfl ?_|refine mP uY rfl aZ xX rfl rfl ?_|refine gI uY rfl aZ xX rfl rfl ?_|refine kK uY rfl aZ xX rfl rfl ?_|refine qV uY rfl aZ nE jN rfl rfl ?_|refine rA uY rfl aZ nE jN rfl rfl ?_|refine qX uY rfl aZ nE jN rfl rfl ?_|refine nX uY rfl aZ nE jN rfl rfl ?_)|(refine kF ?_;first|refine aC rfl (fun _=>dY rfl rfl) rfl rfl ?_|refine aC rfl (fun _=>dG rfl) rfl rfl ?_)|(refine nI ?_;first|refine mX rfl rfl rfl tJ stC rfl rfl ⟨kT,?_⟩|refine fO rfl rfl jN aCG tJ aCL rfl rfl ⟨kT,?_⟩))
  refine bK ?_
  refine kV ?_
  have hz0:0≤t2*1000000000+t1:=by omega
  rw [Int.tdiv_eq_ediv_of_nonneg hz0,Int.tmod_eq_emod_of_nonneg hz0]
  obtain ⟨g0,hg0⟩:∃g0,(t2*1000000000+t1) / v1=g0:=⟨_,rfl⟩
  obtain ⟨r0,hr0⟩:∃r0,(t2*1000000000+t1) % v1=r0:=⟨_,rfl⟩
  have hgr0:g0*v1+r0=t2*1000000000+t1:=by rw [←hg0,←hr0,Int.mul_comm];exact Int.mul_ediv_add_emod _ _
  have hr1:0≤r0∧r0 < v1:=by rw [←hr0];exact ⟨Int.emod_nonneg _ (by omega),Int.emod_lt_of_pos _ (by omega)⟩
  have hg1:0≤g0:=by rw [←hg0];exact Int.ediv_nonneg hz0 (by omega)
  rw [hg0,hr0]
  refine bEV (fun G M I=>∃g:Int,(0≤g∧g < 1000000000)∧GeQ (val (u.drop j)) (val v) g∧g*val v≤val (u.drop j)+val v∧G=[(4, .slice (some ⟨bq,0,none⟩) (u0.length+1 - v.length) (u0.length+1 - v.length)),(6, .int .u32 f),(7, .slice (some ⟨bU,0,none⟩) L c2),(8, .slice (some ⟨bv,0,none⟩) v.length cv),(9, .int .i64 v.length),(10, .int .i64 j),(12, .int .u64 g)]∧M= .blk bU (recs eG u++tl) 121:: .blk bq (recs eG qs) 121::M0∧I=aH (some ⟨bv,0,none⟩) (recs eG v)::I0) ?_ ?_
  ·refine jB ?_
   refine bX [4,6,7,8,9,10] rfl (fun k G M I=>∃(g r:Int),k=(1000000000 - r).toNat∧g*v1+r=t2*1000000000+t1∧GeQ (val (u.drop j)) (val v) g∧(0≤r∧r < 1000000000)∧0≤g∧G=[(12, .int .u64 g),(13, .int .u64 r)]∧M= .blk bU (recs eG u++tl) 121:: .blk bq (recs eG qs) 121::M0∧I=aH (some ⟨bv,0,none⟩) (recs eG v)::I0) ((1000000000 - r0).toNat) _ _ _ dE bQ bP (⟨g0,r0,rfl,hgr0,hk.start hgr0 hr1.2,by omega,hg1,rfl,rfl,rfl⟩) ?_
   rintro k G M I ⟨g,r,rfl,hgr,hgq,hr,hg,rfl,rfl,rfl⟩
   have hg2:=knu_g hk hgr hr.1 hg
   have e1:(g - 1)*v1=g*v1 - v1:=by rw [Int.sub_mul,Int.one_mul]
   have hp0:0≤g*v2:=Int.mul_nonneg hg (by omega)
   have hp1:g*v2≤2000000000*999999999:=Int.mul_le_mul (by omega) (by omega) (by omega) (by omega)
   have hless:=hk.less hgr hgq
   have hB1:=bDW (g:=g - 1) (r:=r+v1) hk (by omega)
   have hdone1:=hk.done (g:=g - 1) (r:=r+v1) (by omega)
   have hdone:=hk.done hgr hg
   have hgne:r*1000000000+t0 < g*v2→1≤g:=fun h=>by
    rcases Int.lt_or_le 0 g with h1|h1
    ·omega
    ·have:g=0:=by omega
     subst this
     simp at h
     omega
   by_cases hgB:1000000000≤g
   ·(repeat refine aG ?_);refine dJ [0,1,2,3,4,5,6,7,8,9,10,11,12,13,14,15,16,17,18,19,20,21,22,23] [0,0,0,0,0,0,0,0,0,0,0,0,0,0,0,0,0,0,0,0,0,0,0,0] mixed (by kernel_rfl) ?_
    repeat' (first|refine iW ?_|refine aK rfl (fun h=>?_) (fun h=>?_)|refine aJ rfl rfl (fun h=>?_) (fun h=>?_)|fail)
    ·refine aHN _ _ _ dE bQ bP ⟨g - 1,⟨by omega,hB1 (by omega)⟩,hless (.inl hgB),hdone1 (by omega) (hB1 (by omega)) (.inl (by omega)),rfl,rfl,rfl⟩
    ·rw [hv1]
     refine cB ((1000000000 - (r+v1)).toNat) _ _ _ (by first|omega|(simp only [List.length_append,List.length_cons,List.length_nil];omega)) dE bQ bP (⟨g - 1,r+v1,rfl,by omega,hless (.inl hgB),by omega,by omega,rfl,rfl,rfl⟩)
   ·by_cases hc:r*1000000000+t0 < g*v2
    ·have hg1:=hgne hc
     (repeat refine aG ?_);refine dJ [0,1,2,3,4,5,6,7,8,9,10,11,12,13,14,15,16,17,18,19,20,21,22,23] [0,0,0,0,0,0,0,0,0,0,0,0,0,0,0,0,0,0,0,0,0,0,0,0] mixed (by kernel_rfl) ?_
     repeat (refine iW ?_)
     rw [hv2]
     repeat' (first|refine iW ?_|refine aK rfl (fun h=>?_) (fun h=>?_)|refine aJ rfl rfl (fun h=>?_) (fun h=>?_)|fail)
     ·refine aHN _ _ _ dE bQ bP ⟨g - 1,⟨by omega,hB1 (by omega)⟩,hless (.inr hc),hdone1 (by omega) (hB1 (by omega)) (.inl (by omega)),rfl,rfl,rfl⟩
     ·rw [hv1]
      refine cB ((1000000000 - (r+v1)).toNat) _ _ _ (by first|omega|(simp only [List.length_append,List.length_cons,List.length_nil];omega)) dE bQ bP (⟨g - 1,r+v1,rfl,by omega,hless (.inr hc),by omega,by omega,rfl,rfl,rfl⟩)
    ·(repeat refine aG ?_);refine dJ [0,1,2,3,4,5,6,7,8,9,10,11,12,13,14,15,16,17,18,19,20,21,22,23] [0,0,0,0,0,0,0,0,0,0,0,0,0,0,0,0,0,0,0,0,0,0,0,0] mixed (by kernel_rfl) ?_
     repeat (refine iW ?_)
     rw [hv2]
     repeat (refine iW ?_)
     refine aHN _ _ _ dE bQ bP ⟨g,⟨by omega,by omega⟩,hgq,hdone (by omega) (.inr (by omega)),rfl,rfl,rfl⟩
  ·rintro G M I ⟨g,hg,hgq,hgd,rfl,rfl,rfl⟩
   repeat (refine iW ?_)
   refine bX [4,6,7,8,9,10,12,136] rfl (fun k G M I=>∃(i:Nat) (o:List Int) (b c:Int),k=v.length - i∧i≤v.length∧o.length=L∧Dig o∧(0≤b∧b≤1)∧(0≤c∧c < 1000000000)∧o.take j=u.take j∧o.drop (j+i)=u.drop (j+i)∧val ((o.drop j).take i)+g*val (v.take i)=val ((u.drop j).take i)+1000000000 ^ i*(b+c)∧G=[(14, .int .i64 b),(15, .int .u64 c),(137, .int .i64 i)]∧M= .blk bU (recs eG o++tl) 121:: .blk bq (recs eG qs) 121::M0∧I=aH (some ⟨bv,0,none⟩) (recs eG v)::I0) (v.length) _ _ _ dE bQ bP (⟨0,u,0,0,rfl,by omega,hul,dU,by omega,by omega,rfl,rfl,by simp [val],rfl,rfl,rfl⟩) ?_
   rintro k G M I ⟨i,o,b',c,rfl,hi,hol,dO,hb',hc,htk,hdr,hvl,rfl,rfl,rfl⟩
   by_cases hin':i < v.length
   ·have d2:=dv.gt i
    have d3:=dO.gt ((i:Int)+(j:Int))
    have d4:=tY hg d2 (o:=0) (by omega) hc
    rw [Int.zero_add] at d4
    have e1:(g*gt v i+c).tmod 1000000000=(g*gt v i+c) % 1000000000:=Int.tmod_eq_emod_of_nonneg d4.2.1.1
    have e2:(g*gt v i+c).tdiv 1000000000=(g*gt v i+c) / 1000000000:=Int.tdiv_eq_ediv_of_nonneg d4.2.1.1
    have hij:j+i < o.length:=by omega
    repeat' (first|refine iW ?_|refine aK rfl (fun h=>?_) (fun h=>?_)|refine aJ rfl rfl (fun h=>?_) (fun h=>?_)|fail)
    ·have hs:=aGO (y:=gt o ((i:Int)+(j:Int)) - b' - (g*gt v i+c) % 1000000000+1000000000) (b2:=1) dO hvl hij htk hdr (by omega) (by omega)
     rw [e1,e2]
     refine cB (v.length - (i+1)) _ _ _ (by first|omega|(simp only [List.length_append,List.length_cons,List.length_nil];omega)) dE bQ bP (⟨i+1,_,1,_,rfl,by omega,by rw [dI];exact hol,hs.1,by omega,d4.2.2,hs.2.1,hs.2.2.1,hs.2.2.2,rfl,rfl,rfl⟩)
    ·have hs:=aGO (y:=gt o ((i:Int)+(j:Int)) - b' - (g*gt v i+c) % 1000000000) (b2:=0) dO hvl hij htk hdr (by omega) (by omega)
     rw [e1,e2]
     refine cB (v.length - (i+1)) _ _ _ (by first|omega|(simp only [List.length_append,List.length_cons,List.length_nil];omega)) dE bQ bP (⟨i+1,_,0,_,rfl,by omega,by rw [dI];exact hol,hs.1,by omega,d4.2.2,hs.2.1,hs.2.2.1,hs.2.2.2,rfl,rfl,rfl⟩)
   ·obtain rfl:i=v.length:=by omega
    have d3:=dO.gt ((j:Int)+(v.length:Int))
    rw [List.take_length] at hvl
    obtain ⟨hx,hD,hset⟩:=aVR dU dO ⟨dv,tv⟩ (by omega) (by omega) (by omega) hlt hvl hdr hgq hgd
    have hj1:j < u.length:=by omega
    have hj2:j < qs.length:=by omega
    have kg:(g+1)*val v=g*val v+val v:=by rw [Int.add_mul,Int.one_mul]
    have hgq':val (u.drop j) < (g+1)*val v:=hgq
    have htk2:∀y,(st o ((j:Int)+(v.length:Int)) y).take j=u.take j:=fun y=>by rw [gZ,List.take_set_of_le (by omega)];exact htk
    have hnn:=bS ((dO.drop j).take v.length)
    repeat' (first|refine iW ?_|refine aK rfl (fun h=>?_) (fun h=>?_)|refine aJ rfl rfl (fun h=>?_) (fun h=>?_)|fail)
    ·have hx1:gt o ((j:Int)+(v.length:Int)) - b' - c= -1:=by omega
     rw [hx1] at hD ⊢
     have h9:(-1:Int)+1000000000=999999999:=rfl
     rw [h9]
     obtain ⟨o1,ho1⟩:∃o1,st o ((j:Int)+(v.length:Int)) 999999999=o1:=⟨_,rfl⟩
     rw [ho1]
     have ho2:o1=o.set (j+v.length) 999999999:=by rw [←ho1,gZ]
     have hl1:o1.length=L:=by rw [ho2,List.length_set];exact hol
     have dO1:Dig o1:=by rw [ho2];exact dO.set _ (by omega)
     have htk1:o1.take j=u.take j:=by rw [←ho1];exact htk2 _
     refine bX [4,6,7,8,9,10,12,200] rfl (fun k G M I=>∃(i:Nat) (o2:List Int) (c3:Int),k=v.length - i∧i≤v.length∧o2.length=L∧Dig o2∧(0≤c3∧c3≤1)∧o2.take j=u.take j∧o2.drop (j+i)=o1.drop (j+i)∧val ((o2.drop j).take i)+1000000000 ^ i*c3=val ((o1.drop j).take i)+val (v.take i)∧G=[(20, .int .u32 c3),(201, .int .i64 i)]∧M= .blk bU (recs eG o2++tl) 121:: .blk bq (recs eG qs) 121::M0∧I=aH (some ⟨bv,0,none⟩) (recs eG v)::I0) (v.length) _ _ _ dE bQ bP (⟨0,o1,0,rfl,by omega,hl1,dO1,by omega,htk1,rfl,by simp [val],rfl,rfl,rfl⟩) ?_
     rintro k G M I ⟨i,o2,c3,rfl,hi,hol2,dO2,hc3,htk3,hdr3,hvl3,rfl,rfl,rfl⟩
     by_cases hin3:i < v.length
     ·have f2:=dv.gt i
      have f3:=dO2.gt ((i:Int)+(j:Int))
      have hij3:j+i < o2.length:=by omega
      repeat (refine iW ?_)
      (repeat refine aG ?_);refine dJ [0,1,2,3,4,5,6,7,8,9,10,11,12,13] [0,0,0,0,0,0,0,0,0,0,0,0,0,0] mixed (by kernel_rfl) ?_
      repeat' (first|refine iW ?_|refine aK rfl (fun h=>?_) (fun h=>?_)|refine aJ rfl rfl (fun h=>?_) (fun h=>?_)|fail)
      ·have hs:=aKI (y:=gt o2 ((i:Int)+(j:Int))+gt v i+c3 - 1000000000) (c3:=1) dO2 hvl3 hij3 htk3 hdr3 (by omega) (by omega)
       refine cB (v.length - (i+1)) _ _ _ (by first|omega|(simp only [List.length_append,List.length_cons,List.length_nil];omega)) dE bQ bP (⟨i+1,_,1,rfl,by omega,by rw [dI];exact hol2,hs.1,by omega,hs.2.1,hs.2.2.1,hs.2.2.2,rfl,rfl,rfl⟩)
      ·have hs:=aKI (y:=gt o2 ((i:Int)+(j:Int))+gt v i+c3) (c3:=0) dO2 hvl3 hij3 htk3 hdr3 (by omega) (by omega)
       refine cB (v.length - (i+1)) _ _ _ (by first|omega|(simp only [List.length_append,List.length_cons,List.length_nil];omega)) dE bQ bP (⟨i+1,_,0,rfl,by omega,by rw [dI];exact hol2,hs.1,by omega,hs.2.1,hs.2.2.1,hs.2.2.2,rfl,rfl,rfl⟩)
     ·obtain rfl:i=v.length:=by omega
      rw [List.take_length] at hvl3
      obtain ⟨rfl,hgo,hD3,hlt3,hnn3⟩:=aTD dO dO2 ⟨dv,tv⟩ (by omega) (by omega) ho2 hvl3 hc3 hdr3 hD hset hgd
      have f3:=dO2.gt ((j:Int)+(v.length:Int))
      repeat (refine iW ?_)
      have h10:((999999999:Int)+1).tmod 1000000000=0:=by decide
      rw [hgo,h10]
      have hD2:val ((st o2 ((j:Int)+(v.length:Int)) 0).drop j)=val (u.drop j) - (g - 1)*val v:=by rw [gZ];exact hD3
      refine cB (j) _ _ _ (by first|omega|(simp only [List.length_append,List.length_cons,List.length_nil];omega)) dE bQ bP (⟨j,_,_,_,by omega,rfl,rfl,by rw [dI];exact hol2,by rw [dI];exact hql,by rw [gZ];exact dO2.set _ (by omega),by rw [rU];exact dQ.set _ (by omega),aHG hval hj1 (by rw [dI];omega) hj2 (by rw [gZ,List.take_set_of_le (by omega)];exact htk3) hD2,by rw [hD2];exact hlt3,rfl,rfl,rfl⟩)
    ·have hx0:gt o ((j:Int)+(v.length:Int)) - b' - c=0:=by omega
     rw [hx0] at hD ⊢
     have hD2:val ((st o ((j:Int)+(v.length:Int)) 0).drop j)=val (u.drop j) - g*val v:=by rw [gZ,hset,hD]
     refine cB (j) _ _ _ (by first|omega|(simp only [List.length_append,List.length_cons,List.length_nil];omega)) dE bQ bP (⟨j,_,_,_,by omega,rfl,rfl,by rw [dI];exact hol,by rw [dI];exact hql,by rw [gZ];exact dO.set _ (by omega),by rw [rU];exact dQ.set _ hg,aHG hval hj1 (by rw [dI];omega) hj2 (htk2 0) hD2,by rw [hD2];omega,rfl,rfl,rfl⟩)
 ·obtain rfl:k=0:=by omega
  rw [List.drop_zero,Int.pow_zero,Int.one_mul,vu,vv] at hval
  rw [List.drop_zero] at hlt
  have hn0:0 < n*f:=by
   have:=bS dU
   rw [vv] at hlt
   omega
  obtain ⟨hru,hrq,hrl⟩:=aVU (m:=m) (n:=n) dU dQ hval (by rw [←vv];exact hlt) hf1 hn0
  have hcq:(gr (m / n)).length≤u0.length+1 - v.length:=by
   rw [←nW (n:=m / n) dQ hrq,←hql]
   exact aAM
  replace hrl:(gr ((m % n)*f)).length≤100000000000:=by
   have h1:=(tX (m:=m % n) hf1 hf2).2
   have h2:(gr (m % n)).length≤(gr m).length:=gV (Nat.mod_le _ _)
   rw [ha] at h2
   omega
  have hut:val (u.take v.length)=val u:=aRZ dU (by omega) hlt (jR dv)
  repeat (refine iW ?_)
  refine vX (M':=M0) (I':=aH (some ⟨bU,0,none⟩) (recs eG (u.take v.length))::aH (some ⟨bq,0,none⟩) (recs eG qs)::I0) (fun w hw=>?_) ?_
  ·have h1:=(hw.freezeB (b:=bU) (M':= .blk bq (recs eG qs) 121::M0) yM).freezeB (b:=bq) (M':=M0) yM
   have h2:=(h1.sl (a:=some ⟨bU,0,none⟩) (cs:=recs eG u++tl) (by simp)).take v.length
   have e:(recs eG u++tl).take v.length=recs eG (u.take v.length):=by
    rw [List.take_append_of_le_length (by rw [kQ,List.length_map];omega),aEU]
   rw [e] at h2
   exact (h1.add (φ:=aH (some ⟨bU,0,none⟩) (recs eG (u.take v.length))) ⟨h2⟩).inc bP
  refine aC rfl (fun _=>pU (e:=121) (sz:=1) 0 v.length v.length rfl (.inl ⟨rfl,rfl⟩) (.inr ⟨_,_,_,rfl,rfl,rfl⟩) (by omega) (by omega) (by omega)) rfl rfl ?_
  rw [cut0 bU c2,Nat.sub_zero]
  repeat (refine iW ?_)
  (refine aO rfl (sN (l:=u.take v.length) (n:=v.length) (c:=c2) (q:=some ⟨bU,0,none⟩) (by rw [List.length_take];omega) (by omega) (by rw [List.length_take];omega) aZ) rfl rfl ?_;rintro _ _ _ ⟨rfl,rfl,rfl⟩;refine ⟨kT,?_⟩)
  rw [nW (n:=(m % n)*f) (dU.take v.length) (by rw [hut];exact hru)]
  repeat (refine iW ?_)
  (refine aO rfl (aKH (n:=(m % n)*f) (d:=f) hrl ⟨hf1,hf2⟩ aZ) rfl rfl ?_;rintro _ _ _ ⟨rfl,p5,c5,hc5,ho5,rfl,rfl⟩;refine ⟨kT,?_⟩)
  rw [Nat.mul_div_cancel _ hf1] at hc5
  rw [Nat.mul_div_cancel _ hf1]
  repeat (refine iW ?_)
  (refine aO rfl (sN (l:=qs) (n:=u0.length+1 - v.length) (c:=u0.length+1 - v.length) (q:=some ⟨bq,0,none⟩) (by omega) (by omega) (by omega) aZ) rfl rfl ?_;rintro _ _ _ ⟨rfl,rfl,rfl⟩;refine ⟨kT,?_⟩)
  rw [nW (n:=m / n) dQ hrq]
  repeat (refine iW ?_)
  refine gH [4,5] (by first|exact .inl rfl|exact .inr rfl) rfl rfl rfl _ _ bQ bP (⟨rfl,some ⟨bq,0,none⟩,_,p5,c5,⟨hcq, .inl (Ok.mk _ _)⟩,⟨hc5, .inl ho5⟩,rfl,rfl⟩)
end
theorem zZ {x y:Int} (h:x < y):fV x y= -1:=by unfold fV;rw [if_pos h]
theorem zQ {x y:Int} (h:¬x < y):0≤fV x y∧fV x y≤1:=by unfold fV;rw [if_neg h];split <;>omega
def QrP (a b:Nat) (M0:List Ent) (I0:List aM) (v:Value) (M:List Ent) (I:List aM):Prop:=
 M0=M∧∃p1 c1 p2 c2,sF p1 a c1∧sF p2 b c2∧v= .tuple #[.slice p1 (gr a).length c1, .slice p2 (gr b).length c2]∧I=aH p1 (recs eG (gr a))::aH p2 (recs eG (gr b))::I0
section
variable {X:List Nat} {w0:World} {M0:List Ent} {I0:List aM}
theorem aPL {p q:Option Addr} {m n cp cq:Nat} (hm:(gr m).length≤50000000000) (hn0:(gr n).length≤50000000000) (hn:0 < n) (hcp:sF p m cp) (hp:aH p (recs eG (gr m))∈I0) (hq:aH q (recs eG (gr n))∈I0):
  CD Tryz.prog 127 [.slice p (gr m).length cp, .slice q (gr n).length cq] X w0 M0 I0 (QrP (m / n) (m % n) M0 I0):=by
 have hC:=yL (X:=X) (w0:=w0) (M0:=M0) (I0:=I0) (p:=p) (q:=q) (m:=m) (n:=n) (cp:=cp) (cq:=cq) (by omega) (by omega) hp hq
 have hW1:=aCX (X:=X) (w0:=w0) (M0:=M0) (I0:=I0) (q:=p) (n:=m) (c:=cp) (by omega) hp
 have hW2:=aCX (X:=X) (w0:=w0) (M0:=M0) (I0:=I0) (q:=q) (n:=n) (c:=cq) (by omega) hq
 by_cases hlt:m < n
 ·have e1:m / n=0:=Nat.div_eq_of_lt hlt
  have e2:m % n=m:=Nat.mod_eq_of_lt hlt
  rw [e1,e2]
  unfold QrP
  simp only [gL]
  rw [zZ (by omega)] at hC
  have hO:sF p m cp:=hcp
  refine dV Tryz.func127 rfl Tryz.ntmps127 rfl ?_
  repeat (refine iW ?_)
  (refine aO rfl (hC) rfl rfl ?_;rintro _ _ _ ⟨rfl,rfl,rfl⟩;refine ⟨kT,?_⟩)
  repeat (refine iW ?_)
  refine aJG none ?_
  refine gH [4,5] (by first|exact .inl rfl|exact .inr rfl) rfl rfl rfl _ _ bQ bP (⟨rfl,none,0,p,cp,⟨by rw [gL];simp, .inr ⟨by rw [gL];rfl,rfl⟩⟩,hO,rfl,rfl⟩)
 ·have hcv:=zQ (x:=(m:Int)) (y:=(n:Int)) (by omega)
  generalize fV (m:Int) (n:Int)=cv at*
  have e1:((m:Int)).tdiv (n:Int)=((m / n:Nat):Int):=by rw [Int.tdiv_eq_ediv_of_nonneg (by omega),Int.natCast_ediv]
  have e2:((m:Int)).tmod (n:Int)=((m % n:Nat):Int):=by rw [Int.tmod_eq_emod_of_nonneg (by omega),Int.natCast_emod]
  have hmn:(gr n).length≤(gr m).length:=gV (by omega)
  by_cases hw:(gr m).length≤2
  ·have hw2:(gr n).length≤2:=by omega
   rw [if_pos hw,bJ hw] at hW1
   rw [if_pos hw2,bJ hw2] at hW2
   have hb:m < 1000000000000000000:=by
    have:=jR (bR m)
    rw [cO] at this
    have h2:(1000000000:Int) ^ (gr m).length≤1000000000 ^ 2:=nR hw
    omega
   have hS1:=fun M0 I0=>uK (X:=X) (w0:=w0) (M0:=M0) (I0:=I0) (n:=m / n) (Nat.le_trans (Nat.div_le_self _ _) (by omega))
   have hS2:=fun M0 I0=>uK (X:=X) (w0:=w0) (M0:=M0) (I0:=I0) (n:=m % n) (Nat.le_trans (Nat.mod_le _ _) (by omega))
   refine dV Tryz.func127 rfl Tryz.ntmps127 rfl ?_
   repeat (refine iW ?_)
   (refine aO rfl (hC) rfl rfl ?_;rintro _ _ _ ⟨rfl,rfl,rfl⟩;refine ⟨kT,?_⟩)
   repeat (refine iW ?_)
   (refine aO rfl (hW1) rfl rfl ?_;rintro _ _ _ ⟨rfl,rfl,rfl⟩;refine ⟨kT,?_⟩)
   repeat (refine iW ?_)
   (refine aO rfl (hW2) rfl rfl ?_;rintro _ _ _ ⟨rfl,rfl,rfl⟩;refine ⟨kT,?_⟩)
   repeat (refine iW ?_)
   (repeat refine aG ?_);refine dJ [0,1,2,4,5,6,3,7,8,9] [2,2,1,2,2,1,0,0,0,0] mixed (by kernel_rfl) ?_
   repeat (refine iW ?_)
   rw [e1,e2]
   (refine aO rfl (hS1 _ _) rfl rfl ?_;rintro _ _ _ ⟨rfl,q1,c1,rfl,ho1,rfl⟩;refine ⟨kT,?_⟩)
   repeat (refine iW ?_)
   (refine aO rfl (hS2 _ _) rfl rfl ?_;rintro _ _ _ ⟨rfl,q2,c2,rfl,ho2,rfl⟩;refine ⟨kT,?_⟩)
   repeat (refine iW ?_)
   refine gH [4,5] (by first|exact .inl rfl|exact .inr rfl) rfl rfl rfl _ _ bQ bP (⟨rfl,q1,c1,q2,c2,ho1,ho2,rfl,rfl⟩)
  ·rw [if_neg hw,bE hw] at hW1
   have hn1:0 < (gr n).length:=List.length_pos_iff.2 (fun e=>by have:=oO.1 e;omega)
   by_cases h1:(gr n).length=1
   ·have hnb:n < 1000000000:=by
     have:=jR (bR n)
     rw [cO,h1] at this
     omega
    have hgo:=wM hn hnb
    have hS:=fun M0 I0 hq=>aKH (X:=X) (w0:=w0) (M0:=M0) (I0:=I0) (q:=p) (n:=m) (c:=cp) (d:=n) (by omega) ⟨hn,hnb⟩ hq
    have hS2:=fun M0 I0=>uK (X:=X) (w0:=w0) (M0:=M0) (I0:=I0) (n:=m % n) (Nat.le_trans (Nat.le_of_lt (Nat.mod_lt _ hn)) (by omega))
    have hgt:gt (gr n) 0=(n:Int):=by rw [hgo];rfl
    have hmr:m % n < n:=Nat.mod_lt _ hn
    refine dV Tryz.func127 rfl Tryz.ntmps127 rfl ?_
    repeat (refine iW ?_)
    (refine aO rfl (hC) rfl rfl ?_;rintro _ _ _ ⟨rfl,rfl,rfl⟩;refine ⟨kT,?_⟩)
    repeat (refine iW ?_)
    (refine aO rfl (hW1) rfl rfl ?_;rintro _ _ _ ⟨rfl,rfl,rfl⟩;refine ⟨kT,?_⟩)
    repeat (refine iW ?_)
    (refine aO rfl (hW2) rfl rfl ?_;rintro _ _ _ ⟨rfl,rfl,rfl⟩;refine ⟨kT,?_⟩)
    repeat (refine iW ?_)
    rw [hgt]
    (refine aO rfl (hS _ _ aZ) rfl rfl ?_;rintro _ _ _ ⟨rfl,p1,c1,hc1,ho1,rfl,rfl⟩;refine ⟨kT,?_⟩)
    repeat (refine iW ?_)
    (refine aO rfl (hS2 _ _) rfl rfl ?_;rintro _ _ _ ⟨rfl,q2,c2,rfl,ho2,rfl⟩;refine ⟨kT,?_⟩)
    repeat (refine iW ?_)
    refine gH [4,5] (by first|exact .inl rfl|exact .inr rfl) rfl rfl rfl _ _ bQ bP (⟨rfl,p1,c1,q2,c2,⟨hc1, .inl ho1⟩,ho2,rfl,rfl⟩)
   ·have hL:=fun M0 I0 hp hq=>aYO (X:=X) (w0:=w0) (M0:=M0) (I0:=I0) (p:=p) (q:=q) (m:=m) (n:=n) (cp:=cp) (cq:=cq) hm (by omega) (by omega) hp hq
    refine dV Tryz.func127 rfl Tryz.ntmps127 rfl ?_
    repeat (refine iW ?_)
    (refine aO rfl (hC) rfl rfl ?_;rintro _ _ _ ⟨rfl,rfl,rfl⟩;refine ⟨kT,?_⟩)
    repeat (refine iW ?_)
    (refine aO rfl (hW1) rfl rfl ?_;rintro _ _ _ ⟨rfl,rfl,rfl⟩;refine ⟨kT,?_⟩)
    repeat (refine iW ?_)
    (refine aO rfl (hW2) rfl rfl ?_;rintro _ _ _ ⟨rfl,rfl,rfl⟩;refine ⟨kT,?_⟩)
    repeat (refine iW ?_)
    (refine aO rfl (hL _ _ aZ aZ) rfl rfl ?_;rintro _ _ _ ⟨rfl,p1,c1,p2,c2,ho1,ho2,rfl,rfl⟩;refine ⟨kT,?_⟩)
    repeat (refine iW ?_)
    refine gH [4,5] (by first|exact .inl rfl|exact .inr rfl) rfl rfl rfl _ _ bQ bP (⟨rfl,p1,c1,p2,c2,ho1,ho2,rfl,rfl⟩)
end
section
variable {X:List Nat} {w0:World} {M0:List Ent} {I0:List aM}
theorem aQA {p q:Prop} [Decidable p] [Decidable q] {m n:Nat} (h:p↔q):sg p (m+n)=sg p m+sg q n:=by
 unfold sg
 by_cases hp:p
 ·rw [if_pos hp,if_pos hp,if_pos (h.1 hp)];omega
 ·rw [if_neg hp,if_neg hp,if_neg (fun hq=>hp (h.2 hq))];omega
theorem aDA {p q:Prop} [Decidable p] [Decidable q] {m n:Nat} (h:¬(p↔q)) (hle:n≤m):sg p (m - n)=sg p m+sg q n:=by
 unfold sg
 by_cases hp:p
 ·rw [if_pos hp,if_pos hp,if_neg (fun hq=>h ⟨fun _=>hq,fun _=>hp⟩)];omega
 ·rw [if_neg hp,if_neg hp,if_pos (by rcases Classical.em q with hq|hq;exact hq;exact absurd ⟨fun h=>absurd h hp,fun h=>absurd h hq⟩ h)];omega
theorem aVL {pn qn:Prop} [Decidable pn] [Decidable qn] {p q:Option Addr} {m n cp cq k:Nat} (hm:(gr m).length≤50000000000) (hn:(gr n).length≤50000000000) (hk:m+n≤2 ^ k) (hk2:k≤1000000000000) (hp:aH p (recs eG (gr m))∈I0) (hq:aH q (recs eG (gr n))∈I0):
  CD Tryz.prog 229 [.bool (B pn), .slice p (gr m).length cp, .bool (B qn), .slice q (gr n).length cq] X w0 M0 I0 (fun v M I=>M0=M∧I=gW v (sg pn m+sg qn n) k::I0):=by
 have hC:=fun M0 I0=>yL (X:=X) (w0:=w0) (M0:=M0) (I0:=I0) (p:=p) (q:=q) (m:=m) (n:=n) (cp:=cp) (cq:=cq) (by omega) (by omega)
 have hP:=fun M0 I0=>aOU (X:=X) (w0:=w0) (M0:=M0) (I0:=I0) (p:=p) (q:=q) (m:=m) (n:=n) (cp:=cp) (cq:=cq) (by omega) (by omega)
 have hM:=fun M0 I0 (hle:n≤m)=>aDY (X:=X) (w0:=w0) (M0:=M0) (I0:=I0) (p:=p) (q:=q) (m:=m) (n:=n) (cp:=cp) (cq:=cq) (by omega) hle
 have hM2:=fun M0 I0 (hle:m≤n)=>aDY (X:=X) (w0:=w0) (M0:=M0) (I0:=I0) (p:=q) (q:=p) (m:=n) (n:=m) (cp:=cq) (cq:=cp) (by omega) hle
 have hl1:=fT hk hk2
 refine dV Tryz.func229 rfl Tryz.ntmps229 rfl ?_
 refine aG ?_
 refine dB ?_
 (refine aV rfl rfl ?_;intro b3;refine ⟨kT,?_⟩)
 by_cases hpq:pn↔qn
 ·repeat (refine iW ?_)
  (refine aO rfl (hP _ _ aZ aZ) rfl rfl ?_;rintro _ _ _ ⟨rfl,q3,c3,rfl,hc3,rfl⟩;refine ⟨kT,?_⟩)
  rw [←aQA hpq]
  (refine aO rfl (mD (p:=pn) (k:=k) (by omega) hc3 hk aZ) rfl rfl ?_;rintro _ _ _ ⟨rfl,rfl⟩;refine ⟨kT,?_⟩;refine aW (List.Mem.head _) (fun q2 c2 e__ hc2 hz2=>?_);subst e__)
  unfold iv
  repeat (refine iW ?_)
  refine aT (cs:=[.bool (B (sg pn (m+n) < 0)), .slice q2 (gr (sg pn (m+n)).natAbs).length c2]) (.inl rfl) rfl rfl aZ rfl _ _ bQ bP ⟨rfl,rfl⟩
 ·by_cases hge:n≤m
  ·have hcv:=zQ (x:=(m:Int)) (y:=(n:Int)) (by omega)
   have hk3:m - n≤2 ^ k:=by omega
   have hl3:=fT hk3 hk2
   repeat (refine iW ?_)
   (refine aO rfl (hC _ _ aZ aZ) rfl rfl ?_;rintro _ _ _ ⟨rfl,rfl,rfl⟩;refine ⟨kT,?_⟩)
   repeat (refine iW ?_)
   (refine aO rfl (hM _ _ hge aZ aZ) rfl rfl ?_;rintro _ _ _ ⟨rfl,q3,c3,rfl,hc3,rfl⟩;refine ⟨kT,?_⟩)
   rw [←aDA hpq hge]
   (refine aO rfl (mD (p:=pn) (k:=k) (by omega) hc3 hk3 aZ) rfl rfl ?_;rintro _ _ _ ⟨rfl,rfl⟩;refine ⟨kT,?_⟩;refine aW (List.Mem.head _) (fun q2 c2 e__ hc2 hz2=>?_);subst e__)
   unfold iv
   repeat (refine iW ?_)
   refine aT (cs:=[.bool (B (sg pn (m - n) < 0)), .slice q2 (gr (sg pn (m - n)).natAbs).length c2]) (.inl rfl) rfl rfl aZ rfl _ _ bQ bP ⟨rfl,rfl⟩
  ·have hcv:=zZ (x:=(m:Int)) (y:=(n:Int)) (by omega)
   have hk3:n - m≤2 ^ k:=by omega
   have hl3:=fT hk3 hk2
   have hs:sg pn m+sg qn n=sg qn (n - m):=by rw [Int.add_comm,←aDA (fun h=>hpq h.symm) (by omega)]
   repeat (refine iW ?_)
   (refine aO rfl (hC _ _ aZ aZ) rfl rfl ?_;rintro _ _ _ ⟨rfl,rfl,rfl⟩;refine ⟨kT,?_⟩)
   repeat (refine iW ?_)
   (refine aO rfl (hM2 _ _ (by omega) aZ aZ) rfl rfl ?_;rintro _ _ _ ⟨rfl,q3,c3,rfl,hc3,rfl⟩;refine ⟨kT,?_⟩)
   rw [hs]
   (refine aO rfl (mD (p:=qn) (k:=k) (by omega) hc3 hk3 aZ) rfl rfl ?_;rintro _ _ _ ⟨rfl,rfl⟩;refine ⟨kT,?_⟩;refine aW (List.Mem.head _) (fun q2 c2 e__ hc2 hz2=>?_);subst e__)
   unfold iv
   repeat (refine iW ?_)
   refine aT (cs:=[.bool (B (sg qn (n - m) < 0)), .slice q2 (gr (sg qn (n - m)).natAbs).length c2]) (.inl rfl) rfl rfl aZ rfl _ _ bQ bP ⟨rfl,rfl⟩
theorem aVB {u v:Value} {y z:Int} {k m c:Nat} (hk:k≤1000000000000) (hm:m≤1000000000000) (hc0:c≤1000000000000) (hs:2 ^ k+2 ^ m≤2 ^ c) (hu:gW u y k∈I0) (hv:gW v z m∈I0):CD Tryz.prog 168 [u,v] X w0 M0 I0 (fun v M I=>M0=M∧I=gW v (y+z) c::I0):=by
 refine bZ hu (fun q cq e hc hy=>?_)
 subst e
 refine bZ (List.Mem.tail _ hv) (fun q' cq' e hc' hz=>?_)
 subst e
 have hl:=fT hy (by omega)
 have hl':=fT hz (by omega)
 unfold iv
 refine dV Tryz.func168 rfl Tryz.ntmps168 rfl ?_
 refine aG ?_
 refine dB ?_
 (refine nN rfl rfl rfl ?_;intro b;refine ⟨kT,?_⟩)
 (refine nN rfl rfl rfl ?_;intro b2;refine ⟨kT,?_⟩)
 (refine aV rfl rfl ?_;intro b3;refine ⟨kT,?_⟩)
 repeat (refine iW ?_)
 (repeat refine aG ?_);refine bA 3 [0,1,2,4,5,6,3,7,8,9] [3,2,2,3,2,2,0,0,0,0] mixed (by kernel_rfl) ?_
 repeat (refine iW ?_)
 (refine aO rfl (iP (c:=cq) hy (by omega) aZ) rfl rfl ?_;rintro _ _ _ ⟨rfl,rfl,rfl⟩;refine ⟨kT,?_⟩)
 repeat (refine iW ?_)
 (refine aO rfl (iP (c:=cq') hz (by omega) aZ) rfl rfl ?_;rintro _ _ _ ⟨rfl,rfl,rfl⟩;refine ⟨kT,?_⟩)
 repeat (refine iW ?_)
 have hyz:y.natAbs+z.natAbs≤2 ^ c:=Nat.le_trans (Nat.add_le_add hy hz) hs
 have hS:=fun M0 I0=>aVL (X:=X) (w0:=w0) (M0:=M0) (I0:=I0) (p:=q) (q:=q') (cp:=cq) (cq:=cq') (pn:=y < 0) (qn:=z < 0) (k:=c) (by omega) (by omega) hyz hc0
 simp only [qU] at hS
 (refine aO rfl (hS _ _ aZ aZ) rfl rfl ?_;rintro _ _ _ ⟨rfl,rfl⟩;refine ⟨kT,?_⟩;refine aW (List.Mem.head _) (fun q2 c2 e__ hc2 hz2=>?_);subst e__)
 unfold iv
 repeat (refine iW ?_)
 refine aT (cs:=[.bool (B (y+z < 0)), .slice q2 (gr (y+z).natAbs).length c2]) (.inl rfl) rfl rfl aZ rfl _ _ bQ bP ⟨rfl,rfl⟩
end
section
variable {X:List Nat} {w0:World} {M0:List Ent} {I0:List aM}
theorem aIW {u v:Value} {y z:Int} {k0 m:Nat} (hk:k0≤500000000000) (hm:m≤500000000000) (hu:gW u y k0∈I0) (hv:gW v z m∈I0):CD Tryz.prog 122 [u,v] X w0 M0 I0 (fun v M I=>M0=M∧I=gW v (Int.gcd y z) (k0+m)::I0):=by
 refine bZ hu (fun q cq e hc hy=>?_)
 subst e
 refine bZ (List.Mem.tail _ hv) (fun q' cq' e hc' hz=>?_)
 subst e
 have hy2:y.natAbs≤2 ^ (k0+m):=Nat.le_trans hy (Nat.pow_le_pow_right (by decide) (by omega))
 have hz2:z.natAbs≤2 ^ (k0+m):=Nat.le_trans hz (Nat.pow_le_pow_right (by decide) (by omega))
 unfold iv
 refine dV Tryz.func122 rfl Tryz.ntmps122 rfl ?_
 refine aG ?_
 refine dB ?_
 (refine nN rfl rfl rfl ?_;intro b;refine ⟨kT,?_⟩)
 (refine nN rfl rfl rfl ?_;intro b2;refine ⟨kT,?_⟩)
 (refine aV rfl rfl ?_;intro b3;refine ⟨kT,?_⟩)
 repeat (refine iW ?_)
 (repeat refine aG ?_);refine bA 3 [0,2,1,3,4,5] [1,1,0,0,0,0] mixed (by kernel_rfl) ?_
 repeat (refine iW ?_)
 (refine aO rfl (iP (c:=cq) hy (by omega) aZ) rfl rfl ?_;rintro _ _ _ ⟨rfl,rfl,rfl⟩;refine ⟨kT,?_⟩)
 repeat (refine iW ?_)
 (refine aO rfl (iP (c:=cq') hz (by omega) aZ) rfl rfl ?_;rintro _ _ _ ⟨rfl,rfl,rfl⟩;refine ⟨kT,?_⟩)
 repeat (refine iW ?_)
 refine bX [4] rfl (fun k G M I=>∃(a b:Nat) (pa pb:Option Addr) (ca cb:Nat),k=b∧a≤2 ^ (k0+m)∧b≤2 ^ (k0+m)∧sF pa a ca∧sF pb b cb∧Nat.gcd a b=Nat.gcd y.natAbs z.natAbs∧G=[(5, .slice pa (gr a).length ca),(6, .slice pb (gr b).length cb)]∧M= .blk b3 [.bool false, .slice none 0 0] 42::M0∧I=aH pa (recs eG (gr a))::aH pb (recs eG (gr b))::I0) (z.natAbs) _ _ _ dE bQ bP (⟨y.natAbs,z.natAbs,q,q',cq,cq',rfl,hy2,hz2,hc,hc',rfl,rfl,rfl,rfl⟩) ?_
 rintro k G M I ⟨a,b',pa,pb,ca,cb,rfl,ha,hb,oa,ob,hg,rfl,rfl,rfl⟩
 have la:=fA ha
 have lb:=fA hb
 have hW1:=fun M0 I0=>aCX (X:=X) (w0:=w0) (M0:=M0) (I0:=I0) (q:=pa) (n:=a) (c:=ca) (by omega)
 have hW2:=fun M0 I0=>aCX (X:=X) (w0:=w0) (M0:=M0) (I0:=I0) (q:=pb) (n:=k) (c:=cb) (by omega)
 by_cases hk0:k=0
 ·subst hk0
  have hl0:(gr 0).length=0:=by rw [gL];rfl
  rw [Nat.gcd_zero_right] at hg
  have hz:(Int.gcd y z:Int)=sg False a:=by unfold sg;rw [if_neg (fun h=>h),hg];rfl
  repeat (refine iW ?_)
  (refine aO rfl (aAP (a:=gr a) (by omega) oa.2 aZ) rfl rfl ?_;rintro _ _ _ ⟨rfl,q',c',rfl,rfl⟩;refine ⟨kT,?_⟩)
  refine nG (fun w hw=>And.intro (hw.rowLe (List.Mem.head _)) ((hw.rowS (List.Mem.head _)).2.imp id And.right)) (fun hc'=>?_)
  refine eX yM ?_
  repeat (refine iW ?_)
  rw [hz]
  have hMd:=fun M0 I0=>mD (X:=X) (w0:=w0) (M0:=M0) (I0:=I0) (p:=False) (q:=q') (c:=c') (k:=k0+m) (by omega) hc' ha
  simp only [bE (show ¬False from id)] at hMd
  (refine aO rfl (hMd _ _ aZ) rfl rfl ?_;rintro _ _ _ ⟨rfl,rfl⟩;refine ⟨kT,?_⟩;refine aW (List.Mem.head _) (fun q2 c2 e__ hc2 hz2=>?_);subst e__)
  unfold iv
  repeat (refine iW ?_)
  refine aT (cs:=[.bool (B (sg False a < 0)), .slice q2 (gr (sg False a).natAbs).length c2]) (.inl rfl) rfl rfl aZ rfl _ _ bQ bP ⟨rfl,rfl⟩
 ·have hlk:0 < (gr k).length:=List.length_pos_iff.2 (fun e=>hk0 (oO.1 e))
  by_cases hw:(gr a).length≤2∧(gr k).length≤2
  ·have hb9:∀t:Nat,(gr t).length≤2→t < 1000000000000000000:=fun t ht=>by
    have:=jR (bR t)
    rw [cO] at this
    have h2:(1000000000:Int) ^ (gr t).length≤1000000000 ^ 2:=nR ht
    omega
   have a9:=hb9 a hw.1
   have k9:=hb9 k hw.2
   rw [if_pos hw.1,bJ hw.1] at hW1
   rw [if_pos hw.2,bJ hw.2] at hW2
   repeat (refine iW ?_)
   (refine aO rfl (hW1 _ _ aZ) rfl rfl ?_;rintro _ _ _ ⟨rfl,rfl,rfl⟩;refine ⟨kT,?_⟩)
   repeat (refine iW ?_)
   (refine aO rfl (hW2 _ _ aZ) rfl rfl ?_;rintro _ _ _ ⟨rfl,rfl,rfl⟩;refine ⟨kT,?_⟩)
   repeat (refine iW ?_)
   refine bX [4] rfl (fun k G M I=>∃(x x2:Nat),k=x2∧x < 1000000000000000000∧x2 < 1000000000000000000∧x≤2 ^ (k0+m)∧x2≤2 ^ (k0+m)∧Nat.gcd x x2=Nat.gcd y.natAbs z.natAbs∧G=[(7, .int .u64 x),(9, .int .u64 x2)]∧M= .blk b3 [.bool false, .slice none 0 0] 42::M0∧I0=I) (k) _ _ _ dE bQ bP (⟨a,k,rfl,a9,k9,ha,hb,hg,rfl,rfl,rfl⟩) ?_
   rintro k G M I ⟨x,x2,rfl,hx9,hx29,hx,hx2,hxg,rfl,rfl,rfl⟩
   by_cases hx0:k=0
   ·subst hx0
    rw [Nat.gcd_zero_right] at hxg
    have hz:(Int.gcd y z:Int)=sg False x:=by unfold sg;rw [if_neg (fun h=>h),hxg];rfl
    repeat (refine iW ?_)
    (refine aO rfl (uK (n:=x) (by omega)) rfl rfl ?_;rintro _ _ _ ⟨rfl,q',c',rfl,hc',rfl⟩;refine ⟨kT,?_⟩)
    rw [hz]
    have hMd:=fun M0 I0=>mD (X:=X) (w0:=w0) (M0:=M0) (I0:=I0) (p:=False) (q:=q') (c:=c') (k:=k0+m) (by have:=fA hx;omega) hc' hx
    simp only [bE (show ¬False from id)] at hMd
    (refine aO rfl (hMd _ _ aZ) rfl rfl ?_;rintro _ _ _ ⟨rfl,rfl⟩;refine ⟨kT,?_⟩;refine aW (List.Mem.head _) (fun q2 c2 e__ hc2 hz2=>?_);subst e__)
    unfold iv
    repeat (refine iW ?_)
    refine aT (cs:=[.bool (B (sg False x < 0)), .slice q2 (gr (sg False x).natAbs).length c2]) (.inl rfl) rfl rfl aZ rfl _ _ bQ bP ⟨rfl,rfl⟩
   ·have e2:((x:Int)).tmod (k:Int)=((x % k:Nat):Int):=by rw [Int.tmod_eq_emod_of_nonneg (by omega),Int.natCast_emod]
    have hmod:=Nat.mod_lt x (show k>0 by omega)
    have hg2:Nat.gcd k (x % k)=Nat.gcd y.natAbs z.natAbs:=by rw [←hxg,Nat.gcd_comm x k,Nat.gcd_rec k x,Nat.gcd_comm]
    repeat (refine iW ?_)
    (repeat refine aG ?_);refine dJ [0,1,2,3,4,5] [0,0,0,0,0,0] mixed (by kernel_rfl) ?_
    repeat (refine iW ?_)
    rw [e2]
    refine cB (x % k) _ _ _ (by first|omega|(simp only [List.length_append,List.length_cons,List.length_nil];omega)) dE bQ bP (⟨k,x % k,rfl,by omega,by omega,hx2,by omega,hg2,rfl,rfl,rfl⟩)
  ·have hO:=fun M0 I0=>aPL (X:=X) (w0:=w0) (M0:=M0) (I0:=I0) (p:=pa) (q:=pb) (m:=a) (n:=k) (cp:=ca) (cq:=cb) (by omega) (by omega) (by omega) oa
   have hmod:=Nat.mod_lt a (show k>0 by omega)
   have hg2:Nat.gcd k (a % k)=Nat.gcd y.natAbs z.natAbs:=by rw [←hg,Nat.gcd_comm a k,Nat.gcd_rec k a,Nat.gcd_comm]
   by_cases hw1:(gr a).length≤2
   ·have hw2:¬(gr k).length≤2:=fun h=>hw ⟨hw1,h⟩
    rw [if_pos hw1,bJ hw1] at hW1
    rw [if_neg hw2,bE hw2] at hW2
    repeat (refine iW ?_)
    (refine aO rfl (hW1 _ _ aZ) rfl rfl ?_;rintro _ _ _ ⟨rfl,rfl,rfl⟩;refine ⟨kT,?_⟩)
    repeat (refine iW ?_)
    (refine aO rfl (hW2 _ _ aZ) rfl rfl ?_;rintro _ _ _ ⟨rfl,rfl,rfl⟩;refine ⟨kT,?_⟩)
    repeat (refine iW ?_)
    (refine aO rfl (hO _ _ aZ aZ) rfl rfl ?_;rintro _ _ _ ⟨rfl,p1,c1,p2,c2,ho1,ho2,rfl,rfl⟩;refine ⟨kT,?_⟩)
    repeat (refine iW ?_)
    refine cB (a % k) _ _ _ (by first|omega|(simp only [List.length_append,List.length_cons,List.length_nil];omega)) dE bQ bP (⟨k,a % k,pb,p2,cb,c2,rfl,hb,by omega,ob,ho2,hg2,rfl,rfl,rfl⟩)
   ·rw [if_neg hw1,bE hw1] at hW1
    repeat (refine iW ?_)
    (refine aO rfl (hW1 _ _ aZ) rfl rfl ?_;rintro _ _ _ ⟨rfl,rfl,rfl⟩;refine ⟨kT,?_⟩)
    repeat (refine iW ?_)
    (refine aO rfl (hW2 _ _ aZ) rfl rfl ?_;rintro _ _ _ ⟨rfl,rfl,rfl⟩;refine ⟨kT,?_⟩)
    repeat (refine iW ?_)
    (refine aO rfl (hO _ _ aZ aZ) rfl rfl ?_;rintro _ _ _ ⟨rfl,p1,c1,p2,c2,ho1,ho2,rfl,rfl⟩;refine ⟨kT,?_⟩)
    repeat (refine iW ?_)
    refine cB (a % k) _ _ _ (by first|omega|(simp only [List.length_append,List.length_cons,List.length_nil];omega)) dE bQ bP (⟨k,a % k,pb,p2,cb,c2,rfl,hb,by omega,ob,ho2,hg2,rfl,rfl,rfl⟩)
end
theorem aSX {y z:Int} (h:y.sign≠z.sign):fV y.sign z.sign=fV y z:=by
 unfold fV
 rcases Int.lt_trichotomy y 0 with hy|hy|hy <;>rcases Int.lt_trichotomy z 0 with hz|hz|hz <;>
  simp_all [Int.sign_eq_one_of_pos,Int.sign_eq_neg_one_of_neg] <;>omega
theorem aZS {y z:Int} (h:y.sign=z.sign):fV y z=if y < 0 then -fV y.natAbs z.natAbs else fV y.natAbs z.natAbs:=by
 have h1:y < 0↔z < 0:=by rw [←Int.sign_eq_neg_one_iff_neg,←Int.sign_eq_neg_one_iff_neg,h]
 unfold fV
 by_cases hy:y < 0
 ·have hz:=h1.1 hy
  rw [if_pos hy]
  split <;>split <;>(try split) <;>(try split) <;>omega
 ·have hz:¬z < 0:=fun hz=>hy (h1.2 hz)
  rw [if_neg hy]
  split <;>split <;>(try split) <;>(try split) <;>omega
section
variable {X:List Nat} {w0:World} {M0:List Ent} {I0:List aM}
theorem yI {u v:Value} {y z:Int} {k m:Nat} (hk:k≤1000000000000) (hm:m≤1000000000000) (hu:gW u y k∈I0) (hv:gW v z m∈I0):CD Tryz.prog 121 [u,v] X w0 M0 I0 (fun v M I=>M0=M∧I0=I∧v= .int .i64 (fV y z)):=by
 have hS1:=fun M0 I0 h=>qB (X:=X) (w0:=w0) (M0:=M0) (I0:=I0) (u:=u) (z:=y) hk h
 have hS2:=fun M0 I0 h=>qB (X:=X) (w0:=w0) (M0:=M0) (I0:=I0) (u:=v) (z:=z) hm h
 refine bZ hu (fun q cq e hc hy=>?_)
 subst e
 refine bZ (List.Mem.tail _ hv) (fun q' cq' e hc' hz=>?_)
 subst e
 have hl:=fT hy hk
 have hl':=fT hz hm
 unfold iv at*
 refine dV Tryz.func121 rfl Tryz.ntmps121 rfl ?_
 refine aG ?_
 refine dB ?_
 (refine nN rfl rfl rfl ?_;intro b;refine ⟨kT,?_⟩)
 (refine nN rfl rfl rfl ?_;intro b2;refine ⟨kT,?_⟩)
 repeat (refine iW ?_)
 (repeat refine aG ?_);refine dJ [0,2,1,3,4,5] [1,1,0,0,0,0] mixed (by kernel_rfl) ?_
 repeat (refine iW ?_)
 (refine aO rfl (hS1 _ _ aZ) rfl rfl ?_;rintro _ _ _ ⟨rfl,rfl,rfl⟩;refine ⟨kT,?_⟩)
 repeat (refine iW ?_)
 (refine aO rfl (hS2 _ _ aZ) rfl rfl ?_;rintro _ _ _ ⟨rfl,rfl,rfl⟩;refine ⟨kT,?_⟩)
 by_cases hs:y.sign=z.sign
 ·have hca:=aZS hs
  repeat (refine iW ?_)
  (repeat refine aG ?_);refine dJ [0,2,1,3,4,5] [2,2,0,0,0,0] mixed (by kernel_rfl) ?_
  repeat (refine iW ?_)
  (refine aO rfl (iP (c:=cq) hy hk aZ) rfl rfl ?_;rintro _ _ _ ⟨rfl,rfl,rfl⟩;refine ⟨kT,?_⟩)
  repeat (refine iW ?_)
  (refine aO rfl (iP (c:=cq') hz hm aZ) rfl rfl ?_;rintro _ _ _ ⟨rfl,rfl,rfl⟩;refine ⟨kT,?_⟩)
  repeat (refine iW ?_)
  (refine aO rfl (yL (by omega) (by omega) aZ aZ) rfl rfl ?_;rintro _ _ _ ⟨rfl,rfl,rfl⟩;refine ⟨kT,?_⟩)
  have hcb: -1≤fV (y.natAbs:Int) z.natAbs∧fV (y.natAbs:Int) z.natAbs≤1:=by unfold fV;split <;>(try split) <;>omega
  by_cases hy0:y < 0
  ·rw [if_pos hy0] at hca
   rw [hca]
   generalize fV (y.natAbs:Int) z.natAbs=cv at*
   repeat (refine iW ?_)
   refine aP (by first|exact .inl rfl|exact .inr rfl) rfl rfl _ _ bQ bP (⟨rfl,rfl,congrArg (Value.int .i64) (by omega)⟩)
  ·rw [if_neg hy0] at hca
   rw [hca]
   generalize fV (y.natAbs:Int) z.natAbs=cv at*
   repeat (refine iW ?_)
   refine aP (by first|exact .inl rfl|exact .inr rfl) rfl rfl _ _ bQ bP (⟨rfl,rfl,rfl⟩)
 ·rw [←aSX hs]
  repeat (refine iW ?_)
  (refine aO rfl (CD.same (fun w _=>aVT _ _ _)) rfl rfl ?_;rintro _ _ _ ⟨rfl,rfl,rfl⟩;refine ⟨kT,?_⟩)
  repeat (refine iW ?_)
  refine aP (by first|exact .inl rfl|exact .inr rfl) rfl rfl _ _ bQ bP (⟨rfl,rfl,rfl⟩)
end
theorem aLK {x:Int} (h: -9223372036854775808≤x∧x < 0):IntKind.u64.wrap x=x+18446744073709551616:=by
 simp [IntKind.wrap,IntKind.bits,IntKind.signed];omega
section
variable {X:List Nat} {w0:World} {M0:List Ent} {I0:List aM}
theorem Of_ok {x:Int} (hx:0≤x∧x≤9223372036854775807):CD Tryz.prog 58 [.int .i64 x] X w0 M0 I0 (fun v M I=>M0=M∧I=gW v x 63::I0):=by
 obtain ⟨n,rfl⟩:∃n:Nat,x=(n:Int):=⟨x.toNat,by omega⟩
 have hn:n≤2 ^ 63:=by omega
 have hsg:((n:Nat):Int)=sg False n:=by unfold sg;rw [if_neg (fun h=>h)]
 refine dV Tryz.func58 rfl Tryz.ntmps58 rfl ?_
 refine aG ?_
 refine dB ?_
 (refine aV rfl rfl ?_;intro b;refine ⟨kT,?_⟩)
 repeat (refine iW ?_)
 (refine aO rfl (uK (n:=n) (by omega)) rfl rfl ?_;rintro _ _ _ ⟨rfl,q',c',rfl,hc',rfl⟩;refine ⟨kT,?_⟩)
 have hMd:=fun M0 I0=>mD (X:=X) (w0:=w0) (M0:=M0) (I0:=I0) (p:=((n:Nat):Int) < 0) (q:=q') (c:=c') (k:=63) (by have:=fA hn;omega) hc' hn
 have hs2:sg (((n:Nat):Int) < 0) n=(n:Int):=by unfold sg;rw [if_neg (by omega)]
 simp only [hs2] at hMd
 (refine aO rfl (hMd _ _ aZ) rfl rfl ?_;rintro _ _ _ ⟨rfl,rfl⟩;refine ⟨kT,?_⟩;refine aW (List.Mem.head _) (fun q2 c2 e__ hc2 hz2=>?_);subst e__)
 unfold iv
 repeat (refine iW ?_)
 refine aT (cs:=[.bool (B (((n:Nat):Int) < 0)), .slice q2 (gr ((n:Nat):Int).natAbs).length c2]) (.inl rfl) rfl rfl aZ rfl _ _ bQ bP ⟨rfl,rfl⟩
end
end Go.Proofs.YtmmmfphealhapaaGreat
