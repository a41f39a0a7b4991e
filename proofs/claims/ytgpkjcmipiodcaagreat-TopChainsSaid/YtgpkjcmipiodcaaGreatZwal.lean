/- integer: long division integer: quotient and remainder of magnitudes integer: Of, sum inte -/
import Derived.Test.YtgpkjcmipiodcaaGreatZwak
import Derived.Test.YtgpkjcmipiodcaaGreatZwaf
set_option linter.unusedSimpArgs false
set_option linter.unusedVariables false
set_option maxRecDepth 100000
set_option maxHeartbeats 4000000
namespace Go.Proofs.YtgpkjcmipiodcaaGreat
open Go Go.Fx
theorem cut0 (b c:Nat):aET (some ⟨b,0,none⟩) c 0 1=some ⟨b,0,none⟩:=by
 unfold aET
 split <;>simp [Addr.add]
section
variable {X:List Nat} {w0:World} {M0:List Ent} {I0:List aV}
set_option pp.maxSteps 300000 in
set_option pp.deepTerms true in
theorem aYC {p q:Option Addr} {m n cp cq:Nat} (hm:(gr m).length≤50000000000) (hn:2≤(gr n).length) (hle:n≤m) (hp:aI p (recs eG (gr m))∈I0) (hq:aI q (recs eG (gr n))∈I0):
  CD Tryz.prog 193 [.slice p (gr m).length cp, .slice q (gr n).length cq] X w0 M0 I0 (fun v M I=>M0=M∧∃p1 c1 p2 c2,rR p1 (m / n) c1∧rR p2 (m % n) c2∧v= .tuple #[.slice p1 (gr (m / n)).length c1, .slice p2 (gr (m % n)).length c2]∧I=aI p1 (recs eG (gr (m / n)))::aI p2 (recs eG (gr (m % n)))::I0):=by
 have hnm:(gr n).length≤(gr m).length:=fK hle
 obtain ⟨bt,hgt,hbt⟩:=aSL (n:=n) (by omega)
 have da:=bK m
 have db:=bK n
 generalize ha:gr m=a at*
 generalize hb:gr n=b at*
 have hT1:=fun (M0:List Ent) (I0:List aV) (b1:Nat) (f:Nat) (hf:0 < f) (hf2:f < 1000000000) (h:aI p (recs eG a)∈I0) (h2:aI (some ⟨b1,0,none⟩) (recs eG [(f:Int)])∈I0)=>aGA (X:=X) (w0:=w0) (M0:=M0) (I0:=I0) (p:=p) (q:=some ⟨b1,0,none⟩) (m:=m) (n:=f) (cp:=cp) (cq:=1) (by rw [ha];omega) (by rw [vX hf hf2];simp) (by rw [ha];exact h) (by rw [vX hf hf2];exact h2)
 have hT2:=fun (M0:List Ent) (I0:List aV) (b1:Nat) (f:Nat) (hf:0 < f) (hf2:f < 1000000000) (h:aI q (recs eG b)∈I0) (h2:aI (some ⟨b1,0,none⟩) (recs eG [(f:Int)])∈I0)=>aGA (X:=X) (w0:=w0) (M0:=M0) (I0:=I0) (p:=q) (q:=some ⟨b1,0,none⟩) (m:=n) (n:=f) (cp:=cq) (cq:=1) (by rw [hb];omega) (by rw [vX hf hf2];simp) (by rw [hb];exact h) (by rw [vX hf hf2];exact h2)
 rw [ha] at hT1
 rw [hb] at hT2
 refine eD Tryz.func193 rfl Tryz.ntmps193 rfl ?_
 repeat refine iI ?_
 rw [hgt]
 repeat refine iI ?_
 obtain ⟨f,hf1,hf2,ef⟩:=aJP (bt:=bt) hbt
 rw [ef]
 clear ef
 replace hT1:=fun M0 I0 b1=>hT1 M0 I0 b1 f hf1 hf2
 replace hT2:=fun M0 I0 b1=>hT2 M0 I0 b1 f hf1 hf2
 rw [vX hf1 hf2] at hT1 hT2
 have hlu:=tL (m:=m) hf1 hf2
 have hlv:=tL (m:=n) hf1 hf2
 have hluv:(gr (n*f)).length≤(gr (m*f)).length:=fK (Nat.mul_le_mul_right _ hle)
 rw [ha] at hlu
 rw [hb] at hlv
 have du:=bK (m*f)
 have dv:=bK (n*f)
 have vu:=bT (m*f)
 have vv:=bT (n*f)
 have tv:=aDF (n*f)
 generalize hu0:gr (m*f)=u0 at*
 generalize hv0:gr (n*f)=v at*
 repeat refine iI ?_
 refine lL (cs:=recs eG [(f:Int)]) ([.int .u32 (f:Int)]) rfl (fun b1=>?_)
 refine aC yI ?_
 (refine aU rfl (hT1 _ _ b1 aY aY) ?_;rintro _ _ _ ⟨bu,cu,rfl,hcu,rfl,rfl⟩;refine aL ?_)
 repeat refine iI ?_
 refine lL (cs:=recs eG [(f:Int)]) ([.int .u32 (f:Int)]) rfl (fun b2=>?_)
 refine aC yI ?_
 (refine aU rfl (hT2 _ _ b2 aY aY) ?_;rintro _ _ _ ⟨bv,cv,rfl,hcv,rfl,rfl⟩;refine aL ?_)
 repeat refine iI ?_
 refine lL (cs:=recs eG [(0:Int)]) ([.int .u32 0]) rfl (fun b3=>?_)
 (refine oO (ys:=[(0:Int)]) 2 rfl rfl rfl ?_ (by decide) rfl (by omega) (by omega) rfl rfl ?_;(· first|exact Src.blk aY|exact Src.row aY|exact Src.imm aY (by first|assumption|exact .inl (Ok.mk _ _)));intro a2 c2;refine aL ?_)
 have hl0:(u0++[(0:Int)]).length=u0.length+1:=by simp
 repeat refine iI ?_
 (refine lM (u0.length+1 - v.length) rfl rfl (by omega) (by omega) (by omega) (by omega) (nT _ _) rfl rfl ?_;intro bq;refine ⟨okK,?_⟩)
 repeat refine iI ?_
 refine aMQ (M':= .row a2 (u0++[(0:Int)]).length c2 (recs eG (u0++[(0:Int)])) 181 1:: .blk bq (recs eG (List.replicate (u0.length+1 - v.length) 0)) 181:: .row (some ⟨bv,0,none⟩) v.length cv (recs eG v) 181 1::M0) (I':=I0) bX bV ?_
 refine aRB (fun _ h _=>absurd h (by omega)) (fun bU tl e hc2=>?_)
 subst e
 refine mQ (M':= .blk bU (recs eG (u0++[(0:Int)])++tl) 181:: .blk bq (recs eG (List.replicate (u0.length+1 - v.length) 0)) 181::M0) (I':=aI (some ⟨bv,0,none⟩) (recs eG v)::I0) (fun w hw=>hw.freezeR yI) ?_
 clear hT1 hT2 hp hq
 obtain ⟨L,hL⟩:∃L,(u0++[(0:Int)]).length=L:=⟨_,rfl⟩
 rw [hL] at hl0 hc2 ⊢
 have hin:=aRJ (v:=v) ⟨dv,tv⟩ (by omega) du hluv
 refine eO [4,6,7,8,9] rfl (fun k G M I=>∃(j:Nat) (c:Int) (u qs:List Int),j≤u0.length+1 - v.length∧k=j∧c=(j:Int) - 1∧u.length=L∧qs.length=u0.length+1 - v.length∧Dig u∧Dig qs∧val u+1000000000 ^ j*(val v*val (qs.drop j))=val u0∧val (u.drop j) < val v∧G=[(10, .int .i64 c)]∧M= .blk bU (recs eG u++tl) 181:: .blk bq (recs eG qs) 181::M0∧I=aI (some ⟨bv,0,none⟩) (recs eG v)::I0) (u0.length+1 - v.length) _ _ _ dS bX bV (⟨u0.length+1 - v.length,_,_,_,Nat.le_refl _,rfl,by omega,hL,by simp,Dig.snoc du (by omega),Dig.zeros _,by rw [List.drop_of_length_le (by simp),val_append];simp [val],hin,rfl,rfl,rfl⟩) ?_
 rintro k G M I ⟨j,c,u,qs,hj,rfl,hcj,hul,hql,dU,dQ,hval,hlt,rfl,rfl,rfl⟩
 by_cases hj0:0≤c
 ·obtain ⟨j,rfl⟩:∃j,k=j+1:=⟨k - 1,by omega⟩
  obtain rfl:c=(j:Int):=by omega
  repeat refine iI ?_
  have hk:=aSG dU ⟨dv,tv⟩ (by omega) hlt (by omega)
  obtain ⟨t2,ht2⟩:∃t2,gt u ((j:Int)+(v.length:Int))=t2:=⟨_,rfl⟩
  obtain ⟨t1,ht1⟩:∃t1,gt u ((j:Int)+(v.length:Int) - 1)=t1:=⟨_,rfl⟩
  obtain ⟨t0,ht0⟩:∃t0,gt u ((j:Int)+(v.length:Int) - 2)=t0:=⟨_,rfl⟩
  obtain ⟨v1,hv1⟩:∃v1,gt v ((v.length:Int) - 1)=v1:=⟨_,rfl⟩
  obtain ⟨v2,hv2⟩:∃v2,gt v ((v.length:Int) - 2)=v2:=⟨_,rfl⟩
  rw [ht2,ht1,ht0,hv1,hv2] at hk
  have k0:=hk.d0
  have k1:=hk.d1
  have k2:=hk.d2
  have k3:=hk.e1
  have k4:=hk.e0
  (repeat refine aJ ?_);refine gG [0,1,2,3,7,8,9,10,11,12,13,14,4,5,6,15,16] [0,1,1,0,1,1,1,1,1,1,1,1,0,0,0,0,0] mixed (by kernel_rfl) ?_
  repeat refine iI ?_
  rw [ht1]
  repeat refine iI ?_
  (refine aU rfl (CD.lend [aI (some ⟨bU,0,none⟩) (recs eG u)] (fun w hw=>Mem.lendBT (b:=bU) (tl:=tl) (e:=181) aY hw hw.imm0) (fun W=>(aNZ (X:=[]) (w0:=W) (M0:=[]) (I0:=[aI (some ⟨bU,0,none⟩) (recs eG u)]) (l:=u) (n:=L) (c:=c2) (i:=(j:Int)+v.length) hul.symm (by omega) aY).mono (fun _ _ _ h=>h.2.2))) ?_;rintro _ _ _ ⟨rfl,rfl,rfl⟩;refine aL ?_)
  rw [ht2]
  repeat refine iI ?_
  (repeat refine aJ ?_);refine gG [0,1,2,3,4,5,6,7,8,9,10,11,12,13,14,15,16,17] [0,0,0,0,0,0,0,0,0,0,0,0,0,0,0,0,0,0] mixed (by kernel_rfl) ?_
  repeat (first|(refine jZ ?_;first|refine kE rfl rfl rfl ?_|(refine kR rfl rfl ?_;refine iU rfl rfl rfl okK ?_)|refine kQ rfl rfl (by omega) ?_|refine kG rfl rfl (by omega) ?_)|(refine dY ?_;refine aD rfl (fun _=>fU rfl) rfl rfl ?_)|refine aD rfl (fun _=>bP rfl) rfl rfl ?_|(refine kL ?_;first|refine aD rfl (fun _=>dF rfl rfl w_) rfl rfl ?_|refine aD rfl (fun _=>dG rfl rfl w_) rfl rfl ?_|refine aD rfl (fun _=>gZ rfl rfl w_) rfl rfl ?_|refine aD rfl (fun _=>gX rfl rfl (by omega) q_) rfl rfl ?_|refine aD rfl (fun _=>gY rfl rfl (by omega) rfl) rfl rfl ?_|refine aD rfl (fun _=>fZ rfl rfl) rfl rfl ?_|refine aD rfl (fun _=>gV rfl rfl) rfl rfl ?_|refine aD rfl (fun _=>gT rfl rfl) rfl rfl ?_)|(refine dY ?_;first|refine aD rfl (fun _=>gJ rfl w_) rfl rfl ?_)|(refine jW ?_;first|refine aD rfl (fun _=>fB rfl w_) rfl rfl ?_)|(refine jV ?_;first|refine aD rfl (fun _=>dE rfl) rfl rfl ?_|refine aD rfl (fun _=>fQ rfl rfl) rfl rfl ?_|refine aD rfl (fun _=>fT rfl rfl) rfl rfl ?_|refine aD rfl (fun _=>fV rfl rfl rfl) rfl rfl ?_)|(refine kK ?_;first|refine jY rfl (by decide) rfl rfl ?_|refine nJ rfl (by decide) rfl rfl ?_)|(refine kD ?_;first|refine aD rfl (fun _=>fA rfl) rfl rfl ?_)|(refine kF ?_;first|refine nE rfl rfl jH rfl rfl ?_|refine nK uK rfl rfl jH aY nQ rfl rfl ?_|refine nI uK rfl rfl jH aY nQ rfl rfl ?_|refine aD rfl (fun _=>dV rfl rfl jH) rfl rfl ?_)|(refine kI ?_;first|refine nH uK rfl aY xQ rfl rfl ?_|refine nG uK rfl aY xQ rfl rfl ?_|refine kX uK rfl aY xQ rfl rfl ?_|refine jF uK rfl aY xQ rfl rfl ?_|refine rE uK rfl aY nL jR rfl rfl ?_|refine rC uK rfl aY nL jR rfl rfl ?_|refine rD uK rfl aY nL jR rfl rfl ?_|refine pQ uK rfl aY nL jR rfl rfl ?_)|(refine jX ?_;first|refine aD rfl (fun _=>dW rfl rfl) rfl rfl ?_|refine aD rfl (fun _=>dJ rfl) rfl rfl ?_)|(refine oF ?_;first|refine oH rfl rfl rfl sQ stC rfl rfl ⟨okK,?_⟩|refine fM rfl rfl jR nU sQ aBS rfl rfl ⟨okK,?_⟩))
  rw [hv1]
  repeat (first|(refine jZ ?_;first|refine kE rfl rfl rfl ?_|(refine kR rfl rfl ?_;refine iU rfl rfl rfl okK ?_)|refine kQ rfl rfl (by omega) ?_|refine kG rfl rfl (by omega) ?_)|(refine dY ?_;refine aD rfl (fun _=>fU rfl) rfl rfl ?_)|refine aD rfl (fun _=>bP rfl) rfl rfl ?_|(refine kL ?_;first|refine aD rfl (fun _=>dF rfl rfl w_) rfl rfl ?_|refine aD rfl (fun _=>dG rfl rfl w_) rfl rfl ?_|refine aD rfl (fun _=>gZ rfl rfl w_) rfl rfl ?_|refine aD rfl (fun _=>gX rfl rfl (by omega) q_) rfl rfl ?_|refine aD rfl (fun _=>gY rfl rfl (by omega) rfl) rfl rfl ?_|refine aD rfl (fun _=>fZ rfl rfl) rfl rfl ?_|refine aD rfl (fun _=>gV rfl rfl) rfl rfl ?_|refine aD rfl (fun _=>gT rfl rfl) rfl rfl ?_)|(refine dY ?_;first|refine aD rfl (fun _=>gJ rfl w_) rfl rfl ?_)|(refine jW ?_;first|refine aD rfl (fun _=>fB rfl w_) rfl rfl ?_)|(refine jV ?_;first|refine aD rfl (fun _=>dE rfl) rfl rfl ?_|refine aD rfl (fun _=>fQ rfl rfl) rfl rfl ?_|refine aD rfl (fun _=>fT rfl rfl) rfl rfl ?_|refine aD rfl (fun _=>fV rfl rfl rfl) rfl rfl ?_)|(refine kK ?_;first|refine jY rfl (by decide) rfl rfl ?_|refine nJ rfl (by decide) rfl rfl ?_)|(refine kD ?_;first|refine aD rfl (fun _=>fA rfl) rfl rfl ?_)|(refine kF ?_;first|refine nE rfl rfl jH rfl rfl ?_|refine nK uK rfl rfl jH aY nQ rfl rfl ?_|refine nI uK rfl rfl jH aY nQ rfl rfl ?_|refine aD rfl (fun _=>dV rfl rfl jH) rfl rfl ?_)|(refine kI ?_;first|refine nH uK rfl aY xQ rfl rfl ?_|refine nG uK rfl aY xQ rfl rfl ?_|refine kX uK rfl aY xQ rfl rfl ?_|refine jF uK rfl aY xQ rfl rfl ?_|refine rE uK rfl aY nL jR rfl rfl ?_|refine rC uK rfl aY nL jR rfl rfl ?_|refine rD uK rfl aY nL jR rfl rfl ?_|refine pQ uK rfl aY nL jR rfl rfl ?_)|(refine jX ?_;first|refine aD rfl (fun _=>dW rfl rfl) rfl rfl ?_|refine aD rfl (fun _=>dJ rfl) rfl rfl ?_)|(refine oF ?_;first|refine oH rfl rfl rfl sQ stC rfl rfl ⟨okK,?_⟩|refine fM rfl rfl jR nU sQ aBS rfl rfl ⟨okK,?_⟩))
  refine aT ?_
  refine lJ ?_
  have hz0:0≤t2*1000000000+t1:=by omega
  rw [Int.tdiv_eq_ediv_of_nonneg hz0,Int.tmod_eq_emod_of_nonneg hz0]
  obtain ⟨g0,hg0⟩:∃g0,(t2*1000000000+t1) / v1=g0:=⟨_,rfl⟩
  obtain ⟨r0,hr0⟩:∃r0,(t2*1000000000+t1) % v1=r0:=⟨_,rfl⟩
  have hgr0:g0*v1+r0=t2*1000000000+t1:=by rw [←hg0,←hr0,Int.mul_comm];exact Int.mul_ediv_add_emod _ _
  have hr1:0≤r0∧r0 < v1:=by rw [←hr0];exact ⟨Int.emod_nonneg _ (by omega),Int.emod_lt_of_pos _ (by omega)⟩
  have hg1:0≤g0:=by rw [←hg0];exact Int.ediv_nonneg hz0 (by omega)
  rw [hg0,hr0]
  refine aRP (fun G M I=>∃g:Int,(0≤g∧g < 1000000000)∧GeQ (val (u.drop j)) (val v) g∧g*val v≤val (u.drop j)+val v∧G=[(4, .slice (some ⟨bq,0,none⟩) (u0.length+1 - v.length) (u0.length+1 - v.length)),(6, .int .u32 f),(7, .slice (some ⟨bU,0,none⟩) L c2),(8, .slice (some ⟨bv,0,none⟩) v.length cv),(9, .int .i64 v.length),(10, .int .i64 j),(12, .int .u64 g)]∧M= .blk bU (recs eG u++tl) 181:: .blk bq (recs eG qs) 181::M0∧I=aI (some ⟨bv,0,none⟩) (recs eG v)::I0) ?_ ?_
  ·refine jE ?_
   refine eO [4,6,7,8,9,10] rfl (fun k G M I=>∃(g r:Int),k=(1000000000 - r).toNat∧g*v1+r=t2*1000000000+t1∧GeQ (val (u.drop j)) (val v) g∧(0≤r∧r < 1000000000)∧0≤g∧G=[(12, .int .u64 g),(13, .int .u64 r)]∧M= .blk bU (recs eG u++tl) 181:: .blk bq (recs eG qs) 181::M0∧I=aI (some ⟨bv,0,none⟩) (recs eG v)::I0) ((1000000000 - r0).toNat) _ _ _ dS bX bV (⟨g0,r0,rfl,hgr0,hk.start hgr0 hr1.2,by omega,hg1,rfl,rfl,rfl⟩) ?_
   rintro k G M I ⟨g,r,rfl,hgr,hgq,hr,hg,rfl,rfl,rfl⟩
   have hg2:=knu_g hk hgr hr.1 hg
   have e1:(g - 1)*v1=g*v1 - v1:=by rw [Int.sub_mul,Int.one_mul]
   have hp0:0≤g*v2:=Int.mul_nonneg hg (by omega)
   have hp1:g*v2≤2000000000*999999999:=Int.mul_le_mul (by omega) (by omega) (by omega) (by omega)
   have hless:=hk.less hgr hgq
   have hB1:=bAD (g:=g - 1) (r:=r+v1) hk (by omega)
   have hdone1:=hk.done (g:=g - 1) (r:=r+v1) (by omega)
   have hdone:=hk.done hgr hg
   have hgne:r*1000000000+t0 < g*v2→1≤g:=fun h=>by
    rcases Int.lt_or_le 0 g with h1|h1
    ·omega
    ·have:g=0:=by omega
     subst this
     simp at h
     omega
   by_cases hgB:1000000000≤g
   ·(repeat refine aJ ?_);refine gG [0,1,2,3,4,5,6,7,8,9,10,11,12,13,14,15,16,17,18,19,20,21,22,23] [0,0,0,0,0,0,0,0,0,0,0,0,0,0,0,0,0,0,0,0,0,0,0,0] mixed (by kernel_rfl) ?_
    repeat' (first|refine iI ?_|refine aQ rfl (fun h=>?_) (fun h=>?_)|refine aR rfl rfl (fun h=>?_) (fun h=>?_)|fail)
    ·refine lU _ _ _ dS bX bV ⟨g - 1,⟨by omega,hB1 (by omega)⟩,hless (.inl hgB),hdone1 (by omega) (hB1 (by omega)) (.inl (by omega)),rfl,rfl,rfl⟩
    ·rw [hv1]
     refine bY ((1000000000 - (r+v1)).toNat) _ _ _ (by first|omega|(simp only [List.length_append,List.length_cons,List.length_nil];omega)) dS bX bV (⟨g - 1,r+v1,rfl,by omega,hless (.inl hgB),by omega,by omega,rfl,rfl,rfl⟩)
   ·by_cases hc:r*1000000000+t0 < g*v2
    ·have hg1:=hgne hc
     (repeat refine aJ ?_);refine gG [0,1,2,3,4,5,6,7,8,9,10,11,12,13,14,15,16,17,18,19,20,21,22,23] [0,0,0,0,0,0,0,0,0,0,0,0,0,0,0,0,0,0,0,0,0,0,0,0] mixed (by kernel_rfl) ?_
     repeat refine iI ?_
     rw [hv2]
     repeat' (first|refine iI ?_|refine aQ rfl (fun h=>?_) (fun h=>?_)|refine aR rfl rfl (fun h=>?_) (fun h=>?_)|fail)
     ·refine lU _ _ _ dS bX bV ⟨g - 1,⟨by omega,hB1 (by omega)⟩,hless (.inr hc),hdone1 (by omega) (hB1 (by omega)) (.inl (by omega)),rfl,rfl,rfl⟩
     ·rw [hv1]
      refine bY ((1000000000 - (r+v1)).toNat) _ _ _ (by first|omega|(simp only [List.length_append,List.length_cons,List.length_nil];omega)) dS bX bV (⟨g - 1,r+v1,rfl,by omega,hless (.inr hc),by omega,by omega,rfl,rfl,rfl⟩)
    ·(repeat refine aJ ?_);refine gG [0,1,2,3,4,5,6,7,8,9,10,11,12,13,14,15,16,17,18,19,20,21,22,23] [0,0,0,0,0,0,0,0,0,0,0,0,0,0,0,0,0,0,0,0,0,0,0,0] mixed (by kernel_rfl) ?_
     repeat refine iI ?_
     rw [hv2]
     repeat refine iI ?_
     refine lU _ _ _ dS bX bV ⟨g,⟨by omega,by omega⟩,hgq,hdone (by omega) (.inr (by omega)),rfl,rfl,rfl⟩
  ·rintro G M I ⟨g,hg,hgq,hgd,rfl,rfl,rfl⟩
   repeat refine iI ?_
   refine eO [4,6,7,8,9,10,12,136] rfl (fun k G M I=>∃(i:Nat) (o:List Int) (b c:Int),k=v.length - i∧i≤v.length∧o.length=L∧Dig o∧(0≤b∧b≤1)∧(0≤c∧c < 1000000000)∧o.take j=u.take j∧o.drop (j+i)=u.drop (j+i)∧val ((o.drop j).take i)+g*val (v.take i)=val ((u.drop j).take i)+1000000000 ^ i*(b+c)∧G=[(14, .int .i64 b),(15, .int .u64 c),(137, .int .i64 i)]∧M= .blk bU (recs eG o++tl) 181:: .blk bq (recs eG qs) 181::M0∧I=aI (some ⟨bv,0,none⟩) (recs eG v)::I0) (v.length) _ _ _ dS bX bV (⟨0,u,0,0,rfl,by omega,hul,dU,by omega,by omega,rfl,rfl,by simp [val],rfl,rfl,rfl⟩) ?_
   rintro k G M I ⟨i,o,b',c,rfl,hi,hol,dO,hb',hc,htk,hdr,hvl,rfl,rfl,rfl⟩
   by_cases hin':i < v.length
   ·have d2:=dv.gt i
    have d3:=dO.gt ((i:Int)+(j:Int))
    have d4:=uI hg d2 (o:=0) (by omega) hc
    rw [Int.zero_add] at d4
    have e1:(g*gt v i+c).tmod 1000000000=(g*gt v i+c) % 1000000000:=Int.tmod_eq_emod_of_nonneg d4.2.1.1
    have e2:(g*gt v i+c).tdiv 1000000000=(g*gt v i+c) / 1000000000:=Int.tdiv_eq_ediv_of_nonneg d4.2.1.1
    have hij:j+i < o.length:=by omega
    repeat' (first|refine iI ?_|refine aQ rfl (fun h=>?_) (fun h=>?_)|refine aR rfl rfl (fun h=>?_) (fun h=>?_)|fail)
    ·have hs:=aFX (y:=gt o ((i:Int)+(j:Int)) - b' - (g*gt v i+c) % 1000000000+1000000000) (b2:=1) dO hvl hij htk hdr (by omega) (by omega)
     rw [e1,e2]
     refine bY (v.length - (i+1)) _ _ _ (by first|omega|(simp only [List.length_append,List.length_cons,List.length_nil];omega)) dS bX bV (⟨i+1,_,1,_,rfl,by omega,by rw [dB];exact hol,hs.1,by omega,d4.2.2,hs.2.1,hs.2.2.1,hs.2.2.2,rfl,rfl,rfl⟩)
    ·have hs:=aFX (y:=gt o ((i:Int)+(j:Int)) - b' - (g*gt v i+c) % 1000000000) (b2:=0) dO hvl hij htk hdr (by omega) (by omega)
     rw [e1,e2]
     refine bY (v.length - (i+1)) _ _ _ (by first|omega|(simp only [List.length_append,List.length_cons,List.length_nil];omega)) dS bX bV (⟨i+1,_,0,_,rfl,by omega,by rw [dB];exact hol,hs.1,by omega,d4.2.2,hs.2.1,hs.2.2.1,hs.2.2.2,rfl,rfl,rfl⟩)
   ·obtain rfl:i=v.length:=by omega
    have d3:=dO.gt ((j:Int)+(v.length:Int))
    rw [List.take_length] at hvl
    obtain ⟨hx,hD,hset⟩:=aVL dU dO ⟨dv,tv⟩ (by omega) (by omega) (by omega) hlt hvl hdr hgq hgd
    have hj1:j < u.length:=by omega
    have hj2:j < qs.length:=by omega
    have kg:(g+1)*val v=g*val v+val v:=by rw [Int.add_mul,Int.one_mul]
    have hgq':val (u.drop j) < (g+1)*val v:=hgq
    have htk2:∀y,(st o ((j:Int)+(v.length:Int)) y).take j=u.take j:=fun y=>by rw [iE,List.take_set_of_le (by omega)];exact htk
    have hnn:=bQ ((dO.drop j).take v.length)
    repeat' (first|refine iI ?_|refine aQ rfl (fun h=>?_) (fun h=>?_)|refine aR rfl rfl (fun h=>?_) (fun h=>?_)|fail)
    ·have hx1:gt o ((j:Int)+(v.length:Int)) - b' - c= -1:=by omega
     rw [hx1] at hD ⊢
     have h9:(-1:Int)+1000000000=999999999:=rfl
     rw [h9]
     obtain ⟨o1,ho1⟩:∃o1,st o ((j:Int)+(v.length:Int)) 999999999=o1:=⟨_,rfl⟩
     rw [ho1]
     have ho2:o1=o.set (j+v.length) 999999999:=by rw [←ho1,iE]
     have hl1:o1.length=L:=by rw [ho2,List.length_set];exact hol
     have dO1:Dig o1:=by rw [ho2];exact dO.set _ (by omega)
     have htk1:o1.take j=u.take j:=by rw [←ho1];exact htk2 _
     refine eO [4,6,7,8,9,10,12,200] rfl (fun k G M I=>∃(i:Nat) (o2:List Int) (c3:Int),k=v.length - i∧i≤v.length∧o2.length=L∧Dig o2∧(0≤c3∧c3≤1)∧o2.take j=u.take j∧o2.drop (j+i)=o1.drop (j+i)∧val ((o2.drop j).take i)+1000000000 ^ i*c3=val ((o1.drop j).take i)+val (v.take i)∧G=[(20, .int .u32 c3),(201, .int .i64 i)]∧M= .blk bU (recs eG o2++tl) 181:: .blk bq (recs eG qs) 181::M0∧I=aI (some ⟨bv,0,none⟩) (recs eG v)::I0) (v.length) _ _ _ dS bX bV (⟨0,o1,0,rfl,by omega,hl1,dO1,by omega,htk1,rfl,by simp [val],rfl,rfl,rfl⟩) ?_
     rintro k G M I ⟨i,o2,c3,rfl,hi,hol2,dO2,hc3,htk3,hdr3,hvl3,rfl,rfl,rfl⟩
     by_cases hin3:i < v.length
     ·have f2:=dv.gt i
      have f3:=dO2.gt ((i:Int)+(j:Int))
      have hij3:j+i < o2.length:=by omega
      repeat refine iI ?_
      (repeat refine aJ ?_);refine gG [0,1,2,3,4,5,6,7,8,9,10,11,12,13] [0,0,0,0,0,0,0,0,0,0,0,0,0,0] mixed (by kernel_rfl) ?_
      repeat' (first|refine iI ?_|refine aQ rfl (fun h=>?_) (fun h=>?_)|refine aR rfl rfl (fun h=>?_) (fun h=>?_)|fail)
      ·have hs:=aKJ (y:=gt o2 ((i:Int)+(j:Int))+gt v i+c3 - 1000000000) (c3:=1) dO2 hvl3 hij3 htk3 hdr3 (by omega) (by omega)
       refine bY (v.length - (i+1)) _ _ _ (by first|omega|(simp only [List.length_append,List.length_cons,List.length_nil];omega)) dS bX bV (⟨i+1,_,1,rfl,by omega,by rw [dB];exact hol2,hs.1,by omega,hs.2.1,hs.2.2.1,hs.2.2.2,rfl,rfl,rfl⟩)
      ·have hs:=aKJ (y:=gt o2 ((i:Int)+(j:Int))+gt v i+c3) (c3:=0) dO2 hvl3 hij3 htk3 hdr3 (by omega) (by omega)
       refine bY (v.length - (i+1)) _ _ _ (by first|omega|(simp only [List.length_append,List.length_cons,List.length_nil];omega)) dS bX bV (⟨i+1,_,0,rfl,by omega,by rw [dB];exact hol2,hs.1,by omega,hs.2.1,hs.2.2.1,hs.2.2.2,rfl,rfl,rfl⟩)
     ·obtain rfl:i=v.length:=by omega
      rw [List.take_length] at hvl3
      obtain ⟨rfl,hgo,hD3,hlt3,hnn3⟩:=aRG dO dO2 ⟨dv,tv⟩ (by omega) (by omega) ho2 hvl3 hc3 hdr3 hD hset hgd
      have f3:=dO2.gt ((j:Int)+(v.length:Int))
      repeat refine iI ?_
      have h10:((999999999:Int)+1).tmod 1000000000=0:=by decide
      rw [hgo,h10]
      have hD2:val ((st o2 ((j:Int)+(v.length:Int)) 0).drop j)=val (u.drop j) - (g - 1)*val v:=by rw [iE];exact hD3
      refine bY (j) _ _ _ (by first|omega|(simp only [List.length_append,List.length_cons,List.length_nil];omega)) dS bX bV (⟨j,_,_,_,by omega,rfl,rfl,by rw [dB];exact hol2,by rw [dB];exact hql,by rw [iE];exact dO2.set _ (by omega),by rw [rY];exact dQ.set _ (by omega),aGE hval hj1 (by rw [dB];omega) hj2 (by rw [iE,List.take_set_of_le (by omega)];exact htk3) hD2,by rw [hD2];exact hlt3,rfl,rfl,rfl⟩)
    ·have hx0:gt o ((j:Int)+(v.length:Int)) - b' - c=0:=by omega
     rw [hx0] at hD ⊢
     have hD2:val ((st o ((j:Int)+(v.length:Int)) 0).drop j)=val (u.drop j) - g*val v:=by rw [iE,hset,hD]
     refine bY (j) _ _ _ (by first|omega|(simp only [List.length_append,List.length_cons,List.length_nil];omega)) dS bX bV (⟨j,_,_,_,by omega,rfl,rfl,by rw [dB];exact hol,by rw [dB];exact hql,by rw [iE];exact dO.set _ (by omega),by rw [rY];exact dQ.set _ hg,aGE hval hj1 (by rw [dB];omega) hj2 (htk2 0) hD2,by rw [hD2];omega,rfl,rfl,rfl⟩)
 ·obtain rfl:k=0:=by omega
  rw [List.drop_zero,Int.pow_zero,Int.one_mul,vu,vv] at hval
  rw [List.drop_zero] at hlt
  have hn0:0 < n*f:=by
   have:=bQ dU
   rw [vv] at hlt
   omega
  obtain ⟨hru,hrq,hrl⟩:=aSM (m:=m) (n:=n) dU dQ hval (by rw [←vv];exact hlt) hf1 hn0
  have hcq:(gr (m / n)).length≤u0.length+1 - v.length:=by
   rw [←pE (n:=m / n) dQ hrq,←hql]
   exact yR
  replace hrl:(gr ((m % n)*f)).length≤100000000000:=by
   have h1:=(tL (m:=m % n) hf1 hf2).2
   have h2:(gr (m % n)).length≤(gr m).length:=fK (Nat.mod_le _ _)
   rw [ha] at h2
   omega
  have hut:val (u.take v.length)=val u:=aQR dU (by omega) hlt (jG dv)
  repeat refine iI ?_
  refine xU (M':=M0) (I':=aI (some ⟨bU,0,none⟩) (recs eG (u.take v.length))::aI (some ⟨bq,0,none⟩) (recs eG qs)::I0) (fun w hw=>?_) ?_
  ·have h1:=(hw.freezeB (b:=bU) (M':= .blk bq (recs eG qs) 181::M0) yI).freezeB (b:=bq) (M':=M0) yI
   have h2:=(h1.sl (a:=some ⟨bU,0,none⟩) (cs:=recs eG u++tl) (by simp)).take v.length
   have e:(recs eG u++tl).take v.length=recs eG (u.take v.length):=by
    rw [List.take_append_of_le_length (by rw [rJ,List.length_map];omega),aDN]
   rw [e] at h2
   exact (h1.add (φ:=aI (some ⟨bU,0,none⟩) (recs eG (u.take v.length))) ⟨h2⟩).inc bV
  refine aD rfl (fun _=>aFK (e:=181) (sz:=1) 0 v.length v.length rfl (.inl ⟨rfl,rfl⟩) (.inr ⟨_,_,_,rfl,rfl,rfl⟩) (by omega) (by omega) (by omega)) rfl rfl ?_
  rw [cut0 bU c2,Nat.sub_zero]
  repeat refine iI ?_
  (refine lX rfl (sN (l:=u.take v.length) (n:=v.length) (c:=c2) (q:=some ⟨bU,0,none⟩) (by rw [List.length_take];omega) (by omega) (by rw [List.length_take];omega) aY) rfl rfl ?_;rintro _ _ _ ⟨rfl,rfl,rfl⟩;refine ⟨okK,?_⟩)
  rw [pE (n:=(m % n)*f) (dU.take v.length) (by rw [hut];exact hru)]
  repeat refine iI ?_
  (refine aU rfl (aEH (n:=(m % n)*f) (d:=f) hrl ⟨hf1,hf2⟩ aY) ?_;rintro _ _ _ ⟨rfl,p5,c5,hc5,ho5,rfl,rfl⟩;refine aL ?_)
  rw [Nat.mul_div_cancel _ hf1] at hc5
  rw [Nat.mul_div_cancel _ hf1]
  repeat refine iI ?_
  (refine aU rfl (sN (l:=qs) (n:=u0.length+1 - v.length) (c:=u0.length+1 - v.length) (q:=some ⟨bq,0,none⟩) (by omega) (by omega) (by omega) aY) ?_;rintro _ _ _ ⟨rfl,rfl,rfl⟩;refine aL ?_)
  rw [pE (n:=m / n) dQ hrq]
  repeat refine iI ?_
  refine pI [4,5] (by first|exact .inl rfl|exact .inr rfl) rfl rfl rfl _ _ bX bV (⟨rfl,some ⟨bq,0,none⟩,_,p5,c5,⟨hcq, .inl (Ok.mk _ _)⟩,⟨hc5, .inl ho5⟩,rfl,rfl⟩)
end
theorem zO {x y:Int} (h:x < y):fP x y= -1:=by unfold fP;rw [if_pos h]
theorem aAE {x y:Int} (h:¬x < y):0≤fP x y∧fP x y≤1:=by unfold fP;rw [if_neg h];split <;>omega
def QrP (a b:Nat) (M0:List Ent) (I0:List aV) (v:Value) (M:List Ent) (I:List aV):Prop:=
 M0=M∧∃p1 c1 p2 c2,rR p1 a c1∧rR p2 b c2∧v= .tuple #[.slice p1 (gr a).length c1, .slice p2 (gr b).length c2]∧I=aI p1 (recs eG (gr a))::aI p2 (recs eG (gr b))::I0
section
variable {X:List Nat} {w0:World} {M0:List Ent} {I0:List aV}
theorem aHJ {p q:Option Addr} {m n cp cq:Nat} (hm:(gr m).length≤50000000000) (hn0:(gr n).length≤50000000000) (hn:0 < n) (hcp:rR p m cp) (hp:aI p (recs eG (gr m))∈I0) (hq:aI q (recs eG (gr n))∈I0):
  CD Tryz.prog 146 [.slice p (gr m).length cp, .slice q (gr n).length cq] X w0 M0 I0 (QrP (m / n) (m % n) M0 I0):=by
 have hC:=uQ (X:=X) (w0:=w0) (M0:=M0) (I0:=I0) (p:=p) (q:=q) (m:=m) (n:=n) (cp:=cp) (cq:=cq) (by omega) (by omega) hp hq
 have hW1:=aCC (X:=X) (w0:=w0) (M0:=M0) (I0:=I0) (q:=p) (n:=m) (c:=cp) (by omega) hp
 have hW2:=aCC (X:=X) (w0:=w0) (M0:=M0) (I0:=I0) (q:=q) (n:=n) (c:=cq) (by omega) hq
 by_cases hlt:m < n
 ·have e1:m / n=0:=Nat.div_eq_of_lt hlt
  have e2:m % n=m:=Nat.mod_eq_of_lt hlt
  rw [e1,e2]
  unfold QrP
  simp only [fO]
  rw [zO (by omega)] at hC
  have hO:rR p m cp:=hcp
  refine eD Tryz.func146 rfl Tryz.ntmps146 rfl ?_
  repeat refine iI ?_
  (refine aU rfl (hC) ?_;rintro _ _ _ ⟨rfl,rfl,rfl⟩;refine aL ?_)
  repeat refine iI ?_
  refine uY none ?_
  refine pI [4,5] (by first|exact .inl rfl|exact .inr rfl) rfl rfl rfl _ _ bX bV (⟨rfl,none,0,p,cp,⟨by rw [fO];simp, .inr ⟨by rw [fO];rfl,rfl⟩⟩,hO,rfl,rfl⟩)
 ·have hcv:=aAE (x:=(m:Int)) (y:=(n:Int)) (by omega)
  generalize fP (m:Int) (n:Int)=cv at*
  have e1:((m:Int)).tdiv (n:Int)=((m / n:Nat):Int):=by rw [Int.tdiv_eq_ediv_of_nonneg (by omega),Int.natCast_ediv]
  have e2:((m:Int)).tmod (n:Int)=((m % n:Nat):Int):=by rw [Int.tmod_eq_emod_of_nonneg (by omega),Int.natCast_emod]
  have hmn:(gr n).length≤(gr m).length:=fK (by omega)
  by_cases hw:(gr m).length≤2
  ·have hw2:(gr n).length≤2:=by omega
   rw [if_pos hw,cB hw] at hW1
   rw [if_pos hw2,cB hw2] at hW2
   have hb:m < 1000000000000000000:=by
    have:=jG (bK m)
    rw [bT] at this
    have h2:(1000000000:Int) ^ (gr m).length≤1000000000 ^ 2:=oG hw
    omega
   have hS1:=fun M0 I0=>tY (X:=X) (w0:=w0) (M0:=M0) (I0:=I0) (n:=m / n) (Nat.le_trans (Nat.div_le_self _ _) (by omega))
   have hS2:=fun M0 I0=>tY (X:=X) (w0:=w0) (M0:=M0) (I0:=I0) (n:=m % n) (Nat.le_trans (Nat.mod_le _ _) (by omega))
   refine eD Tryz.func146 rfl Tryz.ntmps146 rfl ?_
   repeat refine iI ?_
   (refine aU rfl (hC) ?_;rintro _ _ _ ⟨rfl,rfl,rfl⟩;refine aL ?_)
   repeat refine iI ?_
   (refine aU rfl (hW1) ?_;rintro _ _ _ ⟨rfl,rfl,rfl⟩;refine aL ?_)
   repeat refine iI ?_
   (refine aU rfl (hW2) ?_;rintro _ _ _ ⟨rfl,rfl,rfl⟩;refine aL ?_)
   repeat refine iI ?_
   (repeat refine aJ ?_);refine gG [0,1,2,4,5,6,3,7,8,9] [2,2,1,2,2,1,0,0,0,0] mixed (by kernel_rfl) ?_
   repeat refine iI ?_
   rw [e1,e2]
   (refine aU rfl (hS1 _ _) ?_;rintro _ _ _ ⟨rfl,q1,c1,rfl,ho1,rfl⟩;refine aL ?_)
   repeat refine iI ?_
   (refine aU rfl (hS2 _ _) ?_;rintro _ _ _ ⟨rfl,q2,c2,rfl,ho2,rfl⟩;refine aL ?_)
   repeat refine iI ?_
   refine pI [4,5] (by first|exact .inl rfl|exact .inr rfl) rfl rfl rfl _ _ bX bV (⟨rfl,q1,c1,q2,c2,ho1,ho2,rfl,rfl⟩)
  ·rw [if_neg hw,bF hw] at hW1
   have hn1:0 < (gr n).length:=List.length_pos_iff.2 (fun e=>by have:=nD.1 e;omega)
   by_cases h1:(gr n).length=1
   ·have hnb:n < 1000000000:=by
     have:=jG (bK n)
     rw [bT,h1] at this
     omega
    have hgo:=vX hn hnb
    have hS:=fun M0 I0 hq=>aEH (X:=X) (w0:=w0) (M0:=M0) (I0:=I0) (q:=p) (n:=m) (c:=cp) (d:=n) (by omega) ⟨hn,hnb⟩ hq
    have hS2:=fun M0 I0=>tY (X:=X) (w0:=w0) (M0:=M0) (I0:=I0) (n:=m % n) (Nat.le_trans (Nat.le_of_lt (Nat.mod_lt _ hn)) (by omega))
    have hgt:gt (gr n) 0=(n:Int):=by rw [hgo];rfl
    have hmr:m % n < n:=Nat.mod_lt _ hn
    refine eD Tryz.func146 rfl Tryz.ntmps146 rfl ?_
    repeat refine iI ?_
    (refine aU rfl (hC) ?_;rintro _ _ _ ⟨rfl,rfl,rfl⟩;refine aL ?_)
    repeat refine iI ?_
    (refine aU rfl (hW1) ?_;rintro _ _ _ ⟨rfl,rfl,rfl⟩;refine aL ?_)
    repeat refine iI ?_
    (refine aU rfl (hW2) ?_;rintro _ _ _ ⟨rfl,rfl,rfl⟩;refine aL ?_)
    repeat refine iI ?_
    rw [hgt]
    (refine aU rfl (hS _ _ aY) ?_;rintro _ _ _ ⟨rfl,p1,c1,hc1,ho1,rfl,rfl⟩;refine aL ?_)
    repeat refine iI ?_
    (refine aU rfl (hS2 _ _) ?_;rintro _ _ _ ⟨rfl,q2,c2,rfl,ho2,rfl⟩;refine aL ?_)
    repeat refine iI ?_
    refine pI [4,5] (by first|exact .inl rfl|exact .inr rfl) rfl rfl rfl _ _ bX bV (⟨rfl,p1,c1,q2,c2,⟨hc1, .inl ho1⟩,ho2,rfl,rfl⟩)
   ·have hL:=fun M0 I0 hp hq=>aYC (X:=X) (w0:=w0) (M0:=M0) (I0:=I0) (p:=p) (q:=q) (m:=m) (n:=n) (cp:=cp) (cq:=cq) hm (by omega) (by omega) hp hq
    refine eD Tryz.func146 rfl Tryz.ntmps146 rfl ?_
    repeat refine iI ?_
    (refine aU rfl (hC) ?_;rintro _ _ _ ⟨rfl,rfl,rfl⟩;refine aL ?_)
    repeat refine iI ?_
    (refine aU rfl (hW1) ?_;rintro _ _ _ ⟨rfl,rfl,rfl⟩;refine aL ?_)
    repeat refine iI ?_
    (refine aU rfl (hW2) ?_;rintro _ _ _ ⟨rfl,rfl,rfl⟩;refine aL ?_)
    repeat refine iI ?_
    (refine aU rfl (hL _ _ aY aY) ?_;rintro _ _ _ ⟨rfl,p1,c1,p2,c2,ho1,ho2,rfl,rfl⟩;refine aL ?_)
    repeat refine iI ?_
    refine pI [4,5] (by first|exact .inl rfl|exact .inr rfl) rfl rfl rfl _ _ bX bV (⟨rfl,p1,c1,p2,c2,ho1,ho2,rfl,rfl⟩)
end
end Go.Proofs.YtgpkjcmipiodcaaGreat
namespace Go.Proofs.YtgpkjcmipiodcaaGreat
open Go Go.Fx
section
variable {X:List Nat} {w0:World} {M0:List Ent} {I0:List aV}
theorem aMV {p q:Prop} [Decidable p] [Decidable q] {m n:Nat} (h:p↔q):sg p (m+n)=sg p m+sg q n:=by
 unfold sg
 by_cases hp:p
 ·rw [if_pos hp,if_pos hp,if_pos (h.1 hp)];omega
 ·rw [if_neg hp,if_neg hp,if_neg (fun hq=>hp (h.2 hq))];omega
theorem aCL {p q:Prop} [Decidable p] [Decidable q] {m n:Nat} (h:¬(p↔q)) (hle:n≤m):sg p (m - n)=sg p m+sg q n:=by
 unfold sg
 by_cases hp:p
 ·rw [if_pos hp,if_pos hp,if_neg (fun hq=>h ⟨fun _=>hq,fun _=>hp⟩)];omega
 ·rw [if_neg hp,if_neg hp,if_pos (by rcases Classical.em q with hq|hq;exact hq;exact absurd ⟨fun h=>absurd h hp,fun h=>absurd h hq⟩ h)];omega
theorem bAV {pn qn:Prop} [Decidable pn] [Decidable qn] {p q:Option Addr} {m n cp cq k:Nat} (hm:(gr m).length≤50000000000) (hn:(gr n).length≤50000000000) (hk:m+n≤2 ^ k) (hk2:k≤1000000000000) (hp:aI p (recs eG (gr m))∈I0) (hq:aI q (recs eG (gr n))∈I0):
  CD Tryz.prog 128 [.bool (B pn), .slice p (gr m).length cp, .bool (B qn), .slice q (gr n).length cq] X w0 M0 I0 (fun v M I=>M0=M∧I=iB v (sg pn m+sg qn n) k::I0):=by
 have hC:=fun M0 I0=>uQ (X:=X) (w0:=w0) (M0:=M0) (I0:=I0) (p:=p) (q:=q) (m:=m) (n:=n) (cp:=cp) (cq:=cq) (by omega) (by omega)
 have hP:=fun M0 I0=>aHO (X:=X) (w0:=w0) (M0:=M0) (I0:=I0) (p:=p) (q:=q) (m:=m) (n:=n) (cp:=cp) (cq:=cq) (by omega) (by omega)
 have hM:=fun M0 I0 (hle:n≤m)=>aEG (X:=X) (w0:=w0) (M0:=M0) (I0:=I0) (p:=p) (q:=q) (m:=m) (n:=n) (cp:=cp) (cq:=cq) (by omega) hle
 have hM2:=fun M0 I0 (hle:m≤n)=>aEG (X:=X) (w0:=w0) (M0:=M0) (I0:=I0) (p:=q) (q:=p) (m:=n) (n:=m) (cp:=cq) (cq:=cp) (by omega) hle
 have hl1:=gL hk hk2
 refine eD Tryz.func128 rfl Tryz.ntmps128 rfl ?_
 refine fE ?_
 refine bG (fun b3=>?_)
 by_cases hpq:pn↔qn
 ·repeat refine iI ?_
  (refine aU rfl (hP _ _ aY aY) ?_;rintro _ _ _ ⟨rfl,q3,c3,rfl,hc3,rfl⟩;refine aL ?_)
  rw [←aMV hpq]
  (refine lX rfl (lW (p:=pn) (k:=k) (by omega) hc3 hk aY) rfl rfl ?_;rintro _ _ _ ⟨rfl,rfl⟩;refine ⟨okK,?_⟩;refine aX (List.Mem.head _) (fun q2 c2 e__ hc2 hz2=>?_);subst e__)
  unfold iv
  repeat refine iI ?_
  refine bA (cs:=[.bool (B (sg pn (m+n) < 0)), .slice q2 (gr (sg pn (m+n)).natAbs).length c2]) (.inl rfl) rfl rfl aY rfl _ _ bX bV ⟨rfl,rfl⟩
 ·by_cases hge:n≤m
  ·have hcv:=aAE (x:=(m:Int)) (y:=(n:Int)) (by omega)
   have hk3:m - n≤2 ^ k:=by omega
   have hl3:=gL hk3 hk2
   repeat refine iI ?_
   refine dP rfl (hC _ _ aY aY) ?_
   repeat refine iI ?_
   (refine aU rfl (hM _ _ hge aY aY) ?_;rintro _ _ _ ⟨rfl,q3,c3,rfl,hc3,rfl⟩;refine aL ?_)
   rw [←aCL hpq hge]
   (refine lX rfl (lW (p:=pn) (k:=k) (by omega) hc3 hk3 aY) rfl rfl ?_;rintro _ _ _ ⟨rfl,rfl⟩;refine ⟨okK,?_⟩;refine aX (List.Mem.head _) (fun q2 c2 e__ hc2 hz2=>?_);subst e__)
   unfold iv
   repeat refine iI ?_
   refine bA (cs:=[.bool (B (sg pn (m - n) < 0)), .slice q2 (gr (sg pn (m - n)).natAbs).length c2]) (.inl rfl) rfl rfl aY rfl _ _ bX bV ⟨rfl,rfl⟩
  ·have hcv:=zO (x:=(m:Int)) (y:=(n:Int)) (by omega)
   have hk3:n - m≤2 ^ k:=by omega
   have hl3:=gL hk3 hk2
   have hs:sg pn m+sg qn n=sg qn (n - m):=by rw [Int.add_comm,←aCL (fun h=>hpq h.symm) (by omega)]
   repeat refine iI ?_
   refine dP rfl (hC _ _ aY aY) ?_
   repeat refine iI ?_
   (refine aU rfl (hM2 _ _ (by omega) aY aY) ?_;rintro _ _ _ ⟨rfl,q3,c3,rfl,hc3,rfl⟩;refine aL ?_)
   rw [hs]
   (refine lX rfl (lW (p:=qn) (k:=k) (by omega) hc3 hk3 aY) rfl rfl ?_;rintro _ _ _ ⟨rfl,rfl⟩;refine ⟨okK,?_⟩;refine aX (List.Mem.head _) (fun q2 c2 e__ hc2 hz2=>?_);subst e__)
   unfold iv
   repeat refine iI ?_
   refine bA (cs:=[.bool (B (sg qn (n - m) < 0)), .slice q2 (gr (sg qn (n - m)).natAbs).length c2]) (.inl rfl) rfl rfl aY rfl _ _ bX bV ⟨rfl,rfl⟩
theorem aUL {u v:Value} {y z:Int} {k m c:Nat} (hk:k≤1000000000000) (hm:m≤1000000000000) (hc0:c≤1000000000000) (hs:2 ^ k+2 ^ m≤2 ^ c) (hu:iB u y k∈I0) (hv:iB v z m∈I0):CD Tryz.prog 73 [u,v] X w0 M0 I0 (fun v M I=>M0=M∧I=iB v (y+z) c::I0):=by
 refine dC hu (fun q cq e hc hy=>?_)
 subst e
 refine dC (List.Mem.tail _ hv) (fun q' cq' e hc' hz=>?_)
 subst e
 have hl:=gL hy (by omega)
 have hl':=gL hz (by omega)
 unfold iv
 refine eD Tryz.func73 rfl Tryz.ntmps73 rfl ?_
 refine fE ?_
 refine tyX rfl (fun b=>?_)
 refine tyX rfl (fun b2=>?_)
 refine bG (fun b3=>?_)
 repeat refine iI ?_
 (repeat refine aJ ?_);refine aO 3 [0,1,2,4,5,6,3,7,8,9] [3,2,2,3,2,2,0,0,0,0] mixed (by kernel_rfl) ?_
 repeat refine iI ?_
 refine dP rfl (iF (c:=cq) hy (by omega) aY) ?_
 repeat refine iI ?_
 refine dP rfl (iF (c:=cq') hz (by omega) aY) ?_
 repeat refine iI ?_
 have hyz:y.natAbs+z.natAbs≤2 ^ c:=Nat.le_trans (Nat.add_le_add hy hz) hs
 have hS:=fun M0 I0=>bAV (X:=X) (w0:=w0) (M0:=M0) (I0:=I0) (p:=q) (q:=q') (cp:=cq) (cq:=cq') (pn:=y < 0) (qn:=z < 0) (k:=c) (by omega) (by omega) hyz hc0
 simp only [sK] at hS
 (refine lX rfl (hS _ _ aY aY) rfl rfl ?_;rintro _ _ _ ⟨rfl,rfl⟩;refine ⟨okK,?_⟩;refine aX (List.Mem.head _) (fun q2 c2 e__ hc2 hz2=>?_);subst e__)
 unfold iv
 repeat refine iI ?_
 refine bA (cs:=[.bool (B (y+z < 0)), .slice q2 (gr (y+z).natAbs).length c2]) (.inl rfl) rfl rfl aY rfl _ _ bX bV ⟨rfl,rfl⟩
end
end Go.Proofs.YtgpkjcmipiodcaaGreat
namespace Go.Proofs.YtgpkjcmipiodcaaGreat
open Go Go.Fx
section
variable {X:List Nat} {w0:World} {M0:List Ent} {I0:List aV}
theorem aGT {u v:Value} {y z:Int} {k0 m:Nat} (hk:k0≤500000000000) (hm:m≤500000000000) (hu:iB u y k0∈I0) (hv:iB v z m∈I0):CD Tryz.prog 133 [u,v] X w0 M0 I0 (fun v M I=>M0=M∧I=iB v (Int.gcd y z) (k0+m)::I0):=by
 refine dC hu (fun q cq e hc hy=>?_)
 subst e
 refine dC (List.Mem.tail _ hv) (fun q' cq' e hc' hz=>?_)
 subst e
 have hy2:y.natAbs≤2 ^ (k0+m):=Nat.le_trans hy (Nat.pow_le_pow_right (by decide) (by omega))
 have hz2:z.natAbs≤2 ^ (k0+m):=Nat.le_trans hz (Nat.pow_le_pow_right (by decide) (by omega))
 unfold iv
 refine eD Tryz.func133 rfl Tryz.ntmps133 rfl ?_
 refine fE ?_
 refine tyX rfl (fun b=>?_)
 refine tyX rfl (fun b2=>?_)
 refine bG (fun b3=>?_)
 repeat refine iI ?_
 (repeat refine aJ ?_);refine aO 3 [0,2,1,3,4,5] [1,1,0,0,0,0] mixed (by kernel_rfl) ?_
 repeat refine iI ?_
 refine dP rfl (iF (c:=cq) hy (by omega) aY) ?_
 repeat refine iI ?_
 refine dP rfl (iF (c:=cq') hz (by omega) aY) ?_
 repeat refine iI ?_
 refine eO [4] rfl (fun k G M I=>∃(a b:Nat) (pa pb:Option Addr) (ca cb:Nat),k=b∧a≤2 ^ (k0+m)∧b≤2 ^ (k0+m)∧rR pa a ca∧rR pb b cb∧Nat.gcd a b=Nat.gcd y.natAbs z.natAbs∧G=[(5, .slice pa (gr a).length ca),(6, .slice pb (gr b).length cb)]∧M= .blk b3 [.bool false, .slice none 0 0] 38::M0∧I=aI pa (recs eG (gr a))::aI pb (recs eG (gr b))::I0) (z.natAbs) _ _ _ dS bX bV (⟨y.natAbs,z.natAbs,q,q',cq,cq',rfl,hy2,hz2,hc,hc',rfl,rfl,rfl,rfl⟩) ?_
 rintro k G M I ⟨a,b',pa,pb,ca,cb,rfl,ha,hb,oa,ob,hg,rfl,rfl,rfl⟩
 have la:=dX ha
 have lb:=dX hb
 have hW1:=fun M0 I0=>aCC (X:=X) (w0:=w0) (M0:=M0) (I0:=I0) (q:=pa) (n:=a) (c:=ca) (by omega)
 have hW2:=fun M0 I0=>aCC (X:=X) (w0:=w0) (M0:=M0) (I0:=I0) (q:=pb) (n:=k) (c:=cb) (by omega)
 by_cases hk0:k=0
 ·subst hk0
  have hl0:(gr 0).length=0:=by rw [fO];rfl
  rw [Nat.gcd_zero_right] at hg
  have hz:(Int.gcd y z:Int)=sg False a:=by unfold sg;rw [if_neg (fun h=>h),hg];rfl
  repeat refine iI ?_
  (refine aU rfl (aAQ (a:=gr a) (by omega) oa.2 aY) ?_;rintro _ _ _ ⟨rfl,q',c',rfl,rfl⟩;refine aL ?_)
  refine qK (fun w hw=>And.intro (hw.rowLe (List.Mem.head _)) ((hw.rowS (List.Mem.head _)).2.imp id And.right)) (fun hc'=>?_)
  refine gW yI ?_
  repeat refine iI ?_
  rw [hz]
  have hMd:=fun M0 I0=>lW (X:=X) (w0:=w0) (M0:=M0) (I0:=I0) (p:=False) (q:=q') (c:=c') (k:=k0+m) (by omega) hc' ha
  simp only [bF (show ¬False from id)] at hMd
  (refine lX rfl (hMd _ _ aY) rfl rfl ?_;rintro _ _ _ ⟨rfl,rfl⟩;refine ⟨okK,?_⟩;refine aX (List.Mem.head _) (fun q2 c2 e__ hc2 hz2=>?_);subst e__)
  unfold iv
  repeat refine iI ?_
  refine bA (cs:=[.bool (B (sg False a < 0)), .slice q2 (gr (sg False a).natAbs).length c2]) (.inl rfl) rfl rfl aY rfl _ _ bX bV ⟨rfl,rfl⟩
 ·have hlk:0 < (gr k).length:=List.length_pos_iff.2 (fun e=>hk0 (nD.1 e))
  by_cases hw:(gr a).length≤2∧(gr k).length≤2
  ·have hb9:∀t:Nat,(gr t).length≤2→t < 1000000000000000000:=fun t ht=>by
    have:=jG (bK t)
    rw [bT] at this
    have h2:(1000000000:Int) ^ (gr t).length≤1000000000 ^ 2:=oG ht
    omega
   have a9:=hb9 a hw.1
   have k9:=hb9 k hw.2
   rw [if_pos hw.1,cB hw.1] at hW1
   rw [if_pos hw.2,cB hw.2] at hW2
   repeat refine iI ?_
   refine dP rfl (hW1 _ _ aY) ?_
   repeat refine iI ?_
   refine dP rfl (hW2 _ _ aY) ?_
   repeat refine iI ?_
   refine eO [4] rfl (fun k G M I=>∃(x x2:Nat),k=x2∧x < 1000000000000000000∧x2 < 1000000000000000000∧x≤2 ^ (k0+m)∧x2≤2 ^ (k0+m)∧Nat.gcd x x2=Nat.gcd y.natAbs z.natAbs∧G=[(7, .int .u64 x),(9, .int .u64 x2)]∧M= .blk b3 [.bool false, .slice none 0 0] 38::M0∧I0=I) (k) _ _ _ dS bX bV (⟨a,k,rfl,a9,k9,ha,hb,hg,rfl,rfl,rfl⟩) ?_
   rintro k G M I ⟨x,x2,rfl,hx9,hx29,hx,hx2,hxg,rfl,rfl,rfl⟩
   by_cases hx0:k=0
   ·subst hx0
    rw [Nat.gcd_zero_right] at hxg
    have hz:(Int.gcd y z:Int)=sg False x:=by unfold sg;rw [if_neg (fun h=>h),hxg];rfl
    repeat refine iI ?_
    (refine aU rfl (tY (n:=x) (by omega)) ?_;rintro _ _ _ ⟨rfl,q',c',rfl,hc',rfl⟩;refine aL ?_)
    rw [hz]
    have hMd:=fun M0 I0=>lW (X:=X) (w0:=w0) (M0:=M0) (I0:=I0) (p:=False) (q:=q') (c:=c') (k:=k0+m) (by have:=dX hx;omega) hc' hx
    simp only [bF (show ¬False from id)] at hMd
    (refine lX rfl (hMd _ _ aY) rfl rfl ?_;rintro _ _ _ ⟨rfl,rfl⟩;refine ⟨okK,?_⟩;refine aX (List.Mem.head _) (fun q2 c2 e__ hc2 hz2=>?_);subst e__)
    unfold iv
    repeat refine iI ?_
    refine bA (cs:=[.bool (B (sg False x < 0)), .slice q2 (gr (sg False x).natAbs).length c2]) (.inl rfl) rfl rfl aY rfl _ _ bX bV ⟨rfl,rfl⟩
   ·have e2:((x:Int)).tmod (k:Int)=((x % k:Nat):Int):=by rw [Int.tmod_eq_emod_of_nonneg (by omega),Int.natCast_emod]
    have hmod:=Nat.mod_lt x (show k>0 by omega)
    have hg2:Nat.gcd k (x % k)=Nat.gcd y.natAbs z.natAbs:=by rw [←hxg,Nat.gcd_comm x k,Nat.gcd_rec k x,Nat.gcd_comm]
    repeat refine iI ?_
    (repeat refine aJ ?_);refine gG [0,1,2,3,4,5] [0,0,0,0,0,0] mixed (by kernel_rfl) ?_
    repeat refine iI ?_
    rw [e2]
    refine bY (x % k) _ _ _ (by first|omega|(simp only [List.length_append,List.length_cons,List.length_nil];omega)) dS bX bV (⟨k,x % k,rfl,by omega,by omega,hx2,by omega,hg2,rfl,rfl,rfl⟩)
  ·have hO:=fun M0 I0=>aHJ (X:=X) (w0:=w0) (M0:=M0) (I0:=I0) (p:=pa) (q:=pb) (m:=a) (n:=k) (cp:=ca) (cq:=cb) (by omega) (by omega) (by omega) oa
   have hmod:=Nat.mod_lt a (show k>0 by omega)
   have hg2:Nat.gcd k (a % k)=Nat.gcd y.natAbs z.natAbs:=by rw [←hg,Nat.gcd_comm a k,Nat.gcd_rec k a,Nat.gcd_comm]
   by_cases hw1:(gr a).length≤2
   ·have hw2:¬(gr k).length≤2:=fun h=>hw ⟨hw1,h⟩
    rw [if_pos hw1,cB hw1] at hW1
    rw [if_neg hw2,bF hw2] at hW2
    repeat refine iI ?_
    refine dP rfl (hW1 _ _ aY) ?_
    repeat refine iI ?_
    refine dP rfl (hW2 _ _ aY) ?_
    repeat refine iI ?_
    (refine aU rfl (hO _ _ aY aY) ?_;rintro _ _ _ ⟨rfl,p1,c1,p2,c2,ho1,ho2,rfl,rfl⟩;refine aL ?_)
    repeat refine iI ?_
    refine bY (a % k) _ _ _ (by first|omega|(simp only [List.length_append,List.length_cons,List.length_nil];omega)) dS bX bV (⟨k,a % k,pb,p2,cb,c2,rfl,hb,by omega,ob,ho2,hg2,rfl,rfl,rfl⟩)
   ·rw [if_neg hw1,bF hw1] at hW1
    repeat refine iI ?_
    refine dP rfl (hW1 _ _ aY) ?_
    repeat refine iI ?_
    refine dP rfl (hW2 _ _ aY) ?_
    repeat refine iI ?_
    (refine aU rfl (hO _ _ aY aY) ?_;rintro _ _ _ ⟨rfl,p1,c1,p2,c2,ho1,ho2,rfl,rfl⟩;refine aL ?_)
    repeat refine iI ?_
    refine bY (a % k) _ _ _ (by first|omega|(simp only [List.length_append,List.length_cons,List.length_nil];omega)) dS bX bV (⟨k,a % k,pb,p2,cb,c2,rfl,hb,by omega,ob,ho2,hg2,rfl,rfl,rfl⟩)
end
end Go.Proofs.YtgpkjcmipiodcaaGreat
namespace Go.Proofs.YtgpkjcmipiodcaaGreat
open Go Go.Fx
theorem aOZ {y z:Int} (h:y.sign≠z.sign):fP y.sign z.sign=fP y z:=by
 unfold fP
 rcases Int.lt_trichotomy y 0 with hy|hy|hy <;>rcases Int.lt_trichotomy z 0 with hz|hz|hz <;>
  simp_all [Int.sign_eq_one_of_pos,Int.sign_eq_neg_one_of_neg] <;>omega
theorem aVT {y z:Int} (h:y.sign=z.sign):fP y z=if y < 0 then -fP y.natAbs z.natAbs else fP y.natAbs z.natAbs:=by
 have h1:y < 0↔z < 0:=by rw [←Int.sign_eq_neg_one_iff_neg,←Int.sign_eq_neg_one_iff_neg,h]
 unfold fP
 by_cases hy:y < 0
 ·have hz:=h1.1 hy
  rw [if_pos hy]
  split <;>split <;>(try split) <;>(try split) <;>omega
 ·have hz:¬z < 0:=fun hz=>hy (h1.2 hz)
  rw [if_neg hy]
  split <;>split <;>(try split) <;>(try split) <;>omega
section
variable {X:List Nat} {w0:World} {M0:List Ent} {I0:List aV}
theorem yG {u v:Value} {y z:Int} {k m:Nat} (hk:k≤1000000000000) (hm:m≤1000000000000) (hu:iB u y k∈I0) (hv:iB v z m∈I0):CD Tryz.prog 95 [u,v] X w0 M0 I0 (fun v M I=>M0=M∧I0=I∧v= .int .i64 (fP y z)):=by
 have hS1:=fun M0 I0 h=>oC (X:=X) (w0:=w0) (M0:=M0) (I0:=I0) (u:=u) (z:=y) hk h
 have hS2:=fun M0 I0 h=>oC (X:=X) (w0:=w0) (M0:=M0) (I0:=I0) (u:=v) (z:=z) hm h
 refine dC hu (fun q cq e hc hy=>?_)
 subst e
 refine dC (List.Mem.tail _ hv) (fun q' cq' e hc' hz=>?_)
 subst e
 have hl:=gL hy hk
 have hl':=gL hz hm
 unfold iv at*
 refine eD Tryz.func95 rfl Tryz.ntmps95 rfl ?_
 refine fE ?_
 refine tyX rfl (fun b=>?_)
 refine tyX rfl (fun b2=>?_)
 repeat refine iI ?_
 (repeat refine aJ ?_);refine gG [0,2,1,3,4,5] [1,1,0,0,0,0] mixed (by kernel_rfl) ?_
 repeat refine iI ?_
 refine dP rfl (hS1 _ _ aY) ?_
 repeat refine iI ?_
 refine dP rfl (hS2 _ _ aY) ?_
 by_cases hs:y.sign=z.sign
 ·have hca:=aVT hs
  repeat refine iI ?_
  (repeat refine aJ ?_);refine gG [0,2,1,3,4,5] [2,2,0,0,0,0] mixed (by kernel_rfl) ?_
  repeat refine iI ?_
  refine dP rfl (iF (c:=cq) hy hk aY) ?_
  repeat refine iI ?_
  refine dP rfl (iF (c:=cq') hz hm aY) ?_
  repeat refine iI ?_
  refine dP rfl (uQ (by omega) (by omega) aY aY) ?_
  have hcb: -1≤fP (y.natAbs:Int) z.natAbs∧fP (y.natAbs:Int) z.natAbs≤1:=by unfold fP;split <;>(try split) <;>omega
  by_cases hy0:y < 0
  ·rw [if_pos hy0] at hca
   rw [hca]
   generalize fP (y.natAbs:Int) z.natAbs=cv at*
   repeat refine iI ?_
   refine aH (by first|exact .inl rfl|exact .inr rfl) rfl rfl _ _ bX bV (⟨rfl,rfl,congrArg (Value.int .i64) (by omega)⟩)
  ·rw [if_neg hy0] at hca
   rw [hca]
   generalize fP (y.natAbs:Int) z.natAbs=cv at*
   repeat refine iI ?_
   refine aH (by first|exact .inl rfl|exact .inr rfl) rfl rfl _ _ bX bV (⟨rfl,rfl,rfl⟩)
 ·rw [←aOZ hs]
  repeat refine iI ?_
  (refine aU rfl (CD.same (fun w _=>aSI _ _ _)) ?_;rintro _ _ _ ⟨rfl,rfl,rfl⟩;refine aL ?_)
  repeat refine iI ?_
  refine aH (by first|exact .inl rfl|exact .inr rfl) rfl rfl _ _ bX bV (⟨rfl,rfl,rfl⟩)
end
end Go.Proofs.YtgpkjcmipiodcaaGreat
namespace Go.Proofs.YtgpkjcmipiodcaaGreat
open Go Go.Fx
theorem aJV {x:Int} (h: -9223372036854775808≤x∧x < 0):IntKind.u64.wrap x=x+18446744073709551616:=by
 simp [IntKind.wrap,IntKind.bits,IntKind.signed];omega
section
variable {X:List Nat} {w0:World} {M0:List Ent} {I0:List aV}
theorem Of_ok {x:Int} (hx:0≤x∧x≤9223372036854775807):CD Tryz.prog 71 [.int .i64 x] X w0 M0 I0 (fun v M I=>M0=M∧I=iB v x 63::I0):=by
 obtain ⟨n,rfl⟩:∃n:Nat,x=(n:Int):=⟨x.toNat,by omega⟩
 have hn:n≤2 ^ 63:=by omega
 have hsg:((n:Nat):Int)=sg False n:=by unfold sg;rw [if_neg (fun h=>h)]
 refine eD Tryz.func71 rfl Tryz.ntmps71 rfl ?_
 refine fE ?_
 refine bG (fun b=>?_)
 repeat refine iI ?_
 (refine aU rfl (tY (n:=n) (by omega)) ?_;rintro _ _ _ ⟨rfl,q',c',rfl,hc',rfl⟩;refine aL ?_)
 have hMd:=fun M0 I0=>lW (X:=X) (w0:=w0) (M0:=M0) (I0:=I0) (p:=((n:Nat):Int) < 0) (q:=q') (c:=c') (k:=63) (by have:=dX hn;omega) hc' hn
 have hs2:sg (((n:Nat):Int) < 0) n=(n:Int):=by unfold sg;rw [if_neg (by omega)]
 simp only [hs2] at hMd
 (refine lX rfl (hMd _ _ aY) rfl rfl ?_;rintro _ _ _ ⟨rfl,rfl⟩;refine ⟨okK,?_⟩;refine aX (List.Mem.head _) (fun q2 c2 e__ hc2 hz2=>?_);subst e__)
 unfold iv
 repeat refine iI ?_
 refine bA (cs:=[.bool (B (((n:Nat):Int) < 0)), .slice q2 (gr ((n:Nat):Int).natAbs).length c2]) (.inl rfl) rfl rfl aY rfl _ _ bX bV ⟨rfl,rfl⟩
end
end Go.Proofs.YtgpkjcmipiodcaaGreat
