/- fiducialref01: parts fiducialref01: the numbers: Valid, Value, Neg, Sign, Add, Sub, Mul, C -/
import Derived.Test.YtgpkjcmipiodcaaGreatZwao
import Derived.Test.YtgpkjcmipiodcaaGreatZwak
import Derived.Test.YtgpkjcmipiodcaaGreatZwam
import Derived.Test.YtgpkjcmipiodcaaGreatZwal
set_option linter.unusedSimpArgs false
set_option linter.unusedVariables false
set_option maxRecDepth 100000
set_option maxHeartbeats 4000000
namespace Go.Proofs.YtgpkjcmipiodcaaGreat
open Go Go.Fx
theorem aKV {a' qs:List Int} {j R R1 R2 g Bn:Nat} (hj:j < a'.length) (hjq:j < qs.length) (hv:val (a'.drop (j+1))=(Bn:Int)*val (qs.drop (j+1))+R) {d:Nat} (hd:gt a' (j:Int)=(d:Int)) (h1:R1=R*1000000000+d) (h2:R1=g*Bn+R2):
  val (a'.drop j)=(Bn:Int)*val ((st qs (j:Int) (g:Int)).drop j)+R2:=by
 rw [rY,uJ a' j hj,drop_set qs j _ hjq,←xR,hd,hv]
 simp only [val]
 have h3:((g*Bn+R2:Nat):Int)=((R*1000000000+d:Nat):Int):=by rw [←h2,h1]
 simp only [Int.natCast_add,Int.natCast_mul] at h3
 grind
theorem aQK {a' qs:List Int} {m n f R:Nat} (hf:0 < f) (hn:0 < n) (va:val a'=((m*f:Nat):Int)) (hv:val a'=((n*f:Nat):Int)*val qs+R) (hR:R < n*f) (hq:Dig qs):val qs=((m / n:Nat):Int)∧R=(m % n)*f:=by
 obtain ⟨Q,hQ⟩:∃Q:Nat,val qs=(Q:Int):=⟨(val qs).toNat,by have:=bQ hq;omega⟩
 rw [hQ,va] at hv
 have e:m*f=n*f*Q+R:=by exact_mod_cast hv
 have e1:m*f / (n*f)=Q:=by rw [e,Nat.mul_add_div (by exact Nat.mul_pos hn hf),Nat.div_eq_of_lt hR,Nat.add_zero]
 have e2:m*f % (n*f)=R:=by rw [e,Nat.mul_add_mod,Nat.mod_eq_of_lt hR]
 rw [Nat.mul_div_mul_right _ _ hf] at e1
 rw [Nat.mul_mod_mul_right] at e2
 exact ⟨by rw [hQ,e1],e2.symm⟩
section
variable {X:List Nat} {w0:World} {M0:List Ent} {I0:List aV}
theorem aPP {p q:Option Addr} {m n cp cq:Nat} (hm:(gr m).length≤50000000000) (hn1:(gr n).length=1) (hp:aI p (recs eG (gr m))∈I0) (hq:aI q (recs eG (gr n))∈I0):
  CD Tryz.prog 163 [.slice p (gr m).length cp, .slice q (gr n).length cq] X w0 M0 I0 (QrP (m / n) (m % n) M0 I0):=by
 have hn0:0 < n:=by
  rcases Nat.eq_zero_or_pos n with h|h
  ·rw [h,fO] at hn1;simp at hn1
  ·exact h
 have hnb:n < 1000000000:=by
  have:=jG (bK n)
  rw [bT,hn1] at this
  omega
 have hgt:gt (gr n) 0=(n:Int):=by rw [vX hn0 hnb];rfl
 have hS:=fun M0 I0=>aFC (X:=X) (w0:=w0) (M0:=M0) (I0:=I0) (q:=p) (n:=m) (c:=cp) (d:=n) (by omega) ⟨hn0,hnb⟩
 have hr:=Nat.mod_lt m hn0
 have hvr:val [((m % n:Nat):Int)]=((m % n:Nat):Int):=by simp [val]
 have hdr:Dig [((m % n:Nat):Int)]:=by rw [Dig.cons];exact ⟨by omega,Dig.nil⟩
 refine aP Tryz.func163 rfl Tryz.ntmps163 rfl ?_
 repeat refine aW ?_
 rw [hgt]
 repeat refine aW ?_
 (refine aU rfl (hS _ _ aA) ?_;rintro _ _ _ ⟨rfl,p1,c1,hc1,rfl,rfl⟩;refine aL ?_)
 repeat refine aW ?_
 refine lL (cs:=recs eG [((m % n:Nat):Int)]) ([.int .u32 ((m % n:Nat):Int)]) rfl (fun b1=>?_)
 refine aC uB ?_
 (refine aU rfl (oL (l:=[((m % n:Nat):Int)]) (by simp) (Nat.le_refl 1) (.inl (Ok.mk _ _)) hdr hvr aA) ?_;rintro _ _ _ ⟨rfl,p2,c2,rfl,hc2,rfl⟩;refine aL ?_)
 repeat refine aW ?_
 refine tyS [4,5] rfl rfl (⟨rfl,p1,c1,p2,c2,hc1,hc2,rfl,rfl⟩)
theorem aRH {p q:Option Addr} {m n cp cq:Nat} (hm:(gr m).length≤50000000000) (hn:(gr n).length≤50000000000) (hn1:¬(gr n).length=1) (hlt:m < n) (hcp:rR p m cp) (hp:aI p (recs eG (gr m))∈I0) (hq:aI q (recs eG (gr n))∈I0):
  CD Tryz.prog 163 [.slice p (gr m).length cp, .slice q (gr n).length cq] X w0 M0 I0 (QrP (m / n) (m % n) M0 I0):=by
 have e1:m / n=0:=Nat.div_eq_of_lt hlt
 have e2:m % n=m:=Nat.mod_eq_of_lt hlt
 rw [e1,e2]
 unfold QrP
 simp only [fO]
 have hC:=fun M0 I0=>aAF (X:=X) (w0:=w0) (M0:=M0) (I0:=I0) (p:=p) (q:=q) (m:=m) (n:=n) (cp:=cp) (cq:=cq) (by omega) (by omega)
 rw [zO (by omega)] at hC
 refine aP Tryz.func163 rfl Tryz.ntmps163 rfl ?_
 repeat refine aW ?_
 refine dP rfl (hC _ _ aA aA) ?_
 repeat refine aW ?_
 refine lL (cs:=recs eG []) ([]) rfl (fun b1=>?_)
 refine aC uB ?_
 repeat refine aW ?_
 refine pI [4,5] (by first|exact .inl rfl|exact .inr rfl) rfl rfl rfl _ _ aG aF (⟨rfl,some ⟨b1,0,none⟩,0,p,cp,⟨by rw [fO];simp, .inl (Ok.mk _ _)⟩,hcp,rfl,rfl⟩)
theorem aRL {p q:Option Addr} {m n cp cq t:Nat} (hm:(gr m).length≤50000000000) (ht:(gr n).length=t+1) (ht1:¬(gr n).length=1) (hle:¬m < n) (hp:aI p (recs eG (gr m))∈I0) (hq:aI q (recs eG (gr n))∈I0):
  CD Tryz.prog 163 [.slice p (gr m).length cp, .slice q (gr n).length cq] X w0 M0 I0 (QrP (m / n) (m % n) M0 I0):=by
 have hn0:0 < n:=by
  rcases Nat.eq_zero_or_pos n with h|h
  ·rw [h,fO] at ht;simp at ht
  ·exact h
 have hlmn:(gr n).length≤(gr m).length:=fK (by omega)
 obtain ⟨bt,hbt,hbt1,hbt2⟩:=aSL (n:=n) (by omega)
 obtain ⟨f,hf1,hf2,ef⟩:=aJP (bt:=bt) ⟨hbt1,hbt2⟩
 have hf3:f*(bt+1)≤1000000000:=by
  have e:f=1000000000 / (bt+1):=by
   rw [Int.tdiv_eq_ediv_of_nonneg (by decide)] at ef
   have:((1000000000 / (bt+1):Nat):Int)=(f:Int):=by rw [←ef,Int.natCast_ediv];rfl
   omega
  rw [e];exact Nat.div_mul_le_self _ _
 have hlb:=aOV (n:=n) (by omega) hbt hf1 hf3
 have hla:=tL (m:=m) hf1 hf2
 have hlab:(gr (n*f)).length≤(gr (m*f)).length:=fK (Nat.mul_le_mul_right _ (by omega))
 have hC:=fun M0 I0=>aAF (X:=X) (w0:=w0) (M0:=M0) (I0:=I0) (p:=p) (q:=q) (m:=m) (n:=n) (cp:=cp) (cq:=cq) (by omega) (by omega)
 have hcv:=aAE (x:=(m:Int)) (y:=(n:Int)) (by omega)
 generalize fP (m:Int) (n:Int)=cv at*
 have hS1:=fun M0 I0=>yE (X:=X) (w0:=w0) (M0:=M0) (I0:=I0) (p:=p) (m:=m) (d:=f) (cp:=cp) (by omega) hf2
 have hS2:=fun M0 I0=>yE (X:=X) (w0:=w0) (M0:=M0) (I0:=I0) (p:=q) (m:=n) (d:=f) (cp:=cq) (by omega) hf2
 refine aP Tryz.func163 rfl Tryz.ntmps163 rfl ?_
 repeat refine aW ?_
 refine dP rfl (hC _ _ aA aA) ?_
 repeat refine aW ?_
 rw [hbt]
 repeat refine aW ?_
 rw [ef]
 repeat refine aW ?_
 (refine aU rfl (hS1 _ _ aA) ?_;rintro _ _ _ ⟨rfl,pa,ca,rfl,hca,rfl⟩;refine aL ?_)
 repeat refine aW ?_
 (refine aU rfl (hS2 _ _ aA) ?_;rintro _ _ _ ⟨rfl,pb,cb,rfl,hcb,rfl⟩;refine aL ?_)
 repeat refine aW ?_
 rw [ht] at hlb hlmn
 clear hS1 hS2 hC hp hq ef hf3 hbt
 have vA:=bT (m*f)
 have dA:=bK (m*f)
 have hla3:(gr (m*f)).length≤50000000001:=by omega
 clear hla
 have hmf0:0 < n*f:=Nat.mul_pos hn0 hf1
 obtain ⟨An,hAn⟩:∃A,m*f=A:=⟨_,rfl⟩
 obtain ⟨Bn,hBn⟩:∃A,n*f=A:=⟨_,rfl⟩
 rw [hAn] at vA dA hca hlab hla3 ⊢
 rw [hBn] at hcb hlb hlab hmf0 ⊢
 obtain ⟨hca1,hca2⟩:=hca
 have hokA:Ok pa:=hca2.resolve_right (fun h=>by omega)
 obtain ⟨La,hLa⟩:∃L,(gr An).length=L:=⟨_,rfl⟩
 obtain ⟨A',hA'⟩:∃A,gr An=A:=⟨_,rfl⟩
 rw [ht,hLa]
 rw [hLa] at hlab hla3 hca1
 rw [hlb] at hlab
 rw [hA'] at vA dA hLa ⊢
 have hdl:(A'.drop (La - t)).length=t:=by rw [List.length_drop];omega
 have hd0:=dA.drop (La - t)
 obtain ⟨R0,hR0⟩:∃R:Nat,val (A'.drop (La - t))=(R:Int):=⟨(val (A'.drop (La - t))).toNat,by have:=bQ hd0;omega⟩
 have hR0l:R0 < Bn:=by
  have h1:=jG hd0
  rw [hdl,hR0] at h1
  have h2:=aAU (wT Bn) (by omega)
  rw [hlb,bT,Nat.add_sub_cancel] at h2
  omega
 refine aYR (a:=pa) (ms:=A') ca (La - t) La aA (by omega) ?_
 rw [List.take_of_length_le (show A'.length≤La by omega)]
 refine aD rfl (fun _=>aFK (e:=181) (sz:=1) (La - t) La t rfl (.inr ⟨_,_,_,rfl,rfl,by omega⟩) (.inl ⟨rfl,rfl⟩) (by omega) (by omega) (by omega)) rfl rfl ?_
 have hM:=fun M0 I0=>oL (X:=X) (w0:=w0) (M0:=M0) (I0:=I0) (q:=aET pa ca (La - t) 1) (l:=A'.drop (La - t)) (c:=ca - (La - t)) (by omega) (by omega) (.inl (aZU hokA)) hd0 hR0
 rw [hdl] at hM
 (refine aU rfl (hM _ _ aA) ?_;rintro _ _ _ ⟨rfl,pr0,cr0,rfl,hcr0,rfl⟩;refine aL ?_)
 repeat refine aW ?_
 (refine lM (La - t) rfl rfl (by omega) (by omega) (by omega) (by omega) (nT _ _) rfl rfl ?_;intro bq;refine aL ?_)
 repeat refine aW ?_
 obtain ⟨gB,hgB⟩:∃L,gr Bn=L:=⟨_,rfl⟩
 have hz0:(List.replicate (La - t) (0:Int)).drop (La - t)=[]:=List.drop_of_length_le (by simp)
 have hlgB:gB.length=t+1:=by rw [←hgB];exact hlb
 refine eO [0,1,6,9,11] rfl (fun k G M I=>∃(i:Nat) (x:Int) (R:Nat) (qs:List Int) (pr:Option Addr) (cr:Nat),i≤La - t∧k=i∧x=(i:Int) - 1∧qs.length=La - t∧Dig qs∧R < Bn∧rR pr R cr∧val (A'.drop i)=(Bn:Int)*val (qs.drop i)+R∧G=[(10, .slice pr (gr R).length cr),(12, .int .i64 x)]∧M= .blk bq (recs eG qs) 181::M0∧I=aI pr (recs eG (gr R))::aI pb (recs eG (gr Bn))::aI pa (recs eG A')::I0) (La - t) _ _ _ dS aG aF (⟨La - t,_,R0,_,pr0,cr0,by omega,rfl,by omega,by simp,Dig.zeros _,hR0l,hcr0,by rw [hR0,hz0];simp [val],rfl,rfl,rfl⟩) ?_
 rintro k G M I ⟨i,x,R,qs,pr,cr,hi,rfl,hx,hql,hdq,hRl,hcr,hv,rfl,rfl,rfl⟩
 have hlR:(gr R).length≤t+1:=by rw [←hlb];exact fK (by omega)
 by_cases h0:k=0
 ·subst h0
  rw [List.drop_zero,List.drop_zero] at hv
  rw [←hBn] at hv hRl
  obtain ⟨hq1,hr1⟩:=aQK hf1 hn0 (by rw [vA,hAn]) hv hRl hdq
  have hS:=fun M0 I0=>aFC (X:=X) (w0:=w0) (M0:=M0) (I0:=I0) (q:=pr) (n:=R) (c:=cr) (d:=f) (by omega) ⟨hf1,hf2⟩
  have e1:R / f=m % n:=by rw [hr1,Nat.mul_div_cancel _ hf1]
  rw [e1] at hS
  have hM2:=fun M0 I0=>oL (X:=X) (w0:=w0) (M0:=M0) (I0:=I0) (q:=some ⟨bq,0,none⟩) (c:=La - t) (by omega) (by omega) (.inl (Ok.mk _ _)) hdq hq1
  rw [hql] at hM2
  repeat refine aW ?_
  (refine aU rfl (hS _ _ aA) ?_;rintro _ _ _ ⟨rfl,p2,c2,hc2,rfl,rfl⟩;refine aL ?_)
  repeat refine aW ?_
  refine aC (b:=bq) uB ?_
  (refine aU rfl (hM2 _ _ aA) ?_;rintro _ _ _ ⟨rfl,p1,c1,rfl,hc1,rfl⟩;refine aL ?_)
  repeat refine aW ?_
  refine tyS [4,5] rfl rfl (⟨rfl,p1,c1,p2,c2,hc1,hc2,rfl,rfl⟩)
 ·obtain ⟨j,rfl⟩:∃j,k=j+1:=⟨k - 1,by omega⟩
  obtain rfl:x=(j:Int):=by omega
  have d1:=dA.gt j
  obtain ⟨d,hd⟩:∃d:Nat,gt A' (j:Int)=(d:Int):=⟨(gt A' (j:Int)).toNat,by omega⟩
  rw [hd] at d1
  have hSh:=fun M0 I0=>aKN (X:=X) (w0:=w0) (M0:=M0) (I0:=I0) (p:=pr) (m:=R) (d:=d) (cp:=cr) (by omega) (by omega) hcr
  obtain ⟨R1,hR1⟩:∃R1,R1=R*1000000000+d:=⟨_,rfl⟩
  rw [←hR1] at hSh
  have hR1l:R1 < Bn*1000000000:=by
   have:(R+1)*1000000000≤Bn*1000000000:=Nat.mul_le_mul_right _ hRl
   omega
  obtain ⟨g,hg1,hg2,hg3⟩:=aJS hlb hR1l
  have q1:=aEB (n:=R1) (i:=t+1)
  have q2:=aEB (n:=R1) (i:=t)
  have q3:=aEB (n:=Bn) (i:=t)
  have hG1:=fun (pp:Option Addr) (cc:Nat) M0 I0=>qP (X:=X) (w0:=w0) (M0:=M0) (I0:=I0) (q:=pp) (l:=gr R1) (n:=(gr R1).length) (c:=cc) (i:=((t+1:Nat):Int)) rfl (by omega)
  have hG2:=fun (pp:Option Addr) (cc:Nat) M0 I0=>qP (X:=X) (w0:=w0) (M0:=M0) (I0:=I0) (q:=pp) (l:=gr R1) (n:=(gr R1).length) (c:=cc) (i:=(t:Int)) rfl (by omega)
  have hSc:=fun M0 I0=>yE (X:=X) (w0:=w0) (M0:=M0) (I0:=I0) (p:=pb) (m:=Bn) (d:=g) (cp:=cb) (by omega) hg3
  have hlR1:(gr R1).length≤t+2:=by
   have h1:=(tL (m:=Bn) (f:=999999999) (by omega) (by omega)).2
   refine lQ ?_
   have h2:=jG (bK Bn)
   rw [bT,hlb] at h2
   have h3:(R1:Int) < ((1000000000 ^ (t+2):Nat):Int):=by
    rw [Int.natCast_pow,show t+2=(t+1)+1 from rfl,Int.pow_succ]
    have:((R1:Nat):Int) < (Bn:Int)*1000000000:=by omega
    have h5:(Bn:Int)*1000000000≤1000000000 ^ (t+1)*1000000000:=by omega
    exact Int.lt_of_lt_of_le this h5
   omega
  have hMi:=fun (pp pp':Option Addr) (cc cc':Nat) M0 I0=>xJ (X:=X) (w0:=w0) (M0:=M0) (I0:=I0) (p:=pp) (q:=pp') (m:=R1) (n:=Bn*g) (cp:=cc) (cq:=cc') (by omega) (by rw [Nat.mul_comm];exact hg2)
  obtain ⟨Rg,hRg⟩:∃x,x=R1 - Bn*g:=⟨_,rfl⟩
  rw [←hRg] at hMi
  have hRg2:R1=g*Bn+Rg:=by rw [hRg,Nat.mul_comm Bn g];omega
  have et:((t+1:Nat):Int) - 1=(t:Int):=by omega
  have q4:0≤gt (gr Bn) (((t+1:Nat):Int) - 1)∧gt (gr Bn) (((t+1:Nat):Int) - 1) < 1000000000:=by rw [et];exact q3
  repeat refine aW ?_
  rw [hd]
  (refine aU rfl (hSh _ _ aA) ?_;rintro _ _ _ ⟨rfl,p3,c3,rfl,hc3,rfl⟩;refine aL ?_)
  repeat refine aW ?_
  (repeat refine aJ ?_);refine gG [0,1,4,5,6,9,10,11,12,13,14,15,2,3,7,8,16,17] [1,1,1,2,1,2,2,2,2,2,2,2,0,1,0,0,0,0] mixed (by kernel_rfl) ?_
  repeat refine aW ?_
  rw [et]
  refine dP rfl (hG1 p3 c3 _ _ aA (bK R1)) ?_
  repeat refine aW ?_
  refine dP rfl (hG2 p3 c3 _ _ aA (bK R1)) ?_
  repeat refine aW ?_
  rw [hg1]
  repeat refine aW ?_
  (refine aU rfl (hSc _ _ aA) ?_;rintro _ _ _ ⟨rfl,p4,c4,rfl,hc4,rfl⟩;refine aL ?_)
  (refine aU rfl (hMi p3 p4 c3 c4 _ _ aA aA) ?_;rintro _ _ _ ⟨rfl,p5,c5,rfl,hc5,rfl⟩;refine aL ?_)
  repeat refine aW ?_
  clear hSh hSc hMi hG1 hG2
  refine eO [0,1,6,9,11,12] rfl (fun k G M I=>∃(R2 g2:Nat) (gi:Int) (p6:Option Addr) (c6:Nat),k=R2∧R1=g2*Bn+R2∧gi=g2∧rR p6 R2 c6∧G=[(10, .slice p6 (gr R2).length c6),(13, .int .u64 gi)]∧M= .blk bq (recs eG qs) 181::M0∧I=aI p6 (recs eG (gr R2))::aI pb (recs eG (gr Bn))::aI pa (recs eG A')::I0) (Rg) _ _ _ dS aG aF (⟨Rg,g,_,p5,c5,rfl,hRg2,rfl,hc5,rfl,rfl,rfl⟩) ?_
  rintro k G M I ⟨R2,g2,gi,p6,c6,rfl,hR2,hgi,hc6,rfl,rfl,rfl⟩
  have hg9:g2 < 1000000000:=by
   have h1:g2*Bn < 1000000000*Bn:=by omega
   exact Nat.lt_of_mul_lt_mul_right h1
  have hl2:(gr k).length≤t+2:=Nat.le_trans (fK (by omega)) hlR1
  have hSz:=fun M0 I0=>aAF (X:=X) (w0:=w0) (M0:=M0) (I0:=I0) (p:=p6) (q:=pb) (m:=k) (n:=Bn) (cp:=c6) (cq:=cb) (by omega) (by omega)
  by_cases hlt:k < Bn
  ·rw [zO (by omega)] at hSz
   repeat refine aW ?_
   refine dP rfl (hSz _ _ aA aA) ?_
   repeat refine aW ?_
   refine bY (j) _ _ _ (by first|omega|(simp only [List.length_append,List.length_cons,List.length_nil];omega)) dS aG aF (⟨j,(j:Int) - 1,k,_,p6,c6,by omega,rfl,by omega,by rw [dB];exact hql,by rw [rY];exact hdq.set _ (by omega),hlt,hc6,by rw [hgi];exact aKV (by omega) (by omega) hv hd hR1 hR2,rfl,rfl,rfl⟩)
  ·have hcv2:=aAE (x:=(k:Int)) (y:=(Bn:Int)) (by omega)
   generalize fP (k:Int) (Bn:Int)=cv2 at*
   have hMi2:=fun M0 I0=>xJ (X:=X) (w0:=w0) (M0:=M0) (I0:=I0) (p:=p6) (q:=pb) (m:=k) (n:=Bn) (cp:=c6) (cq:=cb) (by omega) (by omega)
   obtain ⟨R4,hR4⟩:∃x,x=k - Bn:=⟨_,rfl⟩
   rw [←hR4] at hMi2
   have hR3:R1=(g2+1)*Bn+R4:=by rw [Nat.add_mul];omega
   repeat refine aW ?_
   refine dP rfl (hSz _ _ aA aA) ?_
   repeat refine aW ?_
   (refine aU rfl (hMi2 _ _ aA aA) ?_;rintro _ _ _ ⟨rfl,p7,c7,rfl,hc7,rfl⟩;refine aL ?_)
   repeat refine aW ?_
   refine iC (R4) (⟨R4,g2+1,gi+1,p7,c7,rfl,hR3,by omega,hc7,rfl,rfl,rfl⟩)
theorem aJN {p q:Option Addr} {m n cp cq:Nat} (hm:(gr m).length≤50000000000) (hn0:(gr n).length≤50000000000) (hn:0 < n) (hcp:rR p m cp) (hp:aI p (recs eG (gr m))∈I0) (hq:aI q (recs eG (gr n))∈I0):
  CD Tryz.prog 163 [.slice p (gr m).length cp, .slice q (gr n).length cq] X w0 M0 I0 (QrP (m / n) (m % n) M0 I0):=by
 have h1:0 < (gr n).length:=List.length_pos_iff.2 (fun e=>by have:=nD.1 e;omega)
 by_cases hn1:(gr n).length=1
 ·exact aPP hm hn1 hp hq
 ·by_cases hlt:m < n
  ·exact aRH hm hn0 hn1 hlt hcp hp hq
  ·exact aRL (t:=(gr n).length - 1) hm (by omega) hn1 hlt hp hq
end
section
variable {X:List Nat} {w0:World} {M0:List Ent} {I0:List aV}
theorem aFO {neg:Bool} {q:Option Addr} {gs:List Int} {c:Nat} (hn:(gs.length:Int)≤9223372036854775807) (hq:aI q (recs eG gs)∈I0):
  CD Tryz.prog 113 [.agg #[.bool neg, .slice q gs.length c]] X w0 M0 I0 (fun v M I=>M0=M∧I0=I∧v= .bool (B (uN neg gs))):=by
 refine aZ Tryz.func113 rfl Tryz.ntmps113 rfl ?_
 refine fE ?_
 refine fG rfl (fun b=>?_)
 repeat refine aW ?_
 refine kS [1,3] rfl (fun k G M I=>∃i:Nat,i≤gs.length∧k=gs.length - i∧(∀j:Nat,j < i→gt gs (j:Int) < 1000000000)∧G=[(4, .int .i64 i)]∧M= .blk b [.bool neg, .slice q gs.length c] 38::M0∧I0=I) (gs.length) (⟨0,by omega,rfl,fun j hj=>by omega,rfl,rfl,rfl⟩) ?_
 rintro k G M I ⟨i,hi,rfl,hs,rfl,rfl,rfl⟩
 by_cases hin:i < gs.length
 ·repeat' (first|refine aW ?_|refine aQ rfl (fun h=>?_) (fun h=>?_)|refine aR rfl rfl (fun h=>?_) (fun h=>?_)|fail)
  ·have h1:=h
   have hF:¬uN neg gs:=by
    unfold uN
    rintro (⟨h2,_⟩|⟨_,_,h2⟩)
    ·rw [h2] at hin;simp at hin
    ·exact h2 ⟨gt gs (i:Int),(by rw [eU hin];exact List.getElem_mem hin),h1⟩
   rw [←bF hF]
   refine gD rfl rfl (⟨rfl,rfl,rfl⟩)
  ·refine iC (gs.length - (i+1)) (⟨i+1,by omega,rfl,fun j hj=>?_,rfl,rfl,rfl⟩)
   by_cases e:j=i
   ·subst e;omega
   ·exact hs j (by omega)
 ·obtain rfl:i=gs.length:=by omega
  by_cases h0:gs.length=0
  ·have hg:gs=[]:=List.eq_nil_of_length_eq_zero h0
   repeat refine aW ?_
   refine aH (by first|exact .inl rfl|exact .inr rfl) rfl rfl _ _ aG aF (⟨rfl,rfl,by rw [show (!neg)=B (uN neg gs) by rw [rZ,hg];cases neg <;>simp [uN]]⟩)
  ·have hgs:gs≠[]:=fun e=>h0 (by rw [e];rfl)
   have hlast:=aCH (gs:=gs) (by omega)
   repeat refine aW ?_
   refine gD rfl rfl (⟨rfl,rfl,congrArg Value.bool (gU ?_)⟩)
   unfold uN Top
   rw [hlast]
   refine ⟨fun h=> .inr ⟨hgs,h,?_⟩,fun h=>h.elim (fun h=>absurd h.1 hgs) (fun h=>h.2.1)⟩
   rintro ⟨x,hx,h9⟩
   obtain ⟨j,hj,rfl⟩:=List.mem_iff_getElem.1 hx
   have:=hs j hj
   rw [eU hj] at this
   omega
theorem tZ {p:Prop} [Decidable p] {q:Option Addr} {l:List Int} {n c k:Nat} (h63:l.length≤1000000000000) (hc:l.length≤c) (hok:Ok q∨(l.length=0∧c=0)) (hd:Dig l) (hv:val l=n) (hk:n≤2 ^ k) (hl:aI q (recs eG l)∈I0):
  CD Tryz.prog 164 [.bool (B p), .slice q l.length c] X w0 M0 I0 (fun v M I=>M0=M∧I=iB v (sg p n) k::I0):=
 CD.post (aGC h63 hc hok hd hv hl) (fun v M1 I1 w ⟨e1,q',c',e2,hc',e3⟩ hw=>by
  subst e1;subst e2;subst e3
  have ha:=aTN p n
  have hiv:iv q' c' (sg p n)= .agg #[.bool (B (p∧n≠0)), .slice q' (gr n).length c']:=by
   unfold iv
   rw [ha]
   refine congrArg (fun x=>Value.agg #[.bool x, .slice q' (gr n).length c']) (gU ?_)
   unfold sg
   by_cases hp:p
   ·rw [if_pos hp];constructor
    ·intro h;exact ⟨hp,by omega⟩
    ·intro h;have:=h.2;omega
   ·rw [if_neg hp];constructor
    ·intro h;omega
    ·intro h;exact absurd h.1 hp
  refine ⟨_,_,⟨rfl,rfl⟩,?_⟩
  have h1:=aGO (q:=q') (c:=c') (z:=sg p n) (k:=k) hw (by rw [ha];exact List.Mem.head _) (by rw [ha];exact hc') (by rw [ha];exact hk)
  rw [hiv] at h1
  exact h1.inc (Inc.cons (List.Mem.head _) (Inc.wk (Inc.wk Inc.refl))))
def VoP (z:Int) (M0:List Ent) (I0:List aV) (v:Value) (M:List Ent) (I:List aV):Prop:=M0=M∧∃q c,v= .agg #[.bool (B (z < 0)), .slice q (gr z.natAbs).length c]∧rR q z.natAbs c∧I=aI q (recs eG (gr z.natAbs))::I0
theorem lT {q:Option Addr} {c k:Nat} {z:Int} (hz:z.natAbs≤2 ^ k) (hk:k≤1000000000000) (hc:rR q z.natAbs c) (hq:aI q (recs eG (gr z.natAbs))∈I0):
  CD Tryz.prog 161 [.agg #[.bool (B (z < 0)), .slice q (gr z.natAbs).length c]] X w0 M0 I0 (VoP z M0 I0):=by
 have hl:=gL hz hk
 have hV:=fun M0 I0=>aFO (X:=X) (w0:=w0) (M0:=M0) (I0:=I0) (neg:=B (z < 0)) (q:=q) (gs:=gr z.natAbs) (c:=c) (by omega)
 rw [cB (aBE z)] at hV
 obtain ⟨hc1,hc2⟩:=hc
 refine aZ Tryz.func161 rfl Tryz.ntmps161 rfl ?_
 refine fE ?_
 refine fG rfl (fun b=>?_)
 refine bG (fun b2=>?_)
 repeat refine aW ?_
 refine dP rfl (hV _ _ aA) ?_
 repeat refine aW ?_
 (repeat refine aJ ?_);refine vT (.blk b [.bool (B (z < 0)), .slice q (gr z.natAbs).length c] 38::M0) (I0) [0,1,3,4,2,5,6,7] [2,2,2,1,0,0,0,0] mixed ?_
 repeat refine aW ?_
 refine lL (cs:=recs eG []) ([]) rfl (fun b1=>?_)
 refine jC (b:=b1) (mm:=0) 1 iN rfl (by omega) ?_
 refine oO (xs:=[]) (ys:=gr z.natAbs) 0 rfl rfl rfl (Src.imm aA hc2) (by decide) rfl (by simp;omega) (by simp;omega) rfl rfl ?_
 intro a2 c2
 refine aL ?_
 rw [List.nil_append]
 refine qK (fun w hw=>And.intro (hw.rowLe (List.Mem.head _)) ((hw.rowS (List.Mem.head _)).2.imp id And.right)) (fun ho3=>?_)
 refine gW uB ?_
 (refine aD rfl (fun _=>aK (pvs:=([.bool (B (z < 0)), .slice a2 (gr z.natAbs).length c2]).zipIdx.map (fun p=>(p.2,p.1))) (cells:=[.bool (B (z < 0)), .slice a2 (gr z.natAbs).length c2]) rfl rfl) rfl rfl ?_)
 repeat refine aW ?_
 refine bA (cs:=[.bool (B (z < 0)), .slice a2 (gr z.natAbs).length c2]) (.inl rfl) rfl rfl aA rfl M0 (aI a2 (recs eG (gr z.natAbs))::I0) aG aF ⟨rfl,a2,c2,rfl,ho3,rfl⟩
theorem yV {u:Value} {z:Int} {k:Nat} (hk:k≤1000000000000) (hu:iB u z k∈I0):CD Tryz.prog 114 [u] X w0 M0 I0 (fun v M I=>M0=M∧I0=I∧v= .int .i64 z.sign):=by
 refine dC hu (fun q c e hc hz=>?_)
 subst e
 unfold iv
 have hnil:(gr z.natAbs).length=0↔z=0:=by rw [List.length_eq_zero_iff,nD];omega
 refine aZ Tryz.func114 rfl Tryz.ntmps114 rfl ?_
 refine fE ?_
 refine fG rfl (fun b=>?_)
 repeat refine aW ?_
 (refine aU rfl (lT hz hk hc aA) ?_;rintro _ _ _ ⟨rfl,q2,c2,rfl,hc2,rfl⟩;refine aL ?_)
 by_cases h0:z=0
 ·have:=hnil.2 h0
  repeat refine aW ?_
  refine aH (by first|exact .inl rfl|exact .inr rfl) rfl rfl _ _ aG aF (⟨rfl,rfl,by rw [h0];rfl⟩)
 ·have:¬(gr z.natAbs).length=0:=fun h=>h0 (hnil.1 h)
  repeat' (first|refine aW ?_|refine aQ rfl (fun h=>?_) (fun h=>?_)|refine aR rfl rfl (fun h=>?_) (fun h=>?_)|fail)
  ·refine aH (by first|exact .inl rfl|exact .inr rfl) rfl rfl _ _ aG aF (⟨rfl,rfl,by rw [Int.sign_eq_neg_one_of_neg (by assumption)]⟩)
  ·refine aH (by first|exact .inl rfl|exact .inr rfl) rfl rfl _ _ aG aF (⟨rfl,rfl,by rw [Int.sign_eq_one_of_pos (by omega)]⟩)
theorem aGY {u:Value} {z:Int} {k:Nat} (hk:k≤1000000000000) (hu:iB u z k∈I0):CD Tryz.prog 201 [u] X w0 M0 I0 (fun v M I=>M0=M∧I=iB v (-z) k::I0):=by
 refine dC hu (fun q c e hc hz=>?_)
 subst e
 have hl:=gL hz hk
 unfold iv
 have hM:=fun q2 c2 (hc2:rR q2 z.natAbs c2) M0 I0=>tZ (X:=X) (w0:=w0) (M0:=M0) (I0:=I0) (p:=¬z < 0) (q:=q2) (l:=gr z.natAbs) (n:=z.natAbs) (c:=c2) (k:=k) (by omega) hc2.1 hc2.2 (bK _) (bT _) hz
 rw [aUS] at hM
 refine aZ Tryz.func201 rfl Tryz.ntmps201 rfl ?_
 refine fE ?_
 refine fG rfl (fun b=>?_)
 refine bG (fun b2=>?_)
 repeat refine aW ?_
 (refine aU rfl (lT hz hk hc aA) ?_;rintro _ _ _ ⟨rfl,q2,c2,rfl,hc2,rfl⟩;refine aL ?_)
 repeat refine aW ?_
 (refine aU rfl (hM q2 c2 hc2 _ _ aA) ?_;rintro _ _ _ ⟨rfl,rfl⟩;refine aL ?_;refine aX (List.Mem.head _) (fun q3 c3 e__ hc3 hz3=>?_);subst e__)
 unfold iv
 repeat refine aW ?_
 refine bA (cs:=[.bool (B (-z < 0)), .slice q3 (gr (-z).natAbs).length c3]) (.inl rfl) rfl rfl aA rfl _ _ aG aF ⟨rfl,rfl⟩
end
end Go.Proofs.YtgpkjcmipiodcaaGreat
namespace Go.Proofs.YtgpkjcmipiodcaaGreat
open Go Go.Fx
section
variable {X:List Nat} {w0:World} {M0:List Ent} {I0:List aV}
theorem aNH {u v:Value} {y z:Int} {k m c:Nat} (hk:k≤1000000000000) (hm:m≤1000000000000) (hc0:c≤1000000000000) (hs:2 ^ k+2 ^ m≤2 ^ c) (hu:iB u y k∈I0) (hv:iB v z m∈I0):CD Tryz.prog 200 [u,v] X w0 M0 I0 (fun v M I=>M0=M∧I=iB v (y+z) c::I0):=by
 refine dC hu (fun q cq e hc hy=>?_)
 subst e
 refine dC (List.Mem.tail _ hv) (fun q' cq' e hc' hz=>?_)
 subst e
 have hl:=gL hy (by omega)
 have hl':=gL hz (by omega)
 have hyz:y.natAbs+z.natAbs≤2 ^ c:=Nat.le_trans (Nat.add_le_add hy hz) hs
 unfold iv
 have hP:=fun p1 c1 p2 c2 M0 I0=>aUZ (X:=X) (w0:=w0) (M0:=M0) (I0:=I0) (p:=p1) (q:=p2) (m:=y.natAbs) (n:=z.natAbs) (cp:=c1) (cq:=c2) (by omega) (by omega)
 have hC:=fun p1 c1 p2 c2 M0 I0=>aAF (X:=X) (w0:=w0) (M0:=M0) (I0:=I0) (p:=p1) (q:=p2) (m:=y.natAbs) (n:=z.natAbs) (cp:=c1) (cq:=c2) (by omega) (by omega)
 have hMi:=fun (hle:z.natAbs≤y.natAbs) p1 c1 p2 c2 M0 I0=>xJ (X:=X) (w0:=w0) (M0:=M0) (I0:=I0) (p:=p1) (q:=p2) (m:=y.natAbs) (n:=z.natAbs) (cp:=c1) (cq:=c2) (by omega) hle
 have hMi2:=fun (hle:y.natAbs≤z.natAbs) p1 c1 p2 c2 M0 I0=>xJ (X:=X) (w0:=w0) (M0:=M0) (I0:=I0) (p:=p1) (q:=p2) (m:=z.natAbs) (n:=y.natAbs) (cp:=c1) (cq:=c2) (by omega) hle
 have hMd:=fun (p:Prop) [Decidable p] (n:Nat) (q:Option Addr) (c2:Nat) (h1:rR q n c2) (h2:n≤2 ^ c) M0 I0=>tZ (X:=X) (w0:=w0) (M0:=M0) (I0:=I0) (p:=p) (n:=n) (q:=q) (l:=gr n) (c:=c2) (k:=c) (by have:=gL h2 hc0;omega) h1.1 h1.2 (bK _) (bT _) h2
 refine aP Tryz.func200 rfl Tryz.ntmps200 rfl ?_
 refine fE ?_
 refine fG rfl (fun b=>?_)
 refine fG rfl (fun b2=>?_)
 refine bG (fun b3=>?_)
 repeat refine aW ?_
 (repeat refine aJ ?_);refine aO 2 [0,2,1,3,4,5] [1,2,0,0,0,0] mixed (by kernel_rfl) ?_
 repeat refine aW ?_
 (refine aU rfl (lT hy hk hc aA) ?_;rintro _ _ _ ⟨rfl,q3,c3,rfl,hc3,rfl⟩;refine aL ?_)
 repeat refine aW ?_
 (refine aU rfl (lT hz hm hc' aA) ?_;rintro _ _ _ ⟨rfl,q4,c4,rfl,hc4,rfl⟩;refine aL ?_)
 by_cases hpq:(y < 0↔z < 0)
 ·have hM1:=fun q2 c2 (h:rR q2 (y.natAbs+z.natAbs) c2) M0 I0=>hMd (y < 0) (y.natAbs+z.natAbs) q2 c2 h hyz M0 I0
  rw [aMV hpq,sK,sK] at hM1
  repeat refine aW ?_
  (repeat refine aJ ?_);refine vT (.blk b2 [.bool (B (z < 0)), .slice q4 (gr z.natAbs).length c4] 38:: .blk b [.bool (B (y < 0)), .slice q3 (gr y.natAbs).length c3] 38::M0) (I0) [0,1,2,3,4,5,6,7,8] [2,1,2,1,2,1,0,0,0] mixed ?_
  repeat refine aW ?_
  (refine aU rfl (hP q3 c3 q4 c4 _ _ aA aA) ?_;rintro _ _ _ ⟨rfl,q5,c5,rfl,hc5,rfl⟩;refine aL ?_)
  (refine aU rfl (hM1 q5 c5 hc5 _ _ aA) ?_;rintro _ _ _ ⟨rfl,rfl⟩;refine aL ?_;refine aX (List.Mem.head _) (fun q6 c6 e__ hc6 hz6=>?_);subst e__)
  unfold iv
  repeat refine aW ?_
  refine bA (cs:=[.bool (B (y+z < 0)), .slice q6 (gr (y+z).natAbs).length c6]) (.inl rfl) rfl rfl aA rfl _ _ aG aF ⟨rfl,rfl⟩
 ·by_cases hge:z.natAbs≤y.natAbs
  ·have hM1:=fun q2 c2 (h:rR q2 (y.natAbs - z.natAbs) c2) M0 I0=>hMd (y < 0) (y.natAbs - z.natAbs) q2 c2 h (by omega) M0 I0
   rw [aCL hpq hge,sK,sK] at hM1
   have hcv:=aAE (x:=(y.natAbs:Int)) (y:=(z.natAbs:Int)) (by omega)
   generalize fP (y.natAbs:Int) (z.natAbs:Int)=cv at*
   have hMi:=hMi hge
   clear hl hl' hyz hMi2
   repeat refine aW ?_
   refine dP rfl (hC q3 c3 q4 c4 _ _ aA aA) ?_
   repeat refine aW ?_
   (repeat refine aJ ?_);refine vT (.blk b2 [.bool (B (z < 0)), .slice q4 (gr z.natAbs).length c4] 38:: .blk b [.bool (B (y < 0)), .slice q3 (gr y.natAbs).length c3] 38::M0) (I0) [0,1,2,3,4,5,6,7,8] [2,1,2,1,2,1,0,0,0] mixed ?_
   repeat refine aW ?_
   (refine aU rfl (hMi q3 c3 q4 c4 _ _ aA aA) ?_;rintro _ _ _ ⟨rfl,q5,c5,rfl,hc5,rfl⟩;refine aL ?_)
   (refine aU rfl (hM1 q5 c5 hc5 _ _ aA) ?_;rintro _ _ _ ⟨rfl,rfl⟩;refine aL ?_;refine aX (List.Mem.head _) (fun q6 c6 e__ hc6 hz6=>?_);subst e__)
   unfold iv
   repeat refine aW ?_
   refine bA (cs:=[.bool (B (y+z < 0)), .slice q6 (gr (y+z).natAbs).length c6]) (.inl rfl) rfl rfl aA rfl _ _ aG aF ⟨rfl,rfl⟩
  ·have hM1:=fun q2 c2 (h:rR q2 (z.natAbs - y.natAbs) c2) M0 I0=>hMd (z < 0) (z.natAbs - y.natAbs) q2 c2 h (by omega) M0 I0
   rw [aCL (fun h=>hpq h.symm) (by omega),sK,sK,Int.add_comm] at hM1
   have hcv:=zO (x:=(y.natAbs:Int)) (y:=(z.natAbs:Int)) (by omega)
   generalize fP (y.natAbs:Int) (z.natAbs:Int)=cv at*
   subst hcv
   have hMi:=hMi2 (by omega)
   clear hl hl' hyz hMi2
   repeat refine aW ?_
   refine dP rfl (hC q3 c3 q4 c4 _ _ aA aA) ?_
   repeat refine aW ?_
   (repeat refine aJ ?_);refine vT (.blk b2 [.bool (B (z < 0)), .slice q4 (gr z.natAbs).length c4] 38:: .blk b [.bool (B (y < 0)), .slice q3 (gr y.natAbs).length c3] 38::M0) (I0) [0,1,2,3,4,5,6,7,8] [2,1,2,1,2,1,0,0,0] mixed ?_
   repeat refine aW ?_
   (refine aU rfl (hMi q4 c4 q3 c3 _ _ aA aA) ?_;rintro _ _ _ ⟨rfl,q5,c5,rfl,hc5,rfl⟩;refine aL ?_)
   (refine aU rfl (hM1 q5 c5 hc5 _ _ aA) ?_;rintro _ _ _ ⟨rfl,rfl⟩;refine aL ?_;refine aX (List.Mem.head _) (fun q6 c6 e__ hc6 hz6=>?_);subst e__)
   unfold iv
   repeat refine aW ?_
   refine bA (cs:=[.bool (B (y+z < 0)), .slice q6 (gr (y+z).natAbs).length c6]) (.inl rfl) rfl rfl aA rfl _ _ aG aF ⟨rfl,rfl⟩
end
end Go.Proofs.YtgpkjcmipiodcaaGreat
namespace Go.Proofs.YtgpkjcmipiodcaaGreat
open Go Go.Fx
theorem aGR (k m:Nat):2 ^ k+2 ^ m≤2 ^ (k+m+1):=by
 have h1:2 ^ k≤2 ^ (k+m):=Nat.pow_le_pow_right (by decide) (by omega)
 have h2:2 ^ m≤2 ^ (k+m):=Nat.pow_le_pow_right (by decide) (by omega)
 rw [Nat.pow_succ];omega
theorem aNO (y z:Int):(y - z).sign=fP y z:=by
 unfold fP
 by_cases h1:y < z
 ·rw [if_pos h1];exact Int.sign_eq_neg_one_of_neg (by omega)
 ·rw [if_neg h1]
  by_cases h2:z < y
  ·rw [if_pos h2];exact Int.sign_eq_one_of_pos (by omega)
  ·rw [if_neg h2,show y - z=0 by omega];rfl
theorem aZP (y z:Int):sg (¬(y < 0↔z < 0)) (y.natAbs*z.natAbs)=y*z:=by
 unfold sg
 rw [Int.natCast_mul]
 by_cases h1:y < 0 <;>by_cases h2:z < 0 <;>simp only [h1,h2,not_true_eq_false,not_false_eq_true,iff_true,iff_false,if_true,if_false]
 ·rw [show (y.natAbs:Int)= -y by omega,show (z.natAbs:Int)= -z by omega,Int.neg_mul_neg]
 ·rw [show (y.natAbs:Int)= -y by omega,show (z.natAbs:Int)=z by omega,Int.neg_mul,Int.neg_neg]
 ·rw [show (y.natAbs:Int)=y by omega,show (z.natAbs:Int)= -z by omega,Int.mul_neg,Int.neg_neg]
 ·rw [show (y.natAbs:Int)=y by omega,show (z.natAbs:Int)=z by omega]
section
variable {X:List Nat} {w0:World} {M0:List Ent} {I0:List aV}
theorem aHG {u v:Value} {y z:Int} {k m c:Nat} (hk:k≤1000000000000) (hm:m≤1000000000000) (hc0:c≤1000000000000) (hs:2 ^ k+2 ^ m≤2 ^ c) (hu:iB u y k∈I0) (hv:iB v z m∈I0):CD Tryz.prog 162 [u,v] X w0 M0 I0 (fun v M I=>M0=M∧I=iB v (y - z) c::I0):=by
 refine dC hu (fun q cq e hc hy=>?_)
 subst e
 refine dC (List.Mem.tail _ hv) (fun q' cq' e hc' hz=>?_)
 subst e
 have hA:=fun v M0 I0=>aNH (X:=X) (w0:=w0) (M0:=M0) (I0:=I0) (u:=iv q cq y) (v:=v) (y:=y) (z:= -z) (k:=k) (m:=m) (c:=c) hk hm hc0 hs
 rw [←Int.sub_eq_add_neg] at hA
 unfold iv at*
 refine aP Tryz.func162 rfl Tryz.ntmps162 rfl ?_
 refine fE ?_
 refine fG rfl (fun b=>?_)
 refine fG rfl (fun b2=>?_)
 refine bG (fun b3=>?_)
 repeat refine aW ?_
 (repeat refine aJ ?_);refine aO 2 [0,1,2,3,4] [1,1,0,0,0] mixed (by kernel_rfl) ?_
 repeat refine aW ?_
 (refine aU rfl (aGY hm aA) ?_;rintro _ _ _ ⟨rfl,rfl⟩;refine aL ?_)
 (refine aU rfl (hA _ _ _ aA aA) ?_;rintro _ _ _ ⟨rfl,rfl⟩;refine aL ?_;refine aX (List.Mem.head _) (fun q6 c6 e__ hc6 hz6=>?_);subst e__)
 unfold iv
 repeat refine aW ?_
 refine bA (cs:=[.bool (B (y - z < 0)), .slice q6 (gr (y - z).natAbs).length c6]) (.inl rfl) rfl rfl aA rfl _ _ aG aF ⟨rfl,rfl⟩
theorem aJO {u v:Value} {y z:Int} {k m:Nat} (hk:k≤400000000000) (hm:m≤400000000000) (hu:iB u y k∈I0) (hv:iB v z m∈I0):CD Tryz.prog 115 [u,v] X w0 M0 I0 (fun v M I=>M0=M∧I0=I∧v= .int .i64 (fP y z)):=by
 refine dC hu (fun q cq e hc hy=>?_)
 subst e
 refine dC (List.Mem.tail _ hv) (fun q' cq' e hc' hz=>?_)
 subst e
 have hS:=fun M0 I0=>aHG (X:=X) (w0:=w0) (M0:=M0) (I0:=I0) (u:=iv q cq y) (v:=iv q' cq' z) (k:=k) (m:=m) (c:=k+m+1) (y:=y) (z:=z) (by omega) (by omega) (by omega) (aGR k m)
 rw [←aNO]
 unfold iv at*
 refine aP Tryz.func115 rfl Tryz.ntmps115 rfl ?_
 refine fE ?_
 refine fG rfl (fun b=>?_)
 refine fG rfl (fun b2=>?_)
 repeat refine aW ?_
 (refine aU rfl (hS _ _ aA aA) ?_;rintro _ _ _ ⟨rfl,rfl⟩;refine aL ?_)
 refine dP rfl (yV (k:=k+m+1) (by omega) aA) ?_
 repeat refine aW ?_
 refine gD rfl rfl (⟨rfl,rfl,rfl⟩)
theorem aCM {u v:Value} {y z:Int} {k0 m0:Nat} (hk:k0+m0≤1000000000000) (hu:iB u y k0∈I0) (hv:iB v z m0∈I0):CD Tryz.prog 209 [u,v] X w0 M0 I0 (fun v M I=>M0=M∧I=iB v (y*z) (k0+m0)::I0):=by
 refine dC hu (fun q cq e hc hy=>?_)
 subst e
 refine dC (List.Mem.tail _ hv) (fun q' cq' e hc' hz=>?_)
 subst e
 have hl:=gL hy (by omega)
 have hl':=gL hz (by omega)
 have hyz:y.natAbs*z.natAbs≤2 ^ (k0+m0):=jJ hy hz
 have hl3:=gL hyz (by omega)
 unfold iv
 have hMd:=fun (q:Option Addr) (l:List Int) (h0:l.length≤1000000000000) (c2:Nat) (h1:l.length≤c2) (h2:Ok q) (h3:Dig l) (h4:val l=((y.natAbs*z.natAbs:Nat):Int)) M0 I0=>tZ (X:=X) (w0:=w0) (M0:=M0) (I0:=I0) (p:=¬(y < 0↔z < 0)) (n:=y.natAbs*z.natAbs) (q:=q) (l:=l) (c:=c2) (k:=k0+m0) h0 h1 (.inl h2) h3 h4 hyz
 rw [aZP] at hMd
 refine aP Tryz.func209 rfl Tryz.ntmps209 rfl ?_
 refine fE ?_
 refine fG rfl (fun bx=>?_)
 refine fG rfl (fun bz=>?_)
 refine bG (fun b3=>?_)
 repeat refine aW ?_
 (repeat refine aJ ?_);refine aO 2 [0,2,1,3,4,5] [1,2,0,0,0,0] mixed (by kernel_rfl) ?_
 repeat refine aW ?_
 (refine aU rfl (lT hy (by omega) hc aA) ?_;rintro _ _ _ ⟨rfl,q3,c3,rfl,hc3,rfl⟩;refine aL ?_)
 repeat refine aW ?_
 (refine aU rfl (lT hz (by omega) hc' aA) ?_;rintro _ _ _ ⟨rfl,q4,c4,rfl,hc4,rfl⟩;refine aL ?_)
 have da:=bK y.natAbs
 have db:=bK z.natAbs
 have va:=bT y.natAbs
 have vb:=bT z.natAbs
 clear hl3 hyz hc hc' hc3 hc4
 generalize ha:gr y.natAbs=a at*
 generalize hb:gr z.natAbs=b at*
 repeat refine aW ?_
 (refine lM (a.length+b.length) rfl rfl (by omega) (by omega) (by omega) (by omega) (nT _ _) rfl rfl ?_;intro bo;refine aL ?_)
 repeat refine aW ?_
 refine eO [2,3,4,5] rfl (fun k G M I=>∃(i:Nat) (o:List Int),i≤a.length∧k=a.length - i∧o.length=a.length+b.length∧Dig o∧val o=val (a.take i)*val b∧(∀j:Nat,i+b.length≤j→o.getD j 0=0)∧G=[(6, .int .i64 i)]∧M= .blk bo (recs eG o) 181:: .blk b3 [.bool false, .slice none 0 0] 38:: .blk bz [.bool (B (z < 0)), .slice q4 b.length c4] 38:: .blk bx [.bool (B (y < 0)), .slice q3 a.length c3] 38::M0∧I=aI q4 (recs eG b)::aI q3 (recs eG a)::I0) (a.length) _ _ _ dS aG aF (⟨0,_,by omega,by omega,by simp,Dig.zeros _,by rw [xA];simp [val],fun j _=>by simp [List.getD,List.getElem?_replicate];split <;>rfl,rfl,rfl,rfl⟩) ?_
 rintro k G M I ⟨i,o,hi,rfl,ho,hd,hv,hz,rfl,rfl,rfl⟩
 by_cases hia:i < a.length
 ·have d1:=da.gt i
  repeat refine aW ?_
  refine kS [2,3,4,5,6] rfl (fun k G M I=>∃(j:Nat) (u:List Int) (c:Int),j≤b.length∧k=b.length - j∧u.length=a.length+b.length∧Dig u∧(0≤c∧c < 1000000000)∧val u+1000000000 ^ (i+j)*c=val (a.take i)*val b+1000000000 ^ i*(gt a i*val (b.take j))∧(∀j:Nat,i+b.length≤j→u.getD j 0=0)∧G=[(7, .int .u64 c),(8, .int .i64 j)]∧M= .blk bo (recs eG u) 181:: .blk b3 [.bool false, .slice none 0 0] 38:: .blk bz [.bool (B (z < 0)), .slice q4 b.length c4] 38:: .blk bx [.bool (B (y < 0)), .slice q3 a.length c3] 38::M0∧I=aI q4 (recs eG b)::aI q3 (recs eG a)::I0) (b.length) (⟨0,o,0,by omega,by omega,ho,hd,by omega,by simp [val,hv],hz,rfl,rfl,rfl⟩) ?_
  rintro k G M I ⟨j,u,c,hj,rfl,hu,hdu,hc,hvu,hzu,rfl,rfl,rfl⟩
  by_cases hjb:j < b.length
  ·have d2:=db.gt j
   have d3:=hdu.gt ((i:Int)+j)
   obtain ⟨d4,d5,d6⟩:=uI d1 d2 d3 hc
   have d7:0≤gt a (i:Int)*gt b (j:Int)∧gt a (i:Int)*gt b (j:Int)≤18446744073709551615:=by omega
   have e1:=aDY d5.1
   have e2:=aDJ d5.1
   have hst:=aLW (o:=u) (b:=b) (j:=j) hvu (by omega)
   rw [←xR,←xR] at hst
   rw [show (((i+j:Nat):Int))=(i:Int)+(j:Int) by omega] at hst
   obtain ⟨p,hp⟩:∃p,p=gt a (i:Int)*gt b (j:Int):=⟨_,rfl⟩
   obtain ⟨s,hs⟩:∃s,s=(gt u ((i:Int)+(j:Int))+gt a (i:Int)*gt b (j:Int)+c) % 1000000000:=⟨_,rfl⟩
   obtain ⟨t,ht⟩:∃t,t=(gt u ((i:Int)+(j:Int))+gt a (i:Int)*gt b (j:Int)+c) / 1000000000:=⟨_,rfl⟩
   rw [←hs] at e1 hst
   rw [←ht] at e2 hst d6
   have hs2:0≤s∧s < 1000000000:=by omega
   clear hs ht hp
   repeat refine aW ?_
   (repeat refine aJ ?_);refine gG [0,1,2,3,4,5,6,7,8,9,10,11,12,13,14,15,16,17,18,19,20,21,22,23] [0,0,0,0,0,0,0,0,0,0,0,0,0,0,0,0,0,0,0,0,0,0,0,0] mixed (by kernel_rfl) ?_
   repeat refine aW ?_
   rw [e1]
   repeat refine aW ?_
   rw [e2]
   refine bY (b.length - (j+1)) _ _ _ (by first|omega|(simp only [List.length_append,List.length_cons,List.length_nil];omega)) dS aG aF (⟨j+1,_,t,by omega,rfl,by rw [dB];exact hu,?_,d6,?_,?_,rfl,rfl,rfl⟩)
   ·rw [iE];exact hdu.set _ hs2
   ·rw [iE];exact hst
   ·intro t ht
    rw [iE,mW _ (by omega)]
    exact hzu t ht
  ·have hjb:j=b.length:=by omega
   subst hjb
   have hst:=aIB (o:=u) (b:=b) hvu (by omega) (hzu _ (Nat.le_refl _))
   repeat refine aW ?_
   refine bY (a.length - (i+1)) _ _ _ (by first|omega|(simp only [List.length_append,List.length_cons,List.length_nil];omega)) dS aG aF (⟨i+1,_,by omega,rfl,by rw [dB];exact hu,?_,?_,?_,rfl,rfl,rfl⟩)
   ·rw [iE];exact hdu.set _ hc
   ·rw [iE,hst,bR,xR]
    rw [Int.add_mul,Int.mul_assoc]
   ·intro t ht
    rw [iE,mW _ (by omega)]
    exact hzu t (by omega)
 ·have hiN:i=a.length:=by omega
  subst hiN
  rw [List.take_length,va,vb] at hv
  have hM:=fun M0 I0=>hMd (some ⟨bo,0,none⟩) o (by omega) (a.length+b.length) (by omega) (Ok.mk _ _) hd (by rw [hv,Int.natCast_mul]) M0 I0
  rw [ho] at hM
  repeat refine aW ?_
  refine aC (b:=bo) uB ?_
  (refine aU rfl (hM _ _ aA) ?_;rintro _ _ _ ⟨rfl,rfl⟩;refine aL ?_;refine aX (List.Mem.head _) (fun q6 c6 e__ hc6 hz6=>?_);subst e__)
  unfold iv
  repeat refine aW ?_
  refine bA (cs:=[.bool (B (y*z < 0)), .slice q6 (gr (y*z).natAbs).length c6]) (.inl rfl) rfl rfl aA rfl _ _ aG aF ⟨rfl,rfl⟩
end
end Go.Proofs.YtgpkjcmipiodcaaGreat
namespace Go.Proofs.YtgpkjcmipiodcaaGreat
open Go Go.Fx
section
variable {X:List Nat} {w0:World} {M0:List Ent} {I0:List aV}
theorem aUE {x:Int} (hx: -9223372036854775808≤x∧x≤9223372036854775807):CD Tryz.prog 120 [.int .i64 x] X w0 M0 I0 (fun v M I=>M0=M∧I=iB v x 63::I0):=by
 have hn:x.natAbs≤2 ^ 63:=by omega
 have hMd:=fun (q:Option Addr) (l:List Int) (h0:l.length≤1000000000000) (c2:Nat) (h1:l.length≤c2) (h2:Ok q∨(l.length=0∧c2=0)) (h3:Dig l) (h4:val l=((x.natAbs:Nat):Int)) M0 I0=>tZ (X:=X) (w0:=w0) (M0:=M0) (I0:=I0) (p:=x < 0) (n:=x.natAbs) (q:=q) (l:=l) (c:=c2) (k:=63) h0 h1 h2 h3 h4 hn
 rw [sK] at hMd
 have dA:=bK x.natAbs
 have vA:=bT x.natAbs
 have hlA:(gr x.natAbs).length≤3:=lQ (by omega)
 have hgr:∀m:Nat,m≠0→gr m=((m % 1000000000:Nat):Int)::gr (m / 1000000000):=fun m h=>wQ h
 refine aZ Tryz.func120 rfl Tryz.ntmps120 rfl ?_
 refine fE ?_
 refine bG (fun b=>?_)
 by_cases hx0:x < 0
 ·repeat refine aW ?_
  refine aD rfl (fun _=>fB rfl (aJV (by omega))) rfl rfl ?_
  repeat refine aW ?_
  all_goals
   refine lL (cs:=recs eG []) ([]) rfl (fun b1=>?_)
   repeat refine aW ?_
   refine vW (b:=b1) (mm:=0) 1 iN rfl (by omega) ?_
   refine eO [0,2] rfl (fun k G M I=>∃(m:Nat) (ui:Int) (xs:List Int) (a:Option Addr) (c':Nat),k=m∧ui=m∧m≤x.natAbs∧xs++gr m=gr x.natAbs∧G=[(3, .int .u64 ui),(4, .slice a xs.length c')]∧M= .row a xs.length c' (recs eG xs) 181 1:: .blk b [.bool false, .slice none 0 0] 38::M0∧I0=I) (x.natAbs) _ _ _ dS aG aF (⟨x.natAbs,_,[],_,_,rfl,by omega,by omega,rfl,rfl,rfl,rfl⟩) ?_
   rintro k G M I ⟨m,ui,xs,a,c',rfl,hui,hm,hxs,rfl,rfl,rfl⟩
   have hlx:xs.length+(gr k).length≤3:=by rw [←hxs] at hlA;simpa using hlA
   by_cases hk0:k=0
   ·subst hk0
    rw [fO,List.append_nil] at hxs
    subst hxs
    refine xH (fun w hw=>And.intro (hw.rowLe (List.Mem.head _)) ((hw.rowS (List.Mem.head _)).2.imp id And.right)) (fun ho3=>?_)
    have hM:=hMd a (gr x.natAbs) (by omega) c' ho3.1 ho3.2 dA vA
    repeat refine aW ?_
    refine gW uB ?_
    (refine aU rfl (hM _ _ aA) ?_;rintro _ _ _ ⟨rfl,rfl⟩;refine aL ?_;refine aX (List.Mem.head _) (fun q6 c6 e__ hc6 hz6=>?_);subst e__)
    unfold iv
    repeat refine aW ?_
    refine bA (cs:=[.bool (B (x < 0)), .slice q6 (gr x.natAbs).length c6]) (.inl rfl) rfl rfl aA rfl _ _ aG aF ⟨rfl,rfl⟩
   ·have hgk:=hgr k hk0
    have e1:=aDY (s:=ui) (by omega)
    have e2:=aDJ (s:=ui) (by omega)
    obtain ⟨s,hs⟩:∃s,s=ui % 1000000000:=⟨_,rfl⟩
    obtain ⟨t,ht⟩:∃t,t=ui / 1000000000:=⟨_,rfl⟩
    have hs1:((k % 1000000000:Nat):Int)=s:=by omega
    have ht1:((k / 1000000000:Nat):Int)=t:=by omega
    rw [hs1] at hgk
    rw [←hs] at e1
    rw [←ht] at e2
    have hs2:0≤s∧s < 1000000000:=by omega
    have hl9:(gr k).length=(gr (k / 1000000000)).length+1:=by rw [hgk];simp
    repeat refine aW ?_
    rw [e1]
    repeat refine aW ?_
    refine lL (cs:=recs eG [s]) ([.int .u32 s]) rfl (fun b2=>?_)
    refine tyP (ys:=[s]) 1 rfl rfl rfl (fun a2 c2=>?_)
    repeat refine aW ?_
    rw [e2]
    refine iC (k / 1000000000) (⟨k / 1000000000,t,xs++[s],a2,c2,rfl,ht1.symm,by omega,by rw [List.append_assoc];rw [hgk] at hxs;exact hxs,rfl,rfl,rfl⟩)
 ·repeat refine aW ?_
  all_goals
   refine lL (cs:=recs eG []) ([]) rfl (fun b1=>?_)
   repeat refine aW ?_
   refine vW (b:=b1) (mm:=0) 1 iN rfl (by omega) ?_
   refine eO [0,2] rfl (fun k G M I=>∃(m:Nat) (ui:Int) (xs:List Int) (a:Option Addr) (c':Nat),k=m∧ui=m∧m≤x.natAbs∧xs++gr m=gr x.natAbs∧G=[(3, .int .u64 ui),(4, .slice a xs.length c')]∧M= .row a xs.length c' (recs eG xs) 181 1:: .blk b [.bool false, .slice none 0 0] 38::M0∧I0=I) (x.natAbs) _ _ _ dS aG aF (⟨x.natAbs,_,[],_,_,rfl,by omega,by omega,rfl,rfl,rfl,rfl⟩) ?_
   rintro k G M I ⟨m,ui,xs,a,c',rfl,hui,hm,hxs,rfl,rfl,rfl⟩
   have hlx:xs.length+(gr k).length≤3:=by rw [←hxs] at hlA;simpa using hlA
   by_cases hk0:k=0
   ·subst hk0
    rw [fO,List.append_nil] at hxs
    subst hxs
    refine xH (fun w hw=>And.intro (hw.rowLe (List.Mem.head _)) ((hw.rowS (List.Mem.head _)).2.imp id And.right)) (fun ho3=>?_)
    have hM:=hMd a (gr x.natAbs) (by omega) c' ho3.1 ho3.2 dA vA
    repeat refine aW ?_
    refine gW uB ?_
    (refine aU rfl (hM _ _ aA) ?_;rintro _ _ _ ⟨rfl,rfl⟩;refine aL ?_;refine aX (List.Mem.head _) (fun q6 c6 e__ hc6 hz6=>?_);subst e__)
    unfold iv
    repeat refine aW ?_
    refine bA (cs:=[.bool (B (x < 0)), .slice q6 (gr x.natAbs).length c6]) (.inl rfl) rfl rfl aA rfl _ _ aG aF ⟨rfl,rfl⟩
   ·have hgk:=hgr k hk0
    have e1:=aDY (s:=ui) (by omega)
    have e2:=aDJ (s:=ui) (by omega)
    obtain ⟨s,hs⟩:∃s,s=ui % 1000000000:=⟨_,rfl⟩
    obtain ⟨t,ht⟩:∃t,t=ui / 1000000000:=⟨_,rfl⟩
    have hs1:((k % 1000000000:Nat):Int)=s:=by omega
    have ht1:((k / 1000000000:Nat):Int)=t:=by omega
    rw [hs1] at hgk
    rw [←hs] at e1
    rw [←ht] at e2
    have hs2:0≤s∧s < 1000000000:=by omega
    have hl9:(gr k).length=(gr (k / 1000000000)).length+1:=by rw [hgk];simp
    repeat refine aW ?_
    rw [e1]
    repeat refine aW ?_
    refine lL (cs:=recs eG [s]) ([.int .u32 s]) rfl (fun b2=>?_)
    refine tyP (ys:=[s]) 1 rfl rfl rfl (fun a2 c2=>?_)
    repeat refine aW ?_
    rw [e2]
    refine iC (k / 1000000000) (⟨k / 1000000000,t,xs++[s],a2,c2,rfl,ht1.symm,by omega,by rw [List.append_assoc];rw [hgk] at hxs;exact hxs,rfl,rfl,rfl⟩)
end
end Go.Proofs.YtgpkjcmipiodcaaGreat
