/- fiducialref01: short, parts fiducialref01: parts fiducialref01: the numbers: Valid, Value, -/
import Derived.Test.YtmmmfphealhapaaGreatZtah
import Derived.Test.YtmmmfphealhapaaGreatZtag
set_option linter.unusedSimpArgs false
set_option linter.unusedVariables false
set_option maxRecDepth 100000
set_option maxHeartbeats 4000000
namespace Go.Proofs.YtmmmfphealhapaaGreat
open Go Go.Fx
theorem aDW {n i:Nat}:0≤gt (gr n) (i:Int)∧gt (gr n) (i:Int) < 1000000000:=(bT n).gt i
theorem aYU {a:Option Addr} {c l sz:Nat} (h:Ok a):Ok (xD a c l sz):=by
 obtain ⟨b,o,rfl⟩:=h.cases
 unfold xD
 split
 ·exact Ok.mk _ _
 ·simp only [Option.map_some,add_lit];exact Ok.mk _ _
theorem aKI {R N t:Nat} (hN:(gr N).length=t+1) (hR:R < N*1000000000):
  ∃g:Nat,(gt (gr R) (((t+1:Nat):Int))*1000000000+gt (gr R) (t:Int)).tdiv (gt (gr N) (t:Int)+1)=(g:Int)∧g*N≤R∧g < 1000000000:=by
 have dR:=bT R
 have dN:=bT N
 have vR:=cZ R
 have vN:=cZ N
 have hNl:=jW dN
 rw [hN,vN] at hNl
 have hPp:=jD t
 have e1:(1000000000:Int) ^ (t+1)=1000000000 ^ t*1000000000:=Int.pow_succ _ _
 have hR2:val (gr R) < 1000000000 ^ (t+1+1):=by
  rw [vR,Int.pow_succ,e1]
  rw [e1] at hNl
  have:((R:Nat):Int) < (N:Int)*1000000000:=by omega
  omega
 have hT:=xA dR hR2
 have hT2:=bV (gr R) t
 have hM:=xA dN (k:=t) (by rw [vN];exact hNl)
 rw [←yF] at hT hT2 hM
 rw [vR] at hT
 rw [vN] at hM
 have l1:=iP dR t
 have l2:=bS (dR.take t)
 have l3:=iP dN t
 have l4:=bS (dN.take t)
 have g1:=dR.gt ((t+1:Nat):Int)
 have g2:=dR.gt (t:Int)
 have g3:=dN.gt (t:Int)
 rw [hT2,e1] at hT
 generalize val ((gr R).take t)=low at*
 generalize val ((gr N).take t)=bl at*
 generalize gt (gr R) (t:Int)=d0 at*
 generalize gt (gr R) ((t+1:Nat):Int)=d1 at*
 generalize gt (gr N) (t:Int)=b1 at*
 obtain ⟨P,hP⟩:∃P:Nat,(1000000000:Int) ^ t=(P:Int):=⟨1000000000 ^ t,by rw [Int.natCast_pow];rfl⟩
 rw [hP] at hT hM l1 l3 hPp
 clear hNl hR2 hT2 e1
 obtain ⟨top,htop⟩:∃top:Nat,d1*1000000000+d0=(top:Int):=⟨(d1*1000000000+d0).toNat,by omega⟩
 obtain ⟨b1n,rfl⟩:∃b:Nat,b1=(b:Int):=⟨b1.toNat,by omega⟩
 obtain ⟨lown,rfl⟩:∃b:Nat,low=(b:Int):=⟨low.toNat,by omega⟩
 obtain ⟨bln,rfl⟩:∃b:Nat,bl=(b:Int):=⟨bl.toNat,by omega⟩
 have hR3:R=top*P+lown:=by
  have:(R:Int)=(top:Int)*(P:Int)+(lown:Int):=by rw [←htop,hT];grind
  exact_mod_cast this
 have hN3:N=b1n*P+bln:=by
  have:(N:Int)=(b1n:Int)*(P:Int)+(bln:Int):=by rw [hM];grind
  exact_mod_cast this
 have hg:=aTS hR3 hN3 (by omega) (by omega) rfl
 refine ⟨top / (b1n+1),?_,hg,?_⟩
 ·rw [htop,Int.tdiv_eq_ediv_of_nonneg (by omega),Int.natCast_ediv];rfl
 ·have h1:top / (b1n+1)*N < 1000000000*N:=by omega
  exact Nat.lt_of_mul_lt_mul_right h1
theorem aSW {n f bt:Nat} (hn:1≤(gr n).length) (hbt:gt (gr n) (((gr n).length:Int) - 1)=(bt:Int)) (h1:0 < f) (hf:f*(bt+1)≤1000000000):(gr (n*f)).length=(gr n).length:=by
 refine Nat.le_antisymm (rT ?_) (gY (Nat.le_mul_of_pos_right _ h1))
 obtain ⟨t,ht⟩:∃t,(gr n).length=t+1:=⟨(gr n).length - 1,by omega⟩
 have dN:=bT n
 have vN:=cZ n
 have hNl:=jW dN
 rw [ht] at hNl
 have hM:=xA dN (k:=t) hNl
 have l3:=iP dN t
 rw [←yF] at hM
 rw [ht] at hbt ⊢
 rw [show (((t+1:Nat):Int) - 1)=(t:Int) by omega] at hbt
 rw [hbt,vN] at hM
 have hlt:(n:Int) < 1000000000 ^ t*((bt:Int)+1):=by rw [Int.mul_add];omega
 have h2:((n*f:Nat):Int) < (1000000000 ^ t*((bt:Int)+1))*f:=by rw [Int.natCast_mul];exact Int.mul_lt_mul_of_pos_right hlt (by omega)
 have h3:(1000000000:Int) ^ t*((bt:Int)+1)*f≤1000000000 ^ (t+1):=by
  rw [Int.pow_succ,Int.mul_assoc]
  refine Int.mul_le_mul_of_nonneg_left ?_ (Int.le_of_lt (jD t))
  have:((f*(bt+1):Nat):Int)≤1000000000:=by omega
  rw [Int.natCast_mul,Int.mul_comm] at this
  exact this
 have h4:((n*f:Nat):Int) < ((1000000000 ^ (t+1):Nat):Int):=by rw [Int.natCast_pow];exact Int.lt_of_lt_of_le h2 h3
 omega
section
variable {X:List Nat} {w0:World} {M0:List Ent} {I0:List aL}
theorem aGQ {q:Option Addr} {n c d:Nat} (hn:(gr n).length≤100000000000) (hd:0 < d∧d < 1000000000) (hq:aI q (recs eG (gr n))∈I0):
  CD Tryz.prog 275 [.slice q (gr n).length c, .int .u64 (d:Int)] X w0 M0 I0 (fun v M I=>M0=M∧∃p1 c1,sO p1 (n / d) c1∧v= .tuple #[.slice p1 (gr (n / d)).length c1, .int .u64 ((n % d:Nat):Int)]∧I=aI p1 (recs eG (gr (n / d)))::I0):=by
 have da:=bT n
 have va:=cZ n
 generalize ha:gr n=a at*
 refine aM Tryz.func275 rfl Tryz.ntmps275 rfl ?_
 repeat refine aQ ?_
 (refine jO (a.length) rfl rfl (by omega) (by omega) (by omega) (by omega) (nI _ _) rfl rfl ?_;intro bo;refine aN ?_)
 repeat refine aQ ?_
 refine bX [0,1,6] rfl (fun k G M I=>∃(i:Nat) (o:List Int) (r x:Int),i≤a.length∧k=i∧x=(i:Int) - 1∧o.length=a.length∧Dig o∧(0≤r∧r < d)∧val (a.drop i)=(d:Int)*val (o.drop i)+r∧G=[(7, .int .u64 r),(8, .int .i64 x)]∧M= .blk bo (recs eG o) 121::M0∧I0=I) (a.length) _ _ _ dB aF aC (⟨a.length,_,0,_,by omega,rfl,rfl,by simp,Dig.zeros _,by omega,by rw [List.drop_of_length_le (by omega),List.drop_of_length_le (by simp)];simp [val],rfl,rfl,rfl⟩) ?_
 rintro k G M I ⟨i,o,r,x,hi,rfl,hx,ho,hdo,hr,hv,rfl,rfl,rfl⟩
 by_cases h0:k=0
 ·subst h0
  rw [List.drop_zero,List.drop_zero,va] at hv
  have hq1:val o=((n / d:Nat):Int):=by
   have:=(Int.ediv_emod_unique (a:=(n:Int)) (b:=(d:Int)) (r:=r) (q:=val o) (by omega)).2 ⟨by omega,hr.1,hr.2⟩
   rw [←this.1];rfl
  have hr1:r=((n % d:Nat):Int):=by
   have:=(Int.ediv_emod_unique (a:=(n:Int)) (b:=(d:Int)) (r:=r) (q:=val o) (by omega)).2 ⟨by omega,hr.1,hr.2⟩
   rw [←this.2];rfl
  subst hr1
  repeat refine aQ ?_
  refine aH (b:=bo) yE ?_
  have hM:=nU (X:=X) (w0:=w0) (M0:=M0) (I0:=aI (some ⟨bo,0,none⟩) (recs eG o)::I0) (q:=some ⟨bo,0,none⟩) (c:=a.length) (by omega) (by omega) (.inl (Ok.mk _ _)) hdo hq1 (by simp)
  rw [ho] at hM
  (refine bD rfl (hM) ?_;rintro _ _ _ ⟨rfl,q',c',rfl,hc',rfl⟩;refine aN ?_)
  repeat refine aQ ?_
  refine tyS [4,5] rfl rfl (⟨rfl,q',c',hc',rfl,rfl⟩)
 ·obtain ⟨j,rfl⟩:∃j,k=j+1:=⟨k - 1,by omega⟩
  obtain rfl:x=(j:Int):=by omega
  have d1:=da.gt j
  obtain ⟨d2,d3,d4⟩:=aHY (r:=r) (g:=gt a (j:Int)) (d:=(d:Int)) (by omega) (by omega) hr d1
  have hst:=aMQ (a:=a) (q:=o) (i:=j) (d:=d) (r:=r) (by omega) (by omega) hv
  rw [←yF] at hst
  have hnn:0≤r*1000000000+gt a (j:Int):=by omega
  have e1:(r*1000000000+gt a (j:Int)).tmod (d:Int)=(r*1000000000+gt a (j:Int)) % (d:Int):=Int.tmod_eq_emod_of_nonneg hnn
  have e2:(r*1000000000+gt a (j:Int)).tdiv (d:Int)=(r*1000000000+gt a (j:Int)) / (d:Int):=Int.tdiv_eq_ediv_of_nonneg hnn
  obtain ⟨s,hs⟩:∃s,s=(r*1000000000+gt a (j:Int)) % (d:Int):=⟨_,rfl⟩
  obtain ⟨t,ht⟩:∃t,t=(r*1000000000+gt a (j:Int)) / (d:Int):=⟨_,rfl⟩
  rw [←hs] at e1 d4 hst
  rw [←ht] at e2 d3 hst
  obtain ⟨u,hu⟩:∃u,u=r*1000000000:=⟨_,rfl⟩
  repeat refine aQ ?_
  rw [e2]
  repeat refine aQ ?_
  rw [e1]
  repeat refine aQ ?_
  refine cO (j) _ _ _ (by first|omega|(simp only [List.length_append,List.length_cons,List.length_nil];omega)) dB aF aC (⟨j,_,s,(j:Int) - 1,by omega,rfl,by omega,by rw [dK];exact ho,by rw [sJ];exact hdo.set _ d3,d4,by rw [sJ];exact hst,rfl,rfl,rfl⟩)
end
theorem aOG {a' qs:List Int} {j R R1 R2 g Bn:Nat} (hj:j < a'.length) (hjq:j < qs.length) (hv:val (a'.drop (j+1))=(Bn:Int)*val (qs.drop (j+1))+R) {d:Nat} (hd:gt a' (j:Int)=(d:Int)) (h1:R1=R*1000000000+d) (h2:R1=g*Bn+R2):
  val (a'.drop j)=(Bn:Int)*val ((st qs (j:Int) (g:Int)).drop j)+R2:=by
 rw [sJ,uX a' j hj,drop_set qs j _ hjq,←yF,hd,hv]
 simp only [val]
 have h3:((g*Bn+R2:Nat):Int)=((R*1000000000+d:Nat):Int):=by rw [←h2,h1]
 simp only [Int.natCast_add,Int.natCast_mul] at h3
 grind
theorem aSK {a' qs:List Int} {m n f R:Nat} (hf:0 < f) (hn:0 < n) (va:val a'=((m*f:Nat):Int)) (hv:val a'=((n*f:Nat):Int)*val qs+R) (hR:R < n*f) (hq:Dig qs):val qs=((m / n:Nat):Int)∧R=(m % n)*f:=by
 obtain ⟨Q,hQ⟩:∃Q:Nat,val qs=(Q:Int):=⟨(val qs).toNat,by have:=bS hq;omega⟩
 rw [hQ,va] at hv
 have e:m*f=n*f*Q+R:=by exact_mod_cast hv
 have e1:m*f / (n*f)=Q:=by rw [e,Nat.mul_add_div (by exact Nat.mul_pos hn hf),Nat.div_eq_of_lt hR,Nat.add_zero]
 have e2:m*f % (n*f)=R:=by rw [e,Nat.mul_add_mod,Nat.mod_eq_of_lt hR]
 rw [Nat.mul_div_mul_right _ _ hf] at e1
 rw [Nat.mul_mod_mul_right] at e2
 exact ⟨by rw [hQ,e1],e2.symm⟩
section
variable {X:List Nat} {w0:World} {M0:List Ent} {I0:List aL}
theorem aTT {p q:Option Addr} {m n cp cq:Nat} (hm:(gr m).length≤50000000000) (hn1:(gr n).length=1) (hp:aI p (recs eG (gr m))∈I0) (hq:aI q (recs eG (gr n))∈I0):
  CD Tryz.prog 245 [.slice p (gr m).length cp, .slice q (gr n).length cq] X w0 M0 I0 (QrP (m / n) (m % n) M0 I0):=by
 have hn0:0 < n:=by
  rcases Nat.eq_zero_or_pos n with h|h
  ·rw [h,gQ] at hn1;simp at hn1
  ·exact h
 have hnb:n < 1000000000:=by
  have:=jW (bT n)
  rw [cZ,hn1] at this
  omega
 have hgt:gt (gr n) 0=(n:Int):=by rw [wU hn0 hnb];rfl
 have hS:=fun M0 I0=>aGQ (X:=X) (w0:=w0) (M0:=M0) (I0:=I0) (q:=p) (n:=m) (c:=cp) (d:=n) (by omega) ⟨hn0,hnb⟩
 have hr:=Nat.mod_lt m hn0
 have hvr:val [((m % n:Nat):Int)]=((m % n:Nat):Int):=by simp [val]
 have hdr:Dig [((m % n:Nat):Int)]:=by rw [Dig.cons];exact ⟨by omega,Dig.nil⟩
 refine aM Tryz.func245 rfl Tryz.ntmps245 rfl ?_
 repeat refine aQ ?_
 rw [hgt]
 repeat refine aQ ?_
 (refine bD rfl (hS _ _ aA) ?_;rintro _ _ _ ⟨rfl,p1,c1,hc1,rfl,rfl⟩;refine aN ?_)
 repeat refine aQ ?_
 refine gK (cs:=recs eG [((m % n:Nat):Int)]) ([.int .u32 ((m % n:Nat):Int)]) rfl (fun b1=>?_)
 refine aH yE ?_
 (refine bD rfl (nU (l:=[((m % n:Nat):Int)]) (by simp) (Nat.le_refl 1) (.inl (Ok.mk _ _)) hdr hvr aA) ?_;rintro _ _ _ ⟨rfl,p2,c2,rfl,hc2,rfl⟩;refine aN ?_)
 repeat refine aQ ?_
 refine tyS [4,5] rfl rfl (⟨rfl,p1,c1,p2,c2,hc1,hc2,rfl,rfl⟩)
theorem aTP {p q:Option Addr} {m n cp cq:Nat} (hm:(gr m).length≤50000000000) (hn:(gr n).length≤50000000000) (hn1:¬(gr n).length=1) (hlt:m < n) (hcp:sO p m cp) (hp:aI p (recs eG (gr m))∈I0) (hq:aI q (recs eG (gr n))∈I0):
  CD Tryz.prog 245 [.slice p (gr m).length cp, .slice q (gr n).length cq] X w0 M0 I0 (QrP (m / n) (m % n) M0 I0):=by
 have e1:m / n=0:=Nat.div_eq_of_lt hlt
 have e2:m % n=m:=Nat.mod_eq_of_lt hlt
 rw [e1,e2]
 unfold QrP
 simp only [gQ]
 have hC:=fun M0 I0=>aAO (X:=X) (w0:=w0) (M0:=M0) (I0:=I0) (p:=p) (q:=q) (m:=m) (n:=n) (cp:=cp) (cq:=cq) (by omega) (by omega)
 rw [aAD (by omega)] at hC
 refine aM Tryz.func245 rfl Tryz.ntmps245 rfl ?_
 repeat refine aQ ?_
 refine dH rfl (hC _ _ aA aA) ?_
 repeat refine aQ ?_
 refine gK (cs:=recs eG []) ([]) rfl (fun b1=>?_)
 refine aH yE ?_
 repeat refine aQ ?_
 refine gJ [4,5] (by first|exact .inl rfl|exact .inr rfl) rfl rfl rfl _ _ aF aC (⟨rfl,some ⟨b1,0,none⟩,0,p,cp,⟨by rw [gQ];simp, .inl (Ok.mk _ _)⟩,hcp,rfl,rfl⟩)
theorem aRZ {p q:Option Addr} {m n cp cq t:Nat} (hm:(gr m).length≤50000000000) (ht:(gr n).length=t+1) (ht1:¬(gr n).length=1) (hle:¬m < n) (hp:aI p (recs eG (gr m))∈I0) (hq:aI q (recs eG (gr n))∈I0):
  CD Tryz.prog 245 [.slice p (gr m).length cp, .slice q (gr n).length cq] X w0 M0 I0 (QrP (m / n) (m % n) M0 I0):=by
 have hn0:0 < n:=by
  rcases Nat.eq_zero_or_pos n with h|h
  ·rw [h,gQ] at ht;simp at ht
  ·exact h
 have hlmn:(gr n).length≤(gr m).length:=gY (by omega)
 obtain ⟨bt,hbt,hbt1,hbt2⟩:=aXI (n:=n) (by omega)
 obtain ⟨f,hf1,hf2,ef⟩:=aLC (bt:=bt) ⟨hbt1,hbt2⟩
 have hf3:f*(bt+1)≤1000000000:=by
  have e:f=1000000000 / (bt+1):=by
   rw [Int.tdiv_eq_ediv_of_nonneg (by decide)] at ef
   have:((1000000000 / (bt+1):Nat):Int)=(f:Int):=by rw [←ef,Int.natCast_ediv];rfl
   omega
  rw [e];exact Nat.div_mul_le_self _ _
 have hlb:=aSW (n:=n) (by omega) hbt hf1 hf3
 have hla:=vC (m:=m) hf1 hf2
 have hlab:(gr (n*f)).length≤(gr (m*f)).length:=gY (Nat.mul_le_mul_right _ (by omega))
 have hC:=fun M0 I0=>aAO (X:=X) (w0:=w0) (M0:=M0) (I0:=I0) (p:=p) (q:=q) (m:=m) (n:=n) (cp:=cp) (cq:=cq) (by omega) (by omega)
 have hcv:=aAT (x:=(m:Int)) (y:=(n:Int)) (by omega)
 generalize gD (m:Int) (n:Int)=cv at*
 have hS1:=fun M0 I0=>yP (X:=X) (w0:=w0) (M0:=M0) (I0:=I0) (p:=p) (m:=m) (d:=f) (cp:=cp) (by omega) hf2
 have hS2:=fun M0 I0=>yP (X:=X) (w0:=w0) (M0:=M0) (I0:=I0) (p:=q) (m:=n) (d:=f) (cp:=cq) (by omega) hf2
 refine aM Tryz.func245 rfl Tryz.ntmps245 rfl ?_
 repeat refine aQ ?_
 refine dH rfl (hC _ _ aA aA) ?_
 repeat refine aQ ?_
 rw [hbt]
 repeat refine aQ ?_
 rw [ef]
 repeat refine aQ ?_
 (refine bD rfl (hS1 _ _ aA) ?_;rintro _ _ _ ⟨rfl,pa,ca,rfl,hca,rfl⟩;refine aN ?_)
 repeat refine aQ ?_
 (refine bD rfl (hS2 _ _ aA) ?_;rintro _ _ _ ⟨rfl,pb,cb,rfl,hcb,rfl⟩;refine aN ?_)
 repeat refine aQ ?_
 rw [ht] at hlb hlmn
 clear hS1 hS2 hC hp hq ef hf3 hbt
 have vA:=cZ (m*f)
 have dA:=bT (m*f)
 have hla3:(gr (m*f)).length≤50000000001:=by omega
 clear hla
 have hmf0:0 < n*f:=Nat.mul_pos hn0 hf1
 obtain ⟨An,hAn⟩:∃A,m*f=A:=⟨_,rfl⟩
 obtain ⟨Bn,hBn⟩:∃A,n*f=A:=⟨_,rfl⟩
 rw [hAn] at vA dA hca hlab hla3 ⊢
 rw [hBn] at hcb hlb hlab hmf0 ⊢
 obtain ⟨hca1,hca2⟩:=hca
 have hokA:Ok pa:=hca2.resolve_right (fun h=>by omega)
 obtain ⟨La,hLa⟩:∃L,(gr An).length=L:=⟨_,rfl⟩
 obtain ⟨A',hA'⟩:∃A,gr An=A:=⟨_,rfl⟩
 rw [ht,hLa]
 rw [hLa] at hlab hla3 hca1
 rw [hlb] at hlab
 rw [hA'] at vA dA hLa ⊢
 have hdl:(A'.drop (La - t)).length=t:=by rw [List.length_drop];omega
 have hd0:=dA.drop (La - t)
 obtain ⟨R0,hR0⟩:∃R:Nat,val (A'.drop (La - t))=(R:Int):=⟨(val (A'.drop (La - t))).toNat,by have:=bS hd0;omega⟩
 have hR0l:R0 < Bn:=by
  have h1:=jW hd0
  rw [hdl,hR0] at h1
  have h2:=aBN (wV Bn) (by omega)
  rw [hlb,cZ,Nat.add_sub_cancel] at h2
  omega
 refine bBJ (a:=pa) (ms:=A') ca (La - t) La aA (by omega) ?_
 rw [List.take_of_length_le (show A'.length≤La by omega)]
 refine aD rfl (fun _=>pR (e:=121) (sz:=1) (La - t) La t rfl (.inr ⟨_,_,_,rfl,rfl,by omega⟩) (.inl ⟨rfl,rfl⟩) (by omega) (by omega) (by omega)) rfl rfl ?_
 have hM:=fun M0 I0=>nU (X:=X) (w0:=w0) (M0:=M0) (I0:=I0) (q:=xD pa ca (La - t) 1) (l:=A'.drop (La - t)) (c:=ca - (La - t)) (by omega) (by omega) (.inl (aYU hokA)) hd0 hR0
 rw [hdl] at hM
 (refine bD rfl (hM _ _ aA) ?_;rintro _ _ _ ⟨rfl,pr0,cr0,rfl,hcr0,rfl⟩;refine aN ?_)
 repeat refine aQ ?_
 (refine jO (La - t) rfl rfl (by omega) (by omega) (by omega) (by omega) (nI _ _) rfl rfl ?_;intro bq;refine aN ?_)
 repeat refine aQ ?_
 obtain ⟨gB,hgB⟩:∃L,gr Bn=L:=⟨_,rfl⟩
 have hz0:(List.replicate (La - t) (0:Int)).drop (La - t)=[]:=List.drop_of_length_le (by simp)
 have hlgB:gB.length=t+1:=by rw [←hgB];exact hlb
 refine bX [0,1,6,9,11] rfl (fun k G M I=>∃(i:Nat) (x:Int) (R:Nat) (qs:List Int) (pr:Option Addr) (cr:Nat),i≤La - t∧k=i∧x=(i:Int) - 1∧qs.length=La - t∧Dig qs∧R < Bn∧sO pr R cr∧val (A'.drop i)=(Bn:Int)*val (qs.drop i)+R∧G=[(10, .slice pr (gr R).length cr),(12, .int .i64 x)]∧M= .blk bq (recs eG qs) 121::M0∧I=aI pr (recs eG (gr R))::aI pb (recs eG (gr Bn))::aI pa (recs eG A')::I0) (La - t) _ _ _ dB aF aC (⟨La - t,_,R0,_,pr0,cr0,by omega,rfl,by omega,by simp,Dig.zeros _,hR0l,hcr0,by rw [hR0,hz0];simp [val],rfl,rfl,rfl⟩) ?_
 rintro k G M I ⟨i,x,R,qs,pr,cr,hi,rfl,hx,hql,hdq,hRl,hcr,hv,rfl,rfl,rfl⟩
 have hlR:(gr R).length≤t+1:=by rw [←hlb];exact gY (by omega)
 by_cases h0:k=0
 ·subst h0
  rw [List.drop_zero,List.drop_zero] at hv
  rw [←hBn] at hv hRl
  obtain ⟨hq1,hr1⟩:=aSK hf1 hn0 (by rw [vA,hAn]) hv hRl hdq
  have hS:=fun M0 I0=>aGQ (X:=X) (w0:=w0) (M0:=M0) (I0:=I0) (q:=pr) (n:=R) (c:=cr) (d:=f) (by omega) ⟨hf1,hf2⟩
  have e1:R / f=m % n:=by rw [hr1,Nat.mul_div_cancel _ hf1]
  rw [e1] at hS
  have hM2:=fun M0 I0=>nU (X:=X) (w0:=w0) (M0:=M0) (I0:=I0) (q:=some ⟨bq,0,none⟩) (c:=La - t) (by omega) (by omega) (.inl (Ok.mk _ _)) hdq hq1
  rw [hql] at hM2
  repeat refine aQ ?_
  (refine bD rfl (hS _ _ aA) ?_;rintro _ _ _ ⟨rfl,p2,c2,hc2,rfl,rfl⟩;refine aN ?_)
  repeat refine aQ ?_
  refine aH (b:=bq) yE ?_
  (refine bD rfl (hM2 _ _ aA) ?_;rintro _ _ _ ⟨rfl,p1,c1,rfl,hc1,rfl⟩;refine aN ?_)
  repeat refine aQ ?_
  refine tyS [4,5] rfl rfl (⟨rfl,p1,c1,p2,c2,hc1,hc2,rfl,rfl⟩)
 ·obtain ⟨j,rfl⟩:∃j,k=j+1:=⟨k - 1,by omega⟩
  obtain rfl:x=(j:Int):=by omega
  have d1:=dA.gt j
  obtain ⟨d,hd⟩:∃d:Nat,gt A' (j:Int)=(d:Int):=⟨(gt A' (j:Int)).toNat,by omega⟩
  rw [hd] at d1
  have hSh:=fun M0 I0=>aLL (X:=X) (w0:=w0) (M0:=M0) (I0:=I0) (p:=pr) (m:=R) (d:=d) (cp:=cr) (by omega) (by omega) hcr
  obtain ⟨R1,hR1⟩:∃R1,R1=R*1000000000+d:=⟨_,rfl⟩
  rw [←hR1] at hSh
  have hR1l:R1 < Bn*1000000000:=by
   have:(R+1)*1000000000≤Bn*1000000000:=Nat.mul_le_mul_right _ hRl
   omega
  obtain ⟨g,hg1,hg2,hg3⟩:=aKI hlb hR1l
  have q1:=aDW (n:=R1) (i:=t+1)
  have q2:=aDW (n:=R1) (i:=t)
  have q3:=aDW (n:=Bn) (i:=t)
  have hG1:=fun (pp:Option Addr) (cc:Nat) M0 I0=>qO (X:=X) (w0:=w0) (M0:=M0) (I0:=I0) (q:=pp) (l:=gr R1) (n:=(gr R1).length) (c:=cc) (i:=((t+1:Nat):Int)) rfl (by omega)
  have hG2:=fun (pp:Option Addr) (cc:Nat) M0 I0=>qO (X:=X) (w0:=w0) (M0:=M0) (I0:=I0) (q:=pp) (l:=gr R1) (n:=(gr R1).length) (c:=cc) (i:=(t:Int)) rfl (by omega)
  have hSc:=fun M0 I0=>yP (X:=X) (w0:=w0) (M0:=M0) (I0:=I0) (p:=pb) (m:=Bn) (d:=g) (cp:=cb) (by omega) hg3
  have hlR1:(gr R1).length≤t+2:=by
   have h1:=(vC (m:=Bn) (f:=999999999) (by omega) (by omega)).2
   refine rT ?_
   have h2:=jW (bT Bn)
   rw [cZ,hlb] at h2
   have h3:(R1:Int) < ((1000000000 ^ (t+2):Nat):Int):=by
    rw [Int.natCast_pow,show t+2=(t+1)+1 from rfl,Int.pow_succ]
    have:((R1:Nat):Int) < (Bn:Int)*1000000000:=by omega
    have h5:(Bn:Int)*1000000000≤1000000000 ^ (t+1)*1000000000:=by omega
    exact Int.lt_of_lt_of_le this h5
   omega
  have hMi:=fun (pp pp':Option Addr) (cc cc':Nat) M0 I0=>xW (X:=X) (w0:=w0) (M0:=M0) (I0:=I0) (p:=pp) (q:=pp') (m:=R1) (n:=Bn*g) (cp:=cc) (cq:=cc') (by omega) (by rw [Nat.mul_comm];exact hg2)
  obtain ⟨Rg,hRg⟩:∃x,x=R1 - Bn*g:=⟨_,rfl⟩
  rw [←hRg] at hMi
  have hRg2:R1=g*Bn+Rg:=by rw [hRg,Nat.mul_comm Bn g];omega
  have et:((t+1:Nat):Int) - 1=(t:Int):=by omega
  have q4:0≤gt (gr Bn) (((t+1:Nat):Int) - 1)∧gt (gr Bn) (((t+1:Nat):Int) - 1) < 1000000000:=by rw [et];exact q3
  repeat refine aQ ?_
  rw [hd]
  (refine bD rfl (hSh _ _ aA) ?_;rintro _ _ _ ⟨rfl,p3,c3,rfl,hc3,rfl⟩;refine aN ?_)
  repeat refine aQ ?_
  (repeat refine aG ?_);refine eO [0,1,4,5,6,9,10,11,12,13,14,15,2,3,7,8,16,17] [1,1,1,2,1,2,2,2,2,2,2,2,0,1,0,0,0,0] mixed (by kernel_rfl) ?_
  repeat refine aQ ?_
  rw [et]
  refine dH rfl (hG1 p3 c3 _ _ aA (bT R1)) ?_
  repeat refine aQ ?_
  refine dH rfl (hG2 p3 c3 _ _ aA (bT R1)) ?_
  repeat refine aQ ?_
  rw [hg1]
  repeat refine aQ ?_
  (refine bD rfl (hSc _ _ aA) ?_;rintro _ _ _ ⟨rfl,p4,c4,rfl,hc4,rfl⟩;refine aN ?_)
  (refine bD rfl (hMi p3 p4 c3 c4 _ _ aA aA) ?_;rintro _ _ _ ⟨rfl,p5,c5,rfl,hc5,rfl⟩;refine aN ?_)
  repeat refine aQ ?_
  clear hSh hSc hMi hG1 hG2
  refine bX [0,1,6,9,11,12] rfl (fun k G M I=>∃(R2 g2:Nat) (gi:Int) (p6:Option Addr) (c6:Nat),k=R2∧R1=g2*Bn+R2∧gi=g2∧sO p6 R2 c6∧G=[(10, .slice p6 (gr R2).length c6),(13, .int .u64 gi)]∧M= .blk bq (recs eG qs) 121::M0∧I=aI p6 (recs eG (gr R2))::aI pb (recs eG (gr Bn))::aI pa (recs eG A')::I0) (Rg) _ _ _ dB aF aC (⟨Rg,g,_,p5,c5,rfl,hRg2,rfl,hc5,rfl,rfl,rfl⟩) ?_
  rintro k G M I ⟨R2,g2,gi,p6,c6,rfl,hR2,hgi,hc6,rfl,rfl,rfl⟩
  have hg9:g2 < 1000000000:=by
   have h1:g2*Bn < 1000000000*Bn:=by omega
   exact Nat.lt_of_mul_lt_mul_right h1
  have hl2:(gr k).length≤t+2:=Nat.le_trans (gY (by omega)) hlR1
  have hSz:=fun M0 I0=>aAO (X:=X) (w0:=w0) (M0:=M0) (I0:=I0) (p:=p6) (q:=pb) (m:=k) (n:=Bn) (cp:=c6) (cq:=cb) (by omega) (by omega)
  by_cases hlt:k < Bn
  ·rw [aAD (by omega)] at hSz
   repeat refine aQ ?_
   refine dH rfl (hSz _ _ aA aA) ?_
   repeat refine aQ ?_
   refine cO (j) _ _ _ (by first|omega|(simp only [List.length_append,List.length_cons,List.length_nil];omega)) dB aF aC (⟨j,(j:Int) - 1,k,_,p6,c6,by omega,rfl,by omega,by rw [dK];exact hql,by rw [sJ];exact hdq.set _ (by omega),hlt,hc6,by rw [hgi];exact aOG (by omega) (by omega) hv hd hR1 hR2,rfl,rfl,rfl⟩)
  ·have hcv2:=aAT (x:=(k:Int)) (y:=(Bn:Int)) (by omega)
   generalize gD (k:Int) (Bn:Int)=cv2 at*
   have hMi2:=fun M0 I0=>xW (X:=X) (w0:=w0) (M0:=M0) (I0:=I0) (p:=p6) (q:=pb) (m:=k) (n:=Bn) (cp:=c6) (cq:=cb) (by omega) (by omega)
   obtain ⟨R4,hR4⟩:∃x,x=k - Bn:=⟨_,rfl⟩
   rw [←hR4] at hMi2
   have hR3:R1=(g2+1)*Bn+R4:=by rw [Nat.add_mul];omega
   repeat refine aQ ?_
   refine dH rfl (hSz _ _ aA aA) ?_
   repeat refine aQ ?_
   (refine bD rfl (hMi2 _ _ aA aA) ?_;rintro _ _ _ ⟨rfl,p7,c7,rfl,hc7,rfl⟩;refine aN ?_)
   repeat refine aQ ?_
   refine gL (R4) (⟨R4,g2+1,gi+1,p7,c7,rfl,hR3,by omega,hc7,rfl,rfl,rfl⟩)
theorem aMH {p q:Option Addr} {m n cp cq:Nat} (hm:(gr m).length≤50000000000) (hn0:(gr n).length≤50000000000) (hn:0 < n) (hcp:sO p m cp) (hp:aI p (recs eG (gr m))∈I0) (hq:aI q (recs eG (gr n))∈I0):
  CD Tryz.prog 245 [.slice p (gr m).length cp, .slice q (gr n).length cq] X w0 M0 I0 (QrP (m / n) (m % n) M0 I0):=by
 have h1:0 < (gr n).length:=List.length_pos_iff.2 (fun e=>by have:=oZ.1 e;omega)
 by_cases hn1:(gr n).length=1
 ·exact aTT hm hn1 hp hq
 ·by_cases hlt:m < n
  ·exact aTP hm hn0 hn1 hlt hcp hp hq
  ·exact aRZ (t:=(gr n).length - 1) hm (by omega) hn1 hlt hp hq
end
section
variable {X:List Nat} {w0:World} {M0:List Ent} {I0:List aL}
theorem aHN {neg:Bool} {q:Option Addr} {gs:List Int} {c:Nat} (hn:(gs.length:Int)≤9223372036854775807) (hq:aI q (recs eG gs)∈I0):
  CD Tryz.prog 182 [.agg #[.bool neg, .slice q gs.length c]] X w0 M0 I0 (fun v M I=>M0=M∧I0=I∧v= .bool (B (vM neg gs))):=by
 refine aR Tryz.func182 rfl Tryz.ntmps182 rfl ?_
 refine gG ?_
 refine gN rfl (fun b=>?_)
 repeat refine aQ ?_
 refine lX [1,3] rfl (fun k G M I=>∃i:Nat,i≤gs.length∧k=gs.length - i∧(∀j:Nat,j < i→gt gs (j:Int) < 1000000000)∧G=[(4, .int .i64 i)]∧M= .blk b [.bool neg, .slice q gs.length c] 42::M0∧I0=I) (gs.length) (⟨0,by omega,rfl,fun j hj=>by omega,rfl,rfl,rfl⟩) ?_
 rintro k G M I ⟨i,hi,rfl,hs,rfl,rfl,rfl⟩
 by_cases hin:i < gs.length
 ·repeat' (first|refine aQ ?_|refine aJ rfl (fun h=>?_) (fun h=>?_)|refine aK rfl rfl (fun h=>?_) (fun h=>?_)|fail)
  ·have h1:=h
   have hF:¬vM neg gs:=by
    unfold vM
    rintro (⟨h2,_⟩|⟨_,_,h2⟩)
    ·rw [h2] at hin;simp at hin
    ·exact h2 ⟨gt gs (i:Int),(by rw [fH hin];exact List.getElem_mem hin),h1⟩
   rw [←bH hF]
   refine iR rfl rfl (⟨rfl,rfl,rfl⟩)
  ·refine gL (gs.length - (i+1)) (⟨i+1,by omega,rfl,fun j hj=>?_,rfl,rfl,rfl⟩)
   by_cases e:j=i
   ·subst e;omega
   ·exact hs j (by omega)
 ·obtain rfl:i=gs.length:=by omega
  by_cases h0:gs.length=0
  ·have hg:gs=[]:=List.eq_nil_of_length_eq_zero h0
   repeat refine aQ ?_
   refine aU (by first|exact .inl rfl|exact .inr rfl) rfl rfl _ _ aF aC (⟨rfl,rfl,by rw [show (!neg)=B (vM neg gs) by rw [tZ,hg];cases neg <;>simp [vM]]⟩)
  ·have hgs:gs≠[]:=fun e=>h0 (by rw [e];rfl)
   have hlast:=aDM (gs:=gs) (by omega)
   repeat refine aQ ?_
   refine iR rfl rfl (⟨rfl,rfl,congrArg Value.bool (iZ ?_)⟩)
   unfold vM Top
   rw [hlast]
   refine ⟨fun h=> .inr ⟨hgs,h,?_⟩,fun h=>h.elim (fun h=>absurd h.1 hgs) (fun h=>h.2.1)⟩
   rintro ⟨x,hx,h9⟩
   obtain ⟨j,hj,rfl⟩:=List.mem_iff_getElem.1 hx
   have:=hs j hj
   rw [fH hj] at this
   omega
theorem uQ {p:Prop} [Decidable p] {q:Option Addr} {l:List Int} {n c k:Nat} (h63:l.length≤1000000000000) (hc:l.length≤c) (hok:Ok q∨(l.length=0∧c=0)) (hd:Dig l) (hv:val l=n) (hk:n≤2 ^ k) (hl:aI q (recs eG l)∈I0):
  CD Tryz.prog 228 [.bool (B p), .slice q l.length c] X w0 M0 I0 (fun v M I=>M0=M∧I=iA v (sg p n) k::I0):=
 CD.post (aHW h63 hc hok hd hv hl) (fun v M1 I1 w ⟨e1,q',c',e2,hc',e3⟩ hw=>by
  subst e1;subst e2;subst e3
  have ha:=aVM p n
  have hiv:iv q' c' (sg p n)= .agg #[.bool (B (p∧n≠0)), .slice q' (gr n).length c']:=by
   unfold iv
   rw [ha]
   refine congrArg (fun x=>Value.agg #[.bool x, .slice q' (gr n).length c']) (iZ ?_)
   unfold sg
   by_cases hp:p
   ·rw [if_pos hp];constructor
    ·intro h;exact ⟨hp,by omega⟩
    ·intro h;have:=h.2;omega
   ·rw [if_neg hp];constructor
    ·intro h;omega
    ·intro h;exact absurd h.1 hp
  refine ⟨_,_,⟨rfl,rfl⟩,?_⟩
  have h1:=aII (q:=q') (c:=c') (z:=sg p n) (k:=k) hw (by rw [ha];exact List.Mem.head _) (by rw [ha];exact hc') (by rw [ha];exact hk)
  rw [hiv] at h1
  exact h1.inc (Inc.cons (List.Mem.head _) (Inc.wk (Inc.wk Inc.refl))))
def VoP (z:Int) (M0:List Ent) (I0:List aL) (v:Value) (M:List Ent) (I:List aL):Prop:=M0=M∧∃q c,v= .agg #[.bool (B (z < 0)), .slice q (gr z.natAbs).length c]∧sO q z.natAbs c∧I=aI q (recs eG (gr z.natAbs))::I0
theorem lN {q:Option Addr} {c k:Nat} {z:Int} (hz:z.natAbs≤2 ^ k) (hk:k≤1000000000000) (hc:sO q z.natAbs c) (hq:aI q (recs eG (gr z.natAbs))∈I0):
  CD Tryz.prog 214 [.agg #[.bool (B (z < 0)), .slice q (gr z.natAbs).length c]] X w0 M0 I0 (VoP z M0 I0):=by
 have hl:=fV hz hk
 have hV:=fun M0 I0=>aHN (X:=X) (w0:=w0) (M0:=M0) (I0:=I0) (neg:=B (z < 0)) (q:=q) (gs:=gr z.natAbs) (c:=c) (by omega)
 rw [bK (aCB z)] at hV
 obtain ⟨hc1,hc2⟩:=hc
 refine aR Tryz.func214 rfl Tryz.ntmps214 rfl ?_
 refine gG ?_
 refine gN rfl (fun b=>?_)
 refine cK (fun b2=>?_)
 repeat refine aQ ?_
 refine dH rfl (hV _ _ aA) ?_
 repeat refine aQ ?_
 (repeat refine aG ?_);refine pW (.blk b [.bool (B (z < 0)), .slice q (gr z.natAbs).length c] 42::M0) (I0) [0,1,3,4,2,5,6,7] [2,2,2,1,0,0,0,0] mixed ?_
 repeat refine aQ ?_
 refine gK (cs:=recs eG []) ([]) rfl (fun b1=>?_)
 refine fM (b:=b1) (mm:=0) 1 jJ rfl (by omega) ?_
 refine iB (xs:=[]) (ys:=gr z.natAbs) 0 rfl rfl rfl (Src.imm aA hc2) (by decide) rfl (by simp;omega) (by simp;omega) rfl rfl ?_
 intro a2 c2
 refine aN ?_
 rw [List.nil_append]
 refine nQ (fun w hw=>And.intro (hw.rowLe (List.Mem.head _)) ((hw.rowS (List.Mem.head _)).2.imp id And.right)) (fun ho3=>?_)
 refine fD yE ?_
 (refine aD rfl (fun _=>bC (pvs:=([.bool (B (z < 0)), .slice a2 (gr z.natAbs).length c2]).zipIdx.map (fun p=>(p.2,p.1))) (cells:=[.bool (B (z < 0)), .slice a2 (gr z.natAbs).length c2]) rfl rfl) rfl rfl ?_)
 repeat refine aQ ?_
 refine aO (cs:=[.bool (B (z < 0)), .slice a2 (gr z.natAbs).length c2]) (.inl rfl) rfl rfl aA rfl M0 (aI a2 (recs eG (gr z.natAbs))::I0) aF aC ⟨rfl,a2,c2,rfl,ho3,rfl⟩
theorem wY {u:Value} {z:Int} {k:Nat} (hk:k≤1000000000000) (hu:iA u z k∈I0):CD Tryz.prog 148 [u] X w0 M0 I0 (fun v M I=>M0=M∧I0=I∧v= .int .i64 z.sign):=by
 refine bZ hu (fun q c e hc hz=>?_)
 subst e
 unfold iv
 have hnil:(gr z.natAbs).length=0↔z=0:=by rw [List.length_eq_zero_iff,oZ];omega
 refine aR Tryz.func148 rfl Tryz.ntmps148 rfl ?_
 refine gG ?_
 refine gN rfl (fun b=>?_)
 repeat refine aQ ?_
 (refine bD rfl (lN hz hk hc aA) ?_;rintro _ _ _ ⟨rfl,q2,c2,rfl,hc2,rfl⟩;refine aN ?_)
 by_cases h0:z=0
 ·have:=hnil.2 h0
  repeat refine aQ ?_
  refine aU (by first|exact .inl rfl|exact .inr rfl) rfl rfl _ _ aF aC (⟨rfl,rfl,by rw [h0];rfl⟩)
 ·have:¬(gr z.natAbs).length=0:=fun h=>h0 (hnil.1 h)
  repeat' (first|refine aQ ?_|refine aJ rfl (fun h=>?_) (fun h=>?_)|refine aK rfl rfl (fun h=>?_) (fun h=>?_)|fail)
  ·refine aU (by first|exact .inl rfl|exact .inr rfl) rfl rfl _ _ aF aC (⟨rfl,rfl,by rw [Int.sign_eq_neg_one_of_neg (by assumption)]⟩)
  ·refine aU (by first|exact .inl rfl|exact .inr rfl) rfl rfl _ _ aF aC (⟨rfl,rfl,by rw [Int.sign_eq_one_of_pos (by omega)]⟩)
theorem aJQ {u:Value} {z:Int} {k:Nat} (hk:k≤1000000000000) (hu:iA u z k∈I0):CD Tryz.prog 213 [u] X w0 M0 I0 (fun v M I=>M0=M∧I=iA v (-z) k::I0):=by
 refine bZ hu (fun q c e hc hz=>?_)
 subst e
 have hl:=fV hz hk
 unfold iv
 have hM:=fun q2 c2 (hc2:sO q2 z.natAbs c2) M0 I0=>uQ (X:=X) (w0:=w0) (M0:=M0) (I0:=I0) (p:=¬z < 0) (q:=q2) (l:=gr z.natAbs) (n:=z.natAbs) (c:=c2) (k:=k) (by omega) hc2.1 hc2.2 (bT _) (cZ _) hz
 rw [aOK] at hM
 refine aR Tryz.func213 rfl Tryz.ntmps213 rfl ?_
 refine gG ?_
 refine gN rfl (fun b=>?_)
 refine cK (fun b2=>?_)
 repeat refine aQ ?_
 (refine bD rfl (lN hz hk hc aA) ?_;rintro _ _ _ ⟨rfl,q2,c2,rfl,hc2,rfl⟩;refine aN ?_)
 repeat refine aQ ?_
 (refine bD rfl (hM q2 c2 hc2 _ _ aA) ?_;rintro _ _ _ ⟨rfl,rfl⟩;refine aN ?_;refine aT (List.Mem.head _) (fun q3 c3 e__ hc3 hz3=>?_);subst e__)
 unfold iv
 repeat refine aQ ?_
 refine aO (cs:=[.bool (B (-z < 0)), .slice q3 (gr (-z).natAbs).length c3]) (.inl rfl) rfl rfl aA rfl _ _ aF aC ⟨rfl,rfl⟩
end
section
variable {X:List Nat} {w0:World} {M0:List Ent} {I0:List aL}
theorem aPV {u v:Value} {y z:Int} {k m c:Nat} (hk:k≤1000000000000) (hm:m≤1000000000000) (hc0:c≤1000000000000) (hs:2 ^ k+2 ^ m≤2 ^ c) (hu:iA u y k∈I0) (hv:iA v z m∈I0):CD Tryz.prog 216 [u,v] X w0 M0 I0 (fun v M I=>M0=M∧I=iA v (y+z) c::I0):=by
 refine bZ hu (fun q cq e hc hy=>?_)
 subst e
 refine bZ (List.Mem.tail _ hv) (fun q' cq' e hc' hz=>?_)
 subst e
 have hl:=fV hy (by omega)
 have hl':=fV hz (by omega)
 have hyz:y.natAbs+z.natAbs≤2 ^ c:=Nat.le_trans (Nat.add_le_add hy hz) hs
 unfold iv
 have hP:=fun p1 c1 p2 c2 M0 I0=>aXY (X:=X) (w0:=w0) (M0:=M0) (I0:=I0) (p:=p1) (q:=p2) (m:=y.natAbs) (n:=z.natAbs) (cp:=c1) (cq:=c2) (by omega) (by omega)
 have hC:=fun p1 c1 p2 c2 M0 I0=>aAO (X:=X) (w0:=w0) (M0:=M0) (I0:=I0) (p:=p1) (q:=p2) (m:=y.natAbs) (n:=z.natAbs) (cp:=c1) (cq:=c2) (by omega) (by omega)
 have hMi:=fun (hle:z.natAbs≤y.natAbs) p1 c1 p2 c2 M0 I0=>xW (X:=X) (w0:=w0) (M0:=M0) (I0:=I0) (p:=p1) (q:=p2) (m:=y.natAbs) (n:=z.natAbs) (cp:=c1) (cq:=c2) (by omega) hle
 have hMi2:=fun (hle:y.natAbs≤z.natAbs) p1 c1 p2 c2 M0 I0=>xW (X:=X) (w0:=w0) (M0:=M0) (I0:=I0) (p:=p1) (q:=p2) (m:=z.natAbs) (n:=y.natAbs) (cp:=c1) (cq:=c2) (by omega) hle
 have hMd:=fun (p:Prop) [Decidable p] (n:Nat) (q:Option Addr) (c2:Nat) (h1:sO q n c2) (h2:n≤2 ^ c) M0 I0=>uQ (X:=X) (w0:=w0) (M0:=M0) (I0:=I0) (p:=p) (n:=n) (q:=q) (l:=gr n) (c:=c2) (k:=c) (by have:=fV h2 hc0;omega) h1.1 h1.2 (bT _) (cZ _) h2
 refine aM Tryz.func216 rfl Tryz.ntmps216 rfl ?_
 refine gG ?_
 refine gN rfl (fun b=>?_)
 refine gN rfl (fun b2=>?_)
 refine cK (fun b3=>?_)
 repeat refine aQ ?_
 (repeat refine aG ?_);refine aW 2 [0,2,1,3,4,5] [1,2,0,0,0,0] mixed (by kernel_rfl) ?_
 repeat refine aQ ?_
 (refine bD rfl (lN hy hk hc aA) ?_;rintro _ _ _ ⟨rfl,q3,c3,rfl,hc3,rfl⟩;refine aN ?_)
 repeat refine aQ ?_
 (refine bD rfl (lN hz hm hc' aA) ?_;rintro _ _ _ ⟨rfl,q4,c4,rfl,hc4,rfl⟩;refine aN ?_)
 by_cases hpq:(y < 0↔z < 0)
 ·have hM1:=fun q2 c2 (h:sO q2 (y.natAbs+z.natAbs) c2) M0 I0=>hMd (y < 0) (y.natAbs+z.natAbs) q2 c2 h hyz M0 I0
  rw [aQE hpq,rC,rC] at hM1
  repeat refine aQ ?_
  (repeat refine aG ?_);refine pW (.blk b2 [.bool (B (z < 0)), .slice q4 (gr z.natAbs).length c4] 42:: .blk b [.bool (B (y < 0)), .slice q3 (gr y.natAbs).length c3] 42::M0) (I0) [0,1,2,3,4,5,6,7,8] [2,1,2,1,2,1,0,0,0] mixed ?_
  repeat refine aQ ?_
  (refine bD rfl (hP q3 c3 q4 c4 _ _ aA aA) ?_;rintro _ _ _ ⟨rfl,q5,c5,rfl,hc5,rfl⟩;refine aN ?_)
  (refine bD rfl (hM1 q5 c5 hc5 _ _ aA) ?_;rintro _ _ _ ⟨rfl,rfl⟩;refine aN ?_;refine aT (List.Mem.head _) (fun q6 c6 e__ hc6 hz6=>?_);subst e__)
  unfold iv
  repeat refine aQ ?_
  refine aO (cs:=[.bool (B (y+z < 0)), .slice q6 (gr (y+z).natAbs).length c6]) (.inl rfl) rfl rfl aA rfl _ _ aF aC ⟨rfl,rfl⟩
 ·by_cases hge:z.natAbs≤y.natAbs
  ·have hM1:=fun q2 c2 (h:sO q2 (y.natAbs - z.natAbs) c2) M0 I0=>hMd (y < 0) (y.natAbs - z.natAbs) q2 c2 h (by omega) M0 I0
   rw [aDG hpq hge,rC,rC] at hM1
   have hcv:=aAT (x:=(y.natAbs:Int)) (y:=(z.natAbs:Int)) (by omega)
   generalize gD (y.natAbs:Int) (z.natAbs:Int)=cv at*
   have hMi:=hMi hge
   clear hl hl' hyz hMi2
   repeat refine aQ ?_
   refine dH rfl (hC q3 c3 q4 c4 _ _ aA aA) ?_
   repeat refine aQ ?_
   (repeat refine aG ?_);refine pW (.blk b2 [.bool (B (z < 0)), .slice q4 (gr z.natAbs).length c4] 42:: .blk b [.bool (B (y < 0)), .slice q3 (gr y.natAbs).length c3] 42::M0) (I0) [0,1,2,3,4,5,6,7,8] [2,1,2,1,2,1,0,0,0] mixed ?_
   repeat refine aQ ?_
   (refine bD rfl (hMi q3 c3 q4 c4 _ _ aA aA) ?_;rintro _ _ _ ⟨rfl,q5,c5,rfl,hc5,rfl⟩;refine aN ?_)
   (refine bD rfl (hM1 q5 c5 hc5 _ _ aA) ?_;rintro _ _ _ ⟨rfl,rfl⟩;refine aN ?_;refine aT (List.Mem.head _) (fun q6 c6 e__ hc6 hz6=>?_);subst e__)
   unfold iv
   repeat refine aQ ?_
   refine aO (cs:=[.bool (B (y+z < 0)), .slice q6 (gr (y+z).natAbs).length c6]) (.inl rfl) rfl rfl aA rfl _ _ aF aC ⟨rfl,rfl⟩
  ·have hM1:=fun q2 c2 (h:sO q2 (z.natAbs - y.natAbs) c2) M0 I0=>hMd (z < 0) (z.natAbs - y.natAbs) q2 c2 h (by omega) M0 I0
   rw [aDG (fun h=>hpq h.symm) (by omega),rC,rC,Int.add_comm] at hM1
   have hcv:=aAD (x:=(y.natAbs:Int)) (y:=(z.natAbs:Int)) (by omega)
   generalize gD (y.natAbs:Int) (z.natAbs:Int)=cv at*
   subst hcv
   have hMi:=hMi2 (by omega)
   clear hl hl' hyz hMi2
   repeat refine aQ ?_
   refine dH rfl (hC q3 c3 q4 c4 _ _ aA aA) ?_
   repeat refine aQ ?_
   (repeat refine aG ?_);refine pW (.blk b2 [.bool (B (z < 0)), .slice q4 (gr z.natAbs).length c4] 42:: .blk b [.bool (B (y < 0)), .slice q3 (gr y.natAbs).length c3] 42::M0) (I0) [0,1,2,3,4,5,6,7,8] [2,1,2,1,2,1,0,0,0] mixed ?_
   repeat refine aQ ?_
   (refine bD rfl (hMi q4 c4 q3 c3 _ _ aA aA) ?_;rintro _ _ _ ⟨rfl,q5,c5,rfl,hc5,rfl⟩;refine aN ?_)
   (refine bD rfl (hM1 q5 c5 hc5 _ _ aA) ?_;rintro _ _ _ ⟨rfl,rfl⟩;refine aN ?_;refine aT (List.Mem.head _) (fun q6 c6 e__ hc6 hz6=>?_);subst e__)
   unfold iv
   repeat refine aQ ?_
   refine aO (cs:=[.bool (B (y+z < 0)), .slice q6 (gr (y+z).natAbs).length c6]) (.inl rfl) rfl rfl aA rfl _ _ aF aC ⟨rfl,rfl⟩
end
theorem aIO (k m:Nat):2 ^ k+2 ^ m≤2 ^ (k+m+1):=by
 have h1:2 ^ k≤2 ^ (k+m):=Nat.pow_le_pow_right (by decide) (by omega)
 have h2:2 ^ m≤2 ^ (k+m):=Nat.pow_le_pow_right (by decide) (by omega)
 rw [Nat.pow_succ];omega
theorem aQL (y z:Int):(y - z).sign=gD y z:=by
 unfold gD
 by_cases h1:y < z
 ·rw [if_pos h1];exact Int.sign_eq_neg_one_of_neg (by omega)
 ·rw [if_neg h1]
  by_cases h2:z < y
  ·rw [if_pos h2];exact Int.sign_eq_one_of_pos (by omega)
  ·rw [if_neg h2,show y - z=0 by omega];rfl
theorem bFU (y z:Int):sg (¬(y < 0↔z < 0)) (y.natAbs*z.natAbs)=y*z:=by
 unfold sg
 rw [Int.natCast_mul]
 by_cases h1:y < 0 <;>by_cases h2:z < 0 <;>simp only [h1,h2,not_true_eq_false,not_false_eq_true,iff_true,iff_false,if_true,if_false]
 ·rw [show (y.natAbs:Int)= -y by omega,show (z.natAbs:Int)= -z by omega,Int.neg_mul_neg]
 ·rw [show (y.natAbs:Int)= -y by omega,show (z.natAbs:Int)=z by omega,Int.neg_mul,Int.neg_neg]
 ·rw [show (y.natAbs:Int)=y by omega,show (z.natAbs:Int)= -z by omega,Int.mul_neg,Int.neg_neg]
 ·rw [show (y.natAbs:Int)=y by omega,show (z.natAbs:Int)=z by omega]
section
variable {X:List Nat} {w0:World} {M0:List Ent} {I0:List aL}
theorem aIM {u v:Value} {y z:Int} {k m c:Nat} (hk:k≤1000000000000) (hm:m≤1000000000000) (hc0:c≤1000000000000) (hs:2 ^ k+2 ^ m≤2 ^ c) (hu:iA u y k∈I0) (hv:iA v z m∈I0):CD Tryz.prog 244 [u,v] X w0 M0 I0 (fun v M I=>M0=M∧I=iA v (y - z) c::I0):=by
 refine bZ hu (fun q cq e hc hy=>?_)
 subst e
 refine bZ (List.Mem.tail _ hv) (fun q' cq' e hc' hz=>?_)
 subst e
 have hA:=fun v M0 I0=>aPV (X:=X) (w0:=w0) (M0:=M0) (I0:=I0) (u:=iv q cq y) (v:=v) (y:=y) (z:= -z) (k:=k) (m:=m) (c:=c) hk hm hc0 hs
 rw [←Int.sub_eq_add_neg] at hA
 unfold iv at*
 refine aM Tryz.func244 rfl Tryz.ntmps244 rfl ?_
 refine gG ?_
 refine gN rfl (fun b=>?_)
 refine gN rfl (fun b2=>?_)
 refine cK (fun b3=>?_)
 repeat refine aQ ?_
 (repeat refine aG ?_);refine aW 2 [0,1,2,3,4] [1,1,0,0,0] mixed (by kernel_rfl) ?_
 repeat refine aQ ?_
 (refine bD rfl (aJQ hm aA) ?_;rintro _ _ _ ⟨rfl,rfl⟩;refine aN ?_)
 (refine bD rfl (hA _ _ _ aA aA) ?_;rintro _ _ _ ⟨rfl,rfl⟩;refine aN ?_;refine aT (List.Mem.head _) (fun q6 c6 e__ hc6 hz6=>?_);subst e__)
 unfold iv
 repeat refine aQ ?_
 refine aO (cs:=[.bool (B (y - z < 0)), .slice q6 (gr (y - z).natAbs).length c6]) (.inl rfl) rfl rfl aA rfl _ _ aF aC ⟨rfl,rfl⟩
theorem aJZ {u v:Value} {y z:Int} {k m:Nat} (hk:k≤400000000000) (hm:m≤400000000000) (hu:iA u y k∈I0) (hv:iA v z m∈I0):CD Tryz.prog 183 [u,v] X w0 M0 I0 (fun v M I=>M0=M∧I0=I∧v= .int .i64 (gD y z)):=by
 refine bZ hu (fun q cq e hc hy=>?_)
 subst e
 refine bZ (List.Mem.tail _ hv) (fun q' cq' e hc' hz=>?_)
 subst e
 have hS:=fun M0 I0=>aIM (X:=X) (w0:=w0) (M0:=M0) (I0:=I0) (u:=iv q cq y) (v:=iv q' cq' z) (k:=k) (m:=m) (c:=k+m+1) (y:=y) (z:=z) (by omega) (by omega) (by omega) (aIO k m)
 rw [←aQL]
 unfold iv at*
 refine aM Tryz.func183 rfl Tryz.ntmps183 rfl ?_
 refine gG ?_
 refine gN rfl (fun b=>?_)
 refine gN rfl (fun b2=>?_)
 repeat refine aQ ?_
 (refine bD rfl (hS _ _ aA aA) ?_;rintro _ _ _ ⟨rfl,rfl⟩;refine aN ?_)
 refine dH rfl (wY (k:=k+m+1) (by omega) aA) ?_
 repeat refine aQ ?_
 refine iR rfl rfl (⟨rfl,rfl,rfl⟩)
theorem tN {u v:Value} {y z:Int} {k0 m0:Nat} (hk:k0+m0≤1000000000000) (hu:iA u y k0∈I0) (hv:iA v z m0∈I0):CD Tryz.prog 211 [u,v] X w0 M0 I0 (fun v M I=>M0=M∧I=iA v (y*z) (k0+m0)::I0):=by
 refine bZ hu (fun q cq e hc hy=>?_)
 subst e
 refine bZ (List.Mem.tail _ hv) (fun q' cq' e hc' hz=>?_)
 subst e
 have hl:=fV hy (by omega)
 have hl':=fV hz (by omega)
 have hyz:y.natAbs*z.natAbs≤2 ^ (k0+m0):=aCM hy hz
 have hl3:=fV hyz (by omega)
 unfold iv
 have hMd:=fun (q:Option Addr) (l:List Int) (h0:l.length≤1000000000000) (c2:Nat) (h1:l.length≤c2) (h2:Ok q) (h3:Dig l) (h4:val l=((y.natAbs*z.natAbs:Nat):Int)) M0 I0=>uQ (X:=X) (w0:=w0) (M0:=M0) (I0:=I0) (p:=¬(y < 0↔z < 0)) (n:=y.natAbs*z.natAbs) (q:=q) (l:=l) (c:=c2) (k:=k0+m0) h0 h1 (.inl h2) h3 h4 hyz
 rw [bFU] at hMd
 refine aM Tryz.func211 rfl Tryz.ntmps211 rfl ?_
 refine gG ?_
 refine gN rfl (fun bx=>?_)
 refine gN rfl (fun bz=>?_)
 refine cK (fun b3=>?_)
 repeat refine aQ ?_
 (repeat refine aG ?_);refine aW 2 [0,2,1,3,4,5] [1,2,0,0,0,0] mixed (by kernel_rfl) ?_
 repeat refine aQ ?_
 (refine bD rfl (lN hy (by omega) hc aA) ?_;rintro _ _ _ ⟨rfl,q3,c3,rfl,hc3,rfl⟩;refine aN ?_)
 repeat refine aQ ?_
 (refine bD rfl (lN hz (by omega) hc' aA) ?_;rintro _ _ _ ⟨rfl,q4,c4,rfl,hc4,rfl⟩;refine aN ?_)
 have da:=bT y.natAbs
 have db:=bT z.natAbs
 have va:=cZ y.natAbs
 have vb:=cZ z.natAbs
 clear hl3 hyz hc hc' hc3 hc4
 generalize ha:gr y.natAbs=a at*
 generalize hb:gr z.natAbs=b at*
 repeat refine aQ ?_
 (refine jO (a.length+b.length) rfl rfl (by omega) (by omega) (by omega) (by omega) (nI _ _) rfl rfl ?_;intro bo;refine aN ?_)
 repeat refine aQ ?_
 refine bX [2,3,4,5] rfl (fun k G M I=>∃(i:Nat) (o:List Int),i≤a.length∧k=a.length - i∧o.length=a.length+b.length∧Dig o∧val o=val (a.take i)*val b∧(∀j:Nat,i+b.length≤j→o.getD j 0=0)∧G=[(6, .int .i64 i)]∧M= .blk bo (recs eG o) 121:: .blk b3 [.bool false, .slice none 0 0] 42:: .blk bz [.bool (B (z < 0)), .slice q4 b.length c4] 42:: .blk bx [.bool (B (y < 0)), .slice q3 a.length c3] 42::M0∧I=aI q4 (recs eG b)::aI q3 (recs eG a)::I0) (a.length) _ _ _ dB aF aC (⟨0,_,by omega,by omega,by simp,Dig.zeros _,by rw [aBW];simp [val],fun j _=>by simp [List.getD,List.getElem?_replicate];split <;>rfl,rfl,rfl,rfl⟩) ?_
 rintro k G M I ⟨i,o,hi,rfl,ho,hd,hv,hz,rfl,rfl,rfl⟩
 by_cases hia:i < a.length
 ·have d1:=da.gt i
  repeat refine aQ ?_
  refine lX [2,3,4,5,6] rfl (fun k G M I=>∃(j:Nat) (u:List Int) (c:Int),j≤b.length∧k=b.length - j∧u.length=a.length+b.length∧Dig u∧(0≤c∧c < 1000000000)∧val u+1000000000 ^ (i+j)*c=val (a.take i)*val b+1000000000 ^ i*(gt a i*val (b.take j))∧(∀j:Nat,i+b.length≤j→u.getD j 0=0)∧G=[(7, .int .u64 c),(8, .int .i64 j)]∧M= .blk bo (recs eG u) 121:: .blk b3 [.bool false, .slice none 0 0] 42:: .blk bz [.bool (B (z < 0)), .slice q4 b.length c4] 42:: .blk bx [.bool (B (y < 0)), .slice q3 a.length c3] 42::M0∧I=aI q4 (recs eG b)::aI q3 (recs eG a)::I0) (b.length) (⟨0,o,0,by omega,by omega,ho,hd,by omega,by simp [val,hv],hz,rfl,rfl,rfl⟩) ?_
  rintro k G M I ⟨j,u,c,hj,rfl,hu,hdu,hc,hvu,hzu,rfl,rfl,rfl⟩
  by_cases hjb:j < b.length
  ·have d2:=db.gt j
   have d3:=hdu.gt ((i:Int)+j)
   obtain ⟨d4,d5,d6⟩:=vB d1 d2 d3 hc
   have d7:0≤gt a (i:Int)*gt b (j:Int)∧gt a (i:Int)*gt b (j:Int)≤18446744073709551615:=by omega
   have e1:=aEW d5.1
   have e2:=aFS d5.1
   have hst:=aNL (o:=u) (b:=b) (j:=j) hvu (by omega)
   rw [←yF,←yF] at hst
   rw [show (((i+j:Nat):Int))=(i:Int)+(j:Int) by omega] at hst
   obtain ⟨p,hp⟩:∃p,p=gt a (i:Int)*gt b (j:Int):=⟨_,rfl⟩
   obtain ⟨s,hs⟩:∃s,s=(gt u ((i:Int)+(j:Int))+gt a (i:Int)*gt b (j:Int)+c) % 1000000000:=⟨_,rfl⟩
   obtain ⟨t,ht⟩:∃t,t=(gt u ((i:Int)+(j:Int))+gt a (i:Int)*gt b (j:Int)+c) / 1000000000:=⟨_,rfl⟩
   rw [←hs] at e1 hst
   rw [←ht] at e2 hst d6
   have hs2:0≤s∧s < 1000000000:=by omega
   clear hs ht hp
   repeat refine aQ ?_
   (repeat refine aG ?_);refine eO [0,1,2,3,4,5,6,7,8,9,10,11,12,13,14,15,16,17,18,19,20,21,22,23] [0,0,0,0,0,0,0,0,0,0,0,0,0,0,0,0,0,0,0,0,0,0,0,0] mixed (by kernel_rfl) ?_
   repeat refine aQ ?_
   rw [e1]
   repeat refine aQ ?_
   rw [e2]
   refine cO (b.length - (j+1)) _ _ _ (by first|omega|(simp only [List.length_append,List.length_cons,List.length_nil];omega)) dB aF aC (⟨j+1,_,t,by omega,rfl,by rw [dK];exact hu,?_,d6,?_,?_,rfl,rfl,rfl⟩)
   ·rw [iF];exact hdu.set _ hs2
   ·rw [iF];exact hst
   ·intro t ht
    rw [iF,mJ _ (by omega)]
    exact hzu t ht
  ·have hjb:j=b.length:=by omega
   subst hjb
   have hst:=aJH (o:=u) (b:=b) hvu (by omega) (hzu _ (Nat.le_refl _))
   repeat refine aQ ?_
   refine cO (a.length - (i+1)) _ _ _ (by first|omega|(simp only [List.length_append,List.length_cons,List.length_nil];omega)) dB aF aC (⟨i+1,_,by omega,rfl,by rw [dK];exact hu,?_,?_,?_,rfl,rfl,rfl⟩)
   ·rw [iF];exact hdu.set _ hc
   ·rw [iF,hst,bV,yF]
    rw [Int.add_mul,Int.mul_assoc]
   ·intro t ht
    rw [iF,mJ _ (by omega)]
    exact hzu t (by omega)
 ·have hiN:i=a.length:=by omega
  subst hiN
  rw [List.take_length,va,vb] at hv
  have hM:=fun M0 I0=>hMd (some ⟨bo,0,none⟩) o (by omega) (a.length+b.length) (by omega) (Ok.mk _ _) hd (by rw [hv,Int.natCast_mul]) M0 I0
  rw [ho] at hM
  repeat refine aQ ?_
  refine aH (b:=bo) yE ?_
  (refine bD rfl (hM _ _ aA) ?_;rintro _ _ _ ⟨rfl,rfl⟩;refine aN ?_;refine aT (List.Mem.head _) (fun q6 c6 e__ hc6 hz6=>?_);subst e__)
  unfold iv
  repeat refine aQ ?_
  refine aO (cs:=[.bool (B (y*z < 0)), .slice q6 (gr (y*z).natAbs).length c6]) (.inl rfl) rfl rfl aA rfl _ _ aF aC ⟨rfl,rfl⟩
end
section
variable {X:List Nat} {w0:World} {M0:List Ent} {I0:List aL}
theorem aVX {x:Int} (hx: -9223372036854775808≤x∧x≤9223372036854775807):CD Tryz.prog 166 [.int .i64 x] X w0 M0 I0 (fun v M I=>M0=M∧I=iA v x 63::I0):=by
 have hn:x.natAbs≤2 ^ 63:=by omega
 have hMd:=fun (q:Option Addr) (l:List Int) (h0:l.length≤1000000000000) (c2:Nat) (h1:l.length≤c2) (h2:Ok q∨(l.length=0∧c2=0)) (h3:Dig l) (h4:val l=((x.natAbs:Nat):Int)) M0 I0=>uQ (X:=X) (w0:=w0) (M0:=M0) (I0:=I0) (p:=x < 0) (n:=x.natAbs) (q:=q) (l:=l) (c:=c2) (k:=63) h0 h1 h2 h3 h4 hn
 rw [rC] at hMd
 have dA:=bT x.natAbs
 have vA:=cZ x.natAbs
 have hlA:(gr x.natAbs).length≤3:=rT (by omega)
 have hgr:∀m:Nat,m≠0→gr m=((m % 1000000000:Nat):Int)::gr (m / 1000000000):=fun m h=>xH h
 refine aR Tryz.func166 rfl Tryz.ntmps166 rfl ?_
 refine gG ?_
 refine cK (fun b=>?_)
 by_cases hx0:x < 0
 ·repeat refine aQ ?_
  refine aD rfl (fun _=>fE rfl (aLP (by omega))) rfl rfl ?_
  repeat refine aQ ?_
  all_goals
   refine gK (cs:=recs eG []) ([]) rfl (fun b1=>?_)
   repeat refine aQ ?_
   refine uG (b:=b1) (mm:=0) 1 jJ rfl (by omega) ?_
   refine bX [0,2] rfl (fun k G M I=>∃(m:Nat) (ui:Int) (xs:List Int) (a:Option Addr) (c':Nat),k=m∧ui=m∧m≤x.natAbs∧xs++gr m=gr x.natAbs∧G=[(3, .int .u64 ui),(4, .slice a xs.length c')]∧M= .row a xs.length c' (recs eG xs) 121 1:: .blk b [.bool false, .slice none 0 0] 42::M0∧I0=I) (x.natAbs) _ _ _ dB aF aC (⟨x.natAbs,_,[],_,_,rfl,by omega,by omega,rfl,rfl,rfl,rfl⟩) ?_
   rintro k G M I ⟨m,ui,xs,a,c',rfl,hui,hm,hxs,rfl,rfl,rfl⟩
   have hlx:xs.length+(gr k).length≤3:=by rw [←hxs] at hlA;simpa using hlA
   by_cases hk0:k=0
   ·subst hk0
    rw [gQ,List.append_nil] at hxs
    subst hxs
    refine aDK (fun w hw=>And.intro (hw.rowLe (List.Mem.head _)) ((hw.rowS (List.Mem.head _)).2.imp id And.right)) (fun ho3=>?_)
    have hM:=hMd a (gr x.natAbs) (by omega) c' ho3.1 ho3.2 dA vA
    repeat refine aQ ?_
    refine fD yE ?_
    (refine bD rfl (hM _ _ aA) ?_;rintro _ _ _ ⟨rfl,rfl⟩;refine aN ?_;refine aT (List.Mem.head _) (fun q6 c6 e__ hc6 hz6=>?_);subst e__)
    unfold iv
    repeat refine aQ ?_
    refine aO (cs:=[.bool (B (x < 0)), .slice q6 (gr x.natAbs).length c6]) (.inl rfl) rfl rfl aA rfl _ _ aF aC ⟨rfl,rfl⟩
   ·have hgk:=hgr k hk0
    have e1:=aEW (s:=ui) (by omega)
    have e2:=aFS (s:=ui) (by omega)
    obtain ⟨s,hs⟩:∃s,s=ui % 1000000000:=⟨_,rfl⟩
    obtain ⟨t,ht⟩:∃t,t=ui / 1000000000:=⟨_,rfl⟩
    have hs1:((k % 1000000000:Nat):Int)=s:=by omega
    have ht1:((k / 1000000000:Nat):Int)=t:=by omega
    rw [hs1] at hgk
    rw [←hs] at e1
    rw [←ht] at e2
    have hs2:0≤s∧s < 1000000000:=by omega
    have hl9:(gr k).length=(gr (k / 1000000000)).length+1:=by rw [hgk];simp
    repeat refine aQ ?_
    rw [e1]
    repeat refine aQ ?_
    refine gK (cs:=recs eG [s]) ([.int .u32 s]) rfl (fun b2=>?_)
    refine wM (ys:=[s]) 1 rfl rfl rfl (fun a2 c2=>?_)
    repeat refine aQ ?_
    rw [e2]
    refine gL (k / 1000000000) (⟨k / 1000000000,t,xs++[s],a2,c2,rfl,ht1.symm,by omega,by rw [List.append_assoc];rw [hgk] at hxs;exact hxs,rfl,rfl,rfl⟩)
 ·repeat refine aQ ?_
  all_goals
   refine gK (cs:=recs eG []) ([]) rfl (fun b1=>?_)
   repeat refine aQ ?_
   refine uG (b:=b1) (mm:=0) 1 jJ rfl (by omega) ?_
   refine bX [0,2] rfl (fun k G M I=>∃(m:Nat) (ui:Int) (xs:List Int) (a:Option Addr) (c':Nat),k=m∧ui=m∧m≤x.natAbs∧xs++gr m=gr x.natAbs∧G=[(3, .int .u64 ui),(4, .slice a xs.length c')]∧M= .row a xs.length c' (recs eG xs) 121 1:: .blk b [.bool false, .slice none 0 0] 42::M0∧I0=I) (x.natAbs) _ _ _ dB aF aC (⟨x.natAbs,_,[],_,_,rfl,by omega,by omega,rfl,rfl,rfl,rfl⟩) ?_
   rintro k G M I ⟨m,ui,xs,a,c',rfl,hui,hm,hxs,rfl,rfl,rfl⟩
   have hlx:xs.length+(gr k).length≤3:=by rw [←hxs] at hlA;simpa using hlA
   by_cases hk0:k=0
   ·subst hk0
    rw [gQ,List.append_nil] at hxs
    subst hxs
    refine aDK (fun w hw=>And.intro (hw.rowLe (List.Mem.head _)) ((hw.rowS (List.Mem.head _)).2.imp id And.right)) (fun ho3=>?_)
    have hM:=hMd a (gr x.natAbs) (by omega) c' ho3.1 ho3.2 dA vA
    repeat refine aQ ?_
    refine fD yE ?_
    (refine bD rfl (hM _ _ aA) ?_;rintro _ _ _ ⟨rfl,rfl⟩;refine aN ?_;refine aT (List.Mem.head _) (fun q6 c6 e__ hc6 hz6=>?_);subst e__)
    unfold iv
    repeat refine aQ ?_
    refine aO (cs:=[.bool (B (x < 0)), .slice q6 (gr x.natAbs).length c6]) (.inl rfl) rfl rfl aA rfl _ _ aF aC ⟨rfl,rfl⟩
   ·have hgk:=hgr k hk0
    have e1:=aEW (s:=ui) (by omega)
    have e2:=aFS (s:=ui) (by omega)
    obtain ⟨s,hs⟩:∃s,s=ui % 1000000000:=⟨_,rfl⟩
    obtain ⟨t,ht⟩:∃t,t=ui / 1000000000:=⟨_,rfl⟩
    have hs1:((k % 1000000000:Nat):Int)=s:=by omega
    have ht1:((k / 1000000000:Nat):Int)=t:=by omega
    rw [hs1] at hgk
    rw [←hs] at e1
    rw [←ht] at e2
    have hs2:0≤s∧s < 1000000000:=by omega
    have hl9:(gr k).length=(gr (k / 1000000000)).length+1:=by rw [hgk];simp
    repeat refine aQ ?_
    rw [e1]
    repeat refine aQ ?_
    refine gK (cs:=recs eG [s]) ([.int .u32 s]) rfl (fun b2=>?_)
    refine wM (ys:=[s]) 1 rfl rfl rfl (fun a2 c2=>?_)
    repeat refine aQ ?_
    rw [e2]
    refine gL (k / 1000000000) (⟨k / 1000000000,t,xs++[s],a2,c2,rfl,ht1.symm,by omega,by rw [List.append_assoc];rw [hgk] at hxs;exact hxs,rfl,rfl,rfl⟩)
end
theorem aXN {t:Nat} (ht:(gr t).length≤2):t < 1000000000000000000:=by
 have:=jW (bT t)
 rw [cZ] at this
 have h2:(1000000000:Int) ^ (gr t).length≤1000000000 ^ 2:=nT ht
 omega
theorem aZA {n:Nat} (h:(gr n).length≤2):gt (gr n) 1*1000000000+gt (gr n) 0=(n:Int):=by
 have hv:=cZ n
 match hg:gr n,h with
 |[],_=>rw [hg] at hv;simp [val] at hv;rw [←hv];rfl
 |[a],_=>rw [hg] at hv;simp [val] at hv;rw [←hv];simp [gt]
 |[a,b],_=>rw [hg] at hv;simp [val] at hv;rw [←hv];simp [gt];omega
section
variable {X:List Nat} {w0:World} {M0:List Ent} {I0:List aL}
theorem aPN {q:Option Addr} {n c:Nat} (hl:(gr n).length≤2) (hq:aI q (recs eG (gr n))∈I0):
  CD Tryz.prog 246 [.slice q (gr n).length c] X w0 M0 I0 (fun v M I=>M0=M∧I0=I∧v= .int .u64 (n:Int)):=by
 have d0:=(bT n).gt 0
 have d1:=(bT n).gt 1
 rw [←aZA hl]
 refine aR Tryz.func246 rfl Tryz.ntmps246 rfl ?_
 repeat' (first|refine aQ ?_|refine aJ rfl (fun h=>?_) (fun h=>?_)|refine aK rfl rfl (fun h=>?_) (fun h=>?_)|fail)
 refine dH rfl (qO (l:=gr n) (i:=1) rfl (by omega) aA (bT n)) ?_
 repeat' (first|refine aQ ?_|refine aJ rfl (fun h=>?_) (fun h=>?_)|refine aK rfl rfl (fun h=>?_) (fun h=>?_)|fail)
 refine dH rfl (qO (l:=gr n) (i:=0) rfl (by omega) aA (bT n)) ?_
 repeat' (first|refine aQ ?_|refine aJ rfl (fun h=>?_) (fun h=>?_)|refine aK rfl rfl (fun h=>?_) (fun h=>?_)|fail)
 refine iR rfl rfl (⟨rfl,rfl,rfl⟩)
theorem aRC {u v:Value} {y z:Int} {k0 m:Nat} (hk:k0≤500000000000) (hm:m≤500000000000) (hu:iA u y k0∈I0) (hv:iA v z m∈I0):CD Tryz.prog 184 [u,v] X w0 M0 I0 (fun v M I=>M0=M∧I=iA v (Int.gcd y z) (k0+m)::I0):=by
 refine bZ hu (fun q cq e hc hy=>?_)
 subst e
 refine bZ (List.Mem.tail _ hv) (fun q' cq' e hc' hz=>?_)
 subst e
 have hy2:y.natAbs≤2 ^ (k0+m):=Nat.le_trans hy (Nat.pow_le_pow_right (by decide) (by omega))
 have hz2:z.natAbs≤2 ^ (k0+m):=Nat.le_trans hz (Nat.pow_le_pow_right (by decide) (by omega))
 have hMd:=fun (a:Nat) (e:(Int.gcd y z:Int)=a) (ha:a≤2 ^ (k0+m)) (q:Option Addr) (l:List Int) (h0:l.length≤1000000000000) (c2:Nat) (h1:l.length≤c2) (h2:Ok q∨(l.length=0∧c2=0)) (h3:Dig l) (h4:val l=(a:Int)) M0 I0=>uQ (X:=X) (w0:=w0) (M0:=M0) (I0:=I0) (p:=False) (n:=a) (q:=q) (l:=l) (c:=c2) (k:=k0+m) h0 h1 h2 h3 h4 ha
 simp only [bH (show ¬False from id)] at hMd
 have hsg:∀a:Nat,sg False a=(a:Int):=fun a=>by unfold sg;rw [if_neg (fun h=>h)]
 unfold iv
 refine aM Tryz.func184 rfl Tryz.ntmps184 rfl ?_
 refine gG ?_
 refine gN rfl (fun b=>?_)
 refine gN rfl (fun b2=>?_)
 refine cK (fun b3=>?_)
 repeat' (first|refine aQ ?_|refine aJ rfl (fun h=>?_) (fun h=>?_)|refine aK rfl rfl (fun h=>?_) (fun h=>?_)|fail)
 (repeat refine aG ?_);refine aW 3 [0,3,1,2,4,5,6,7] [1,1,0,1,0,0,0,0] mixed (by kernel_rfl) ?_
 repeat' (first|refine aQ ?_|refine aJ rfl (fun h=>?_) (fun h=>?_)|refine aK rfl rfl (fun h=>?_) (fun h=>?_)|fail)
 (refine bD rfl (lN hy (by omega) hc aA) ?_;rintro _ _ _ ⟨rfl,q3,c3,rfl,hc3,rfl⟩;refine aN ?_)
 repeat' (first|refine aQ ?_|refine aJ rfl (fun h=>?_) (fun h=>?_)|refine aK rfl rfl (fun h=>?_) (fun h=>?_)|fail)
 (refine bD rfl (lN hz (by omega) hc' aA) ?_;rintro _ _ _ ⟨rfl,q4,c4,rfl,hc4,rfl⟩;refine aN ?_)
 repeat' (first|refine aQ ?_|refine aJ rfl (fun h=>?_) (fun h=>?_)|refine aK rfl rfl (fun h=>?_) (fun h=>?_)|fail)
 refine lX [4] rfl (fun k G M I=>∃(a b:Nat) (pa pb:Option Addr) (ca cb:Nat),k=b∧a≤2 ^ (k0+m)∧b≤2 ^ (k0+m)∧sO pa a ca∧sO pb b cb∧Nat.gcd a b=Nat.gcd y.natAbs z.natAbs∧G=[(5, .slice pa (gr a).length ca),(6, .slice pb (gr b).length cb)]∧M= .blk b3 [.bool false, .slice none 0 0] 42::M0∧I=aI pa (recs eG (gr a))::aI pb (recs eG (gr b))::I0) (z.natAbs) (⟨y.natAbs,z.natAbs,q3,q4,c3,c4,rfl,hy2,hz2,hc3,hc4,rfl,rfl,rfl,rfl⟩) ?_
 rintro k G M I ⟨a,b',pa,pb,ca,cb,rfl,ha,hb,oa,ob,hg,rfl,rfl,rfl⟩
 have la:=eY ha
 have lb:=eY hb
 by_cases hk0:k=0
 ·subst hk0
  have hl0:(gr 0).length=0:=by rw [gQ];rfl
  rw [Nat.gcd_zero_right] at hg
  have hz:(Int.gcd y z:Int)=(a:Int):=by rw [Int.gcd_eq_natAbs_gcd_natAbs,hg]
  have hM:=fun M0 I0=>hMd a hz ha pa (gr a) (by omega) ca oa.1 oa.2 (bT a) (cZ a) M0 I0
  rw [hsg,←hz] at hM
  repeat' (first|refine aQ ?_|refine aJ rfl (fun h=>?_) (fun h=>?_)|refine aK rfl rfl (fun h=>?_) (fun h=>?_)|fail)
  (refine bD rfl (hM _ _ aA) ?_;rintro _ _ _ ⟨rfl,rfl⟩;refine aN ?_;refine aT (List.Mem.head _) (fun q2 c2 e__ hc2 hz2=>?_);subst e__)
  unfold iv
  repeat' (first|refine aQ ?_|refine aJ rfl (fun h=>?_) (fun h=>?_)|refine aK rfl rfl (fun h=>?_) (fun h=>?_)|fail)
  refine aO (cs:=[.bool (B ((Int.gcd y z:Int) < 0)), .slice q2 (gr (Int.gcd y z:Int).natAbs).length c2]) (.inl rfl) rfl rfl aA rfl _ _ aF aC ⟨rfl,rfl⟩
 ·have hlk:0 < (gr k).length:=List.length_pos_iff.2 (fun e=>hk0 (oZ.1 e))
  by_cases hw:(gr a).length≤2∧(gr k).length≤2
  ·have a9:=aXN hw.1
   have k9:=aXN hw.2
   have hP1:=fun M0 I0=>aPN (X:=X) (w0:=w0) (M0:=M0) (I0:=I0) (q:=pa) (n:=a) (c:=ca) hw.1
   have hP2:=fun M0 I0=>aPN (X:=X) (w0:=w0) (M0:=M0) (I0:=I0) (q:=pb) (n:=k) (c:=cb) hw.2
   repeat' (first|refine aQ ?_|refine aJ rfl (fun h=>?_) (fun h=>?_)|refine aK rfl rfl (fun h=>?_) (fun h=>?_)|fail)
   refine dH rfl (hP1 _ _ aA) ?_
   repeat' (first|refine aQ ?_|refine aJ rfl (fun h=>?_) (fun h=>?_)|refine aK rfl rfl (fun h=>?_) (fun h=>?_)|fail)
   refine dH rfl (hP2 _ _ aA) ?_
   clear hlk la lb oa ob
   repeat' (first|refine aQ ?_|refine aJ rfl (fun h=>?_) (fun h=>?_)|refine aK rfl rfl (fun h=>?_) (fun h=>?_)|fail)
   refine bX [4] rfl (fun k G M I=>∃(x x2:Nat) (xi xi2:Int),k=x2∧xi=x∧xi2=x2∧x < 1000000000000000000∧x2 < 1000000000000000000∧x≤2 ^ (k0+m)∧x2≤2 ^ (k0+m)∧Nat.gcd x x2=Nat.gcd y.natAbs z.natAbs∧G=[(9, .int .u64 xi),(10, .int .u64 xi2)]∧M= .blk b3 [.bool false, .slice none 0 0] 42::M0∧I0=I) (k) _ _ _ dB aF aC (⟨a,k,_,_,rfl,rfl,rfl,a9,k9,ha,hb,hg,rfl,rfl,rfl⟩) ?_
   rintro k G M I ⟨x,x2,xi,xi2,rfl,hxi,hxi2,hx9,hx29,hx,hx2,hxg,rfl,rfl,rfl⟩
   by_cases hx0:k=0
   ·subst hx0
    rw [Nat.gcd_zero_right] at hxg
    have hz:(Int.gcd y z:Int)=(x:Int):=by rw [Int.gcd_eq_natAbs_gcd_natAbs,hxg]
    have e1:=aEW (s:=xi) (by omega)
    have e2:=aFS (s:=xi) (by omega)
    obtain ⟨s,hs⟩:∃s,s=xi % 1000000000:=⟨_,rfl⟩
    obtain ⟨t,ht⟩:∃t,t=xi / 1000000000:=⟨_,rfl⟩
    have hst:(0≤s∧s < 1000000000)∧(0≤t∧t < 1000000000)∧s+1000000000*t=x:=by omega
    rw [←hs] at e1
    rw [←ht] at e2
    have hd2:Dig [s,t]:=by rw [Dig.cons,Dig.cons];exact ⟨hst.1,hst.2.1,Dig.nil⟩
    have hv2:val [s,t]=(x:Int):=by simp [val];omega
    have hM:=fun b4 M0 I0=>hMd x hz hx (some ⟨b4,0,none⟩) [s,t] (by simp) 2 (by simp) (.inl (Ok.mk _ _)) hd2 hv2 M0 I0
    rw [hsg,←hz] at hM
    repeat' (first|refine aQ ?_|refine aJ rfl (fun h=>?_) (fun h=>?_)|refine aK rfl rfl (fun h=>?_) (fun h=>?_)|fail)
    rw [e1]
    repeat' (first|refine aQ ?_|refine aJ rfl (fun h=>?_) (fun h=>?_)|refine aK rfl rfl (fun h=>?_) (fun h=>?_)|fail)
    rw [e2]
    repeat' (first|refine aQ ?_|refine aJ rfl (fun h=>?_) (fun h=>?_)|refine aK rfl rfl (fun h=>?_) (fun h=>?_)|fail)
    refine gK (cs:=recs eG [s,t]) ([.int .u32 s, .int .u32 t]) rfl (fun b4=>?_)
    refine aH yE ?_
    (refine bD rfl (hM b4 _ _ aA) ?_;rintro _ _ _ ⟨rfl,rfl⟩;refine aN ?_;refine aT (List.Mem.head _) (fun q2 c2 e__ hc2 hz2=>?_);subst e__)
    unfold iv
    repeat' (first|refine aQ ?_|refine aJ rfl (fun h=>?_) (fun h=>?_)|refine aK rfl rfl (fun h=>?_) (fun h=>?_)|fail)
    refine aO (cs:=[.bool (B ((Int.gcd y z:Int) < 0)), .slice q2 (gr (Int.gcd y z:Int).natAbs).length c2]) (.inl rfl) rfl rfl aA rfl _ _ aF aC ⟨rfl,rfl⟩
   ·have e2:xi.tmod xi2=((x % k:Nat):Int):=by rw [hxi,hxi2,Int.tmod_eq_emod_of_nonneg (by omega),Int.natCast_emod]
    have hmod:=Nat.mod_lt x (show k>0 by omega)
    have hg2:Nat.gcd k (x % k)=Nat.gcd y.natAbs z.natAbs:=by rw [←hxg,Nat.gcd_comm x k,Nat.gcd_rec k x,Nat.gcd_comm]
    obtain ⟨r,hr⟩:∃r,r=x % k:=⟨_,rfl⟩
    rw [←hr] at e2 hmod hg2
    clear hr
    repeat' (first|refine aQ ?_|refine aJ rfl (fun h=>?_) (fun h=>?_)|refine aK rfl rfl (fun h=>?_) (fun h=>?_)|fail)
    (repeat refine aG ?_);refine eO [0,1,2,3,4,5] [0,0,0,0,0,0] mixed (by kernel_rfl) ?_
    repeat' (first|refine aQ ?_|refine aJ rfl (fun h=>?_) (fun h=>?_)|refine aK rfl rfl (fun h=>?_) (fun h=>?_)|fail)
    rw [e2]
    refine cO (r) _ _ _ (by first|omega|(simp only [List.length_append,List.length_cons,List.length_nil];omega)) dB aF aC (⟨k,r,xi2,_,rfl,hxi2,rfl,by omega,by omega,hx2,by omega,hg2,rfl,rfl,rfl⟩)
  ·have hO:=fun M0 I0=>aMH (X:=X) (w0:=w0) (M0:=M0) (I0:=I0) (p:=pa) (q:=pb) (m:=a) (n:=k) (cp:=ca) (cq:=cb) (by omega) (by omega) (by omega) oa
   have hmod:=Nat.mod_lt a (show k>0 by omega)
   have hg2:Nat.gcd k (a % k)=Nat.gcd y.natAbs z.natAbs:=by rw [←hg,Nat.gcd_comm a k,Nat.gcd_rec k a,Nat.gcd_comm]
   obtain ⟨r,hr⟩:∃r,r=a % k:=⟨_,rfl⟩
   obtain ⟨qq,hqq⟩:∃r,r=a / k:=⟨_,rfl⟩
   rw [←hr,←hqq] at hO
   rw [←hr] at hmod hg2
   clear hr hqq
   repeat' (first|refine aQ ?_|refine aJ rfl (fun h=>?_) (fun h=>?_)|refine aK rfl rfl (fun h=>?_) (fun h=>?_)|fail)
   all_goals
    (refine bD rfl (hO _ _ aA aA) ?_;rintro _ _ _ ⟨rfl,p1,c1,p2,c2,ho1,ho2,rfl,rfl⟩;refine aN ?_)
    repeat' (first|refine aQ ?_|refine aJ rfl (fun h=>?_) (fun h=>?_)|refine aK rfl rfl (fun h=>?_) (fun h=>?_)|fail)
    refine gL (r) (⟨k,r,pb,p2,cb,c2,rfl,hb,by omega,ob,ho2,hg2,rfl,rfl,rfl⟩)
end
theorem aTJ {y z:Int} (hz:z≠0):((y < 0↔z < 0)∨y.natAbs % z.natAbs=0→sg (¬(y < 0↔z < 0)) (y.natAbs / z.natAbs)=y.fdiv z)∧(¬(y < 0↔z < 0)→y.natAbs % z.natAbs≠0→sg (¬(y < 0↔z < 0)) (y.natAbs / z.natAbs) - 1=y.fdiv z):=by
 have h:=aAW (y:=y) hz
 refine ⟨fun h1=>by rw [(h.2 h1).1];rfl,fun h1 h2=>?_⟩
 rw [(h.1 h1 h2).1]
 unfold sg
 rw [if_pos h1];omega
theorem aJV (p:Prop) [Decidable p] (n:Nat):(if p then -(n:Int) else (n:Int)).natAbs=n:=by split <;>omega
theorem bCJ {y z:Int} (hz:z≠0):(y.fdiv z).natAbs≤y.natAbs:=by
 have h:=aAW (y:=y) hz
 have hz1:0 < z.natAbs:=by omega
 have hab:=Nat.div_add_mod y.natAbs z.natAbs
 have hbQ:y.natAbs / z.natAbs≤z.natAbs*(y.natAbs / z.natAbs):=Nat.le_mul_of_pos_left _ hz1
 by_cases h1:(y < 0↔z < 0)∨y.natAbs % z.natAbs=0
 ·rw [(h.2 h1).1,aJV];exact Nat.div_le_self _ _
 ·have h2:y.natAbs % z.natAbs≠0:=fun h'=>h1 (.inr h')
  rw [(h.1 (fun h'=>h1 (.inl h')) h2).1]
  generalize y.natAbs / z.natAbs=Q at*
  generalize y.natAbs % z.natAbs=R at*
  generalize z.natAbs*Q=p at*
  clear h h1
  omega
theorem bAD {y z:Int} (hz:z≠0):(y.fmod z).natAbs≤z.natAbs:=by
 have h:=aAW (y:=y) hz
 have hz1:0 < z.natAbs:=by omega
 have hlt:=Nat.mod_lt y.natAbs hz1
 by_cases h1:(y < 0↔z < 0)∨y.natAbs % z.natAbs=0
 ·rw [(h.2 h1).2,aJV];omega
 ·rw [(h.1 (fun h'=>h1 (.inl h')) (fun h'=>h1 (.inr h'))).2,aJV];omega
theorem bAC (y z:Int):y - (y.fdiv z)*z=y.fmod z:=by rw [Int.fmod_def,Int.mul_comm]
section
variable {X:List Nat} {w0:World} {M0:List Ent} {I0:List aL}
theorem aER {u v:Value} {y z:Int} {k m:Nat} (hk:k≤300000000000) (hm:m≤300000000000) (hz0:z≠0) (hu:iA u y k∈I0) (hv:iA v z m∈I0):
  CD Tryz.prog 259 [u,v] X w0 M0 I0 (DvP (y.fdiv z) (y.fmod z) k m M0 I0):=by
 refine bZ hu (fun q cq e hc hy=>?_)
 subst e
 refine bZ (List.Mem.tail _ hv) (fun q' cq' e hc' hz=>?_)
 subst e
 have hly:=eY hy
 have hlz:=eY hz
 have hlz1:¬(gr z.natAbs).length=0:=fun e=>by have:=oZ.1 (List.eq_nil_of_length_eq_zero e);omega
 have hr0:(gr (y.natAbs % z.natAbs)).length=0↔y.natAbs % z.natAbs=0:=by rw [List.length_eq_zero_iff,oZ]
 have hqb:y.natAbs / z.natAbs≤2 ^ k:=yJ hy
 have hlq:=eY hqb
 have hdv:=aTJ (y:=y) hz0
 have hfl:(y.fdiv z).natAbs≤2 ^ k:=Nat.le_trans (bCJ hz0) hy
 have hml:(y.fmod z).natAbs≤2 ^ m:=Nat.le_trans (bAD hz0) hz
 have hO:=fun (p1 p2:Option Addr) (c1 c2:Nat) (h1:sO p1 y.natAbs c1) M0 I0=>aMH (X:=X) (w0:=w0) (M0:=M0) (I0:=I0) (p:=p1) (q:=p2) (m:=y.natAbs) (n:=z.natAbs) (cp:=c1) (cq:=c2) (by omega) (by omega) (by omega) h1
 have hV1:=fun M0 I0=>lN (X:=X) (w0:=w0) (M0:=M0) (I0:=I0) (q:=q) (c:=cq) hy (by omega) hc
 have hV2:=fun M0 I0=>lN (X:=X) (w0:=w0) (M0:=M0) (I0:=I0) (q:=q') (c:=cq') hz (by omega) hc'
 have hMd:=fun (q:Option Addr) (c2:Nat) (h1:sO q (y.natAbs / z.natAbs) c2) M0 I0=>uQ (X:=X) (w0:=w0) (M0:=M0) (I0:=I0) (p:=¬(y < 0↔z < 0)) (n:=y.natAbs / z.natAbs) (q:=q) (l:=gr (y.natAbs / z.natAbs)) (c:=c2) (k:=k) (by omega) h1.1 h1.2 (bT _) (cZ _) hqb
 have hMu:=fun u v M0 I0=>tN (X:=X) (w0:=w0) (M0:=M0) (I0:=I0) (u:=u) (v:=v) (y:=y.fdiv z) (z:=z) (k0:=k) (m0:=m) (by omega)
 have hSb:=fun u v M0 I0=>aIM (X:=X) (w0:=w0) (M0:=M0) (I0:=I0) (u:=u) (v:=v) (y:=y) (z:=y.fdiv z*z) (k:=k) (m:=k+m) (c:=k+(k+m)+1) (by omega) (by omega) (by omega) (aIO _ _)
 have hSo:=fun u v M0 I0=>aIM (X:=X) (w0:=w0) (M0:=M0) (I0:=I0) (u:=u) (v:=v) (y:=sg (¬(y < 0↔z < 0)) (y.natAbs / z.natAbs)) (z:=1) (k:=k) (m:=0) (c:=k+0+1) (by omega) (by omega) (by omega) (aIO _ _)
 rw [bAC] at hSb
 obtain ⟨s0,hs0⟩:∃s,s=sg (¬(y < 0↔z < 0)) (y.natAbs / z.natAbs):=⟨_,rfl⟩
 rw [←hs0] at hMd hSo hdv
 clear hs0
 unfold iv
 by_cases hA:¬(y < 0↔z < 0)∧¬(gr (y.natAbs % z.natAbs)).length=0
 ·obtain ⟨hA1,hA2⟩:=hA
  have e1:=hdv.2 hA1 (fun h=>hA2 (hr0.2 h))
  rw [e1] at hSo
  clear hdv hr0 hqb
  obtain ⟨fd,hfd⟩:∃s,s=y.fdiv z:=⟨_,rfl⟩
  obtain ⟨fm,hfm⟩:∃s,s=y.fmod z:=⟨_,rfl⟩
  obtain ⟨Q,hQ⟩:∃s,s=y.natAbs / z.natAbs:=⟨_,rfl⟩
  obtain ⟨R,hR⟩:∃s,s=y.natAbs % z.natAbs:=⟨_,rfl⟩
  rw [←hfd] at hMu hSb hSo hfl ⊢
  rw [←hfm] at hSb hml ⊢
  rw [←hQ] at hO hMd hlq
  rw [←hR] at hO hA2
  clear hfd hfm hQ hR e1
  refine aM Tryz.func259 rfl Tryz.ntmps259 rfl ?_
  refine gG ?_
  refine gN rfl (fun b=>?_)
  refine gN rfl (fun b2=>?_)
  refine cK (fun b3=>?_)
  refine cK (fun b4=>?_)
  repeat' (first|refine aQ ?_|refine aJ rfl (fun h=>?_) (fun h=>?_)|refine aK rfl rfl (fun h=>?_) (fun h=>?_)|fail)
  (repeat refine aG ?_);refine aW 2 [0,2,1,3,4,5] [1,2,0,0,0,0] mixed (by kernel_rfl) ?_
  repeat' (first|refine aQ ?_|refine aJ rfl (fun h=>?_) (fun h=>?_)|refine aK rfl rfl (fun h=>?_) (fun h=>?_)|fail)
  (refine bD rfl (hV1 _ _ aA) ?_;rintro _ _ _ ⟨rfl,q3,c3,rfl,hc3,rfl⟩;refine aN ?_)
  repeat' (first|refine aQ ?_|refine aJ rfl (fun h=>?_) (fun h=>?_)|refine aK rfl rfl (fun h=>?_) (fun h=>?_)|fail)
  (refine bD rfl (hV2 _ _ aA) ?_;rintro _ _ _ ⟨rfl,q4,c4,rfl,hc4,rfl⟩;refine aN ?_)
  repeat' (first|refine aQ ?_|refine aJ rfl (fun h=>?_) (fun h=>?_)|refine aK rfl rfl (fun h=>?_) (fun h=>?_)|fail)
  (refine bD rfl (hO q3 q4 c3 c4 hc3 _ _ aA aA) ?_;rintro _ _ _ ⟨rfl,p1,c1,p2,c2,ho1,ho2,rfl,rfl⟩;refine aN ?_)
  repeat' (first|refine aQ ?_|refine aJ rfl (fun h=>?_) (fun h=>?_)|refine aK rfl rfl (fun h=>?_) (fun h=>?_)|fail)
  (refine bD rfl (hMd p1 c1 ho1 _ _ aA) ?_;rintro _ _ _ ⟨rfl,rfl⟩;refine aN ?_;refine aT (List.Mem.head _) (fun q5 c5 e__ hc5 hz5=>?_);subst e__)
  unfold iv
  repeat' (first|refine aQ ?_|refine aJ rfl (fun h=>?_) (fun h=>?_)|refine aK rfl rfl (fun h=>?_) (fun h=>?_)|fail)
  refine cK (fun b5=>?_)
  repeat' (first|refine aQ ?_|refine aJ rfl (fun h=>?_) (fun h=>?_)|refine aK rfl rfl (fun h=>?_) (fun h=>?_)|fail)
  (repeat refine aG ?_);refine aW 2 [0,1,2,3] [1,0,0,0] mixed (by kernel_rfl) ?_
  repeat' (first|refine aQ ?_|refine aJ rfl (fun h=>?_) (fun h=>?_)|refine aK rfl rfl (fun h=>?_) (fun h=>?_)|fail)
  (refine bD rfl (aVX (x:=1) (by decide)) ?_;rintro _ _ _ ⟨rfl,rfl⟩;refine aN ?_;refine aT (List.Mem.head _) (fun q6 c6 e__ hc6 hz6=>?_);subst e__)
  unfold iv
  refine nY (k2:=0) (z:=1) (List.Mem.tail _ (List.Mem.head _)) (by decide) ?_
  (refine bD rfl (hSo _ _ _ _ aA aA) ?_;rintro _ _ _ ⟨rfl,rfl⟩;refine aN ?_;refine aT (List.Mem.head _) (fun q7 c7 e__ hc7 hz7=>?_);subst e__)
  unfold iv
  refine nY (k2:=k) (z:=fd) (List.Mem.tail _ (List.Mem.head _)) hfl ?_
  repeat' (first|refine aQ ?_|refine aJ rfl (fun h=>?_) (fun h=>?_)|refine aK rfl rfl (fun h=>?_) (fun h=>?_)|fail)
  (repeat refine aG ?_);refine pW (.blk b5 [.bool (B (fd < 0)), .slice q7 (gr fd.natAbs).length c7] 42:: .blk b2 [.bool (B (z < 0)), .slice q4 (gr z.natAbs).length c4] 42:: .blk b [.bool (B (y < 0)), .slice q3 (gr y.natAbs).length c3] 42::M0) (iA (.agg #[.bool (B (fd < 0)), .slice q7 (gr fd.natAbs).length c7]) fd k::I0) [0,1,2,3,4,5,6,7,8] [2,2,2,2,0,0,0,0,0] mixed ?_
  repeat' (first|refine aQ ?_|refine aJ rfl (fun h=>?_) (fun h=>?_)|refine aK rfl rfl (fun h=>?_) (fun h=>?_)|fail)
  refine yB (q:=q3) (c:=c3) (z:=y) (k:=k) aA hc3 hy ?_
  refine yB (q:=q4) (c:=c4) (z:=z) (k:=m) aA hc4 hz ?_
  unfold iv
  (refine bD rfl (hMu _ _ _ _ aA aA) ?_;rintro _ _ _ ⟨rfl,rfl⟩;refine aN ?_;refine aT (List.Mem.head _) (fun q8 c8 e__ hc8 hz8=>?_);subst e__)
  unfold iv
  (refine bD rfl (hSb _ _ _ _ aA aA) ?_;rintro _ _ _ ⟨rfl,rfl⟩;refine aN ?_;refine aT (List.Mem.head _) (fun q9 c9 e__ hc9 hz9=>?_);subst e__)
  unfold iv
  refine nY (k2:=m) (z:=fm) (List.Mem.tail _ (List.Mem.head _)) hml ?_
  repeat' (first|refine aQ ?_|refine aJ rfl (fun h=>?_) (fun h=>?_)|refine aK rfl rfl (fun h=>?_) (fun h=>?_)|fail)
  refine dW (rs:=[.cell 4 42, .cell 5 42, .tmp 6]) (.inl rfl) rfl (.cellN inferInstance rfl aA rfl (.cellN inferInstance rfl aA rfl (.tmp rfl .nil))) rfl M0 (iA (.agg #[.bool (B (fm < 0)), .slice q9 (gr fm.natAbs).length c9]) fm m::iA (.agg #[.bool (B (fd < 0)), .slice q7 (gr fd.natAbs).length c7]) fd k::I0) aF aC ⟨rfl,_,_,rfl,rfl⟩
 ·have hA':(y < 0↔z < 0)∨y.natAbs % z.natAbs=0:=by
   rcases Classical.em (y < 0↔z < 0) with h|h
   ·exact .inl h
   ·exact .inr (hr0.1 (Classical.byContradiction fun h'=>hA ⟨h,h'⟩))
  have e1:=hdv.1 hA'
  subst e1
  clear hdv hr0 hqb hSo
  obtain ⟨fd,hfd⟩:∃s,s=y.fdiv z:=⟨_,rfl⟩
  obtain ⟨fm,hfm⟩:∃s,s=y.fmod z:=⟨_,rfl⟩
  obtain ⟨Q,hQ⟩:∃s,s=y.natAbs / z.natAbs:=⟨_,rfl⟩
  obtain ⟨R,hR⟩:∃s,s=y.natAbs % z.natAbs:=⟨_,rfl⟩
  rw [←hfd] at hMu hSb hMd hfl ⊢
  rw [←hfm] at hSb hml ⊢
  rw [←hQ] at hO hMd hlq
  rw [←hR] at hO hA hA'
  clear hfd hfm hQ hR hA'
  refine aM Tryz.func259 rfl Tryz.ntmps259 rfl ?_
  refine gG ?_
  refine gN rfl (fun b=>?_)
  refine gN rfl (fun b2=>?_)
  refine cK (fun b3=>?_)
  refine cK (fun b4=>?_)
  repeat' (first|refine aQ ?_|refine aJ rfl (fun h=>?_) (fun h=>?_)|refine aK rfl rfl (fun h=>?_) (fun h=>?_)|fail)
  (repeat refine aG ?_);refine aW 2 [0,2,1,3,4,5] [1,2,0,0,0,0] mixed (by kernel_rfl) ?_
  repeat' (first|refine aQ ?_|refine aJ rfl (fun h=>?_) (fun h=>?_)|refine aK rfl rfl (fun h=>?_) (fun h=>?_)|fail)
  (refine bD rfl (hV1 _ _ aA) ?_;rintro _ _ _ ⟨rfl,q3,c3,rfl,hc3,rfl⟩;refine aN ?_)
  repeat' (first|refine aQ ?_|refine aJ rfl (fun h=>?_) (fun h=>?_)|refine aK rfl rfl (fun h=>?_) (fun h=>?_)|fail)
  (refine bD rfl (hV2 _ _ aA) ?_;rintro _ _ _ ⟨rfl,q4,c4,rfl,hc4,rfl⟩;refine aN ?_)
  repeat' (first|refine aQ ?_|refine aJ rfl (fun h=>?_) (fun h=>?_)|refine aK rfl rfl (fun h=>?_) (fun h=>?_)|fail)
  (refine bD rfl (hO q3 q4 c3 c4 hc3 _ _ aA aA) ?_;rintro _ _ _ ⟨rfl,p1,c1,p2,c2,ho1,ho2,rfl,rfl⟩;refine aN ?_)
  repeat' (first|refine aQ ?_|refine aJ rfl (fun h=>?_) (fun h=>?_)|refine aK rfl rfl (fun h=>?_) (fun h=>?_)|fail)
  (refine bD rfl (hMd p1 c1 ho1 _ _ aA) ?_;rintro _ _ _ ⟨rfl,rfl⟩;refine aN ?_;refine aT (List.Mem.head _) (fun q5 c5 e__ hc5 hz5=>?_);subst e__)
  unfold iv
  repeat' (first|refine aQ ?_|refine aJ rfl (fun h=>?_) (fun h=>?_)|refine aK rfl rfl (fun h=>?_) (fun h=>?_)|fail)
  refine cK (fun b5=>?_)
  repeat' (first|refine aQ ?_|refine aJ rfl (fun h=>?_) (fun h=>?_)|refine aK rfl rfl (fun h=>?_) (fun h=>?_)|fail)
  all_goals
   ((repeat refine aG ?_);refine pW (.blk b5 [.bool (B (fd < 0)), .slice q5 (gr fd.natAbs).length c5] 42:: .blk b2 [.bool (B (z < 0)), .slice q4 (gr z.natAbs).length c4] 42:: .blk b [.bool (B (y < 0)), .slice q3 (gr y.natAbs).length c3] 42::M0) (iA (.agg #[.bool (B (fd < 0)), .slice q5 (gr fd.natAbs).length c5]) fd k::I0) [0,1,2,3,4,5,6,7,8] [2,2,2,2,0,0,0,0,0] mixed ?_)
   repeat' (first|refine aQ ?_|refine aJ rfl (fun h=>?_) (fun h=>?_)|refine aK rfl rfl (fun h=>?_) (fun h=>?_)|fail)
   refine yB (q:=q3) (c:=c3) (z:=y) (k:=k) aA hc3 hy ?_
   refine yB (q:=q4) (c:=c4) (z:=z) (k:=m) aA hc4 hz ?_
   unfold iv
   (refine bD rfl (hMu _ _ _ _ aA aA) ?_;rintro _ _ _ ⟨rfl,rfl⟩;refine aN ?_;refine aT (List.Mem.head _) (fun q8 c8 e__ hc8 hz8=>?_);subst e__)
   unfold iv
   (refine bD rfl (hSb _ _ _ _ aA aA) ?_;rintro _ _ _ ⟨rfl,rfl⟩;refine aN ?_;refine aT (List.Mem.head _) (fun q9 c9 e__ hc9 hz9=>?_);subst e__)
   unfold iv
   refine nY (k2:=m) (z:=fm) (List.Mem.tail _ (List.Mem.head _)) hml ?_
   repeat' (first|refine aQ ?_|refine aJ rfl (fun h=>?_) (fun h=>?_)|refine aK rfl rfl (fun h=>?_) (fun h=>?_)|fail)
   refine dW (rs:=[.cell 4 42, .cell 5 42, .tmp 6]) (.inl rfl) rfl (.cellN inferInstance rfl aA rfl (.cellN inferInstance rfl aA rfl (.tmp rfl .nil))) rfl M0 (iA (.agg #[.bool (B (fm < 0)), .slice q9 (gr fm.natAbs).length c9]) fm m::iA (.agg #[.bool (B (fd < 0)), .slice q5 (gr fd.natAbs).length c5]) fd k::I0) aF aC ⟨rfl,_,_,rfl,rfl⟩
end
end Go.Proofs.YtmmmfphealhapaaGreat
