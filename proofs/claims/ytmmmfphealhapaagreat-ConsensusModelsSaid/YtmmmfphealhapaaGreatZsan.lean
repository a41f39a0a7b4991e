/- fiducialref01: Add, Sub, Mul, Of, Compare fiducialref01: Sub, Compare, Mul, Of fiducialref -/
import Derived.Test.YtmmmfphealhapaaGreatZsam
import Derived.Test.YtmmmfphealhapaaGreatZsaj
import Derived.Test.YtmmmfphealhapaaGreatZsal
import Derived.Test.YtmmmfphealhapaaGreatZsak
set_option linter.unusedSimpArgs false
set_option linter.unusedVariables false
set_option maxRecDepth 100000
set_option maxHeartbeats 4000000
namespace Go.Proofs.YtmmmfphealhapaaGreat
open Go Go.Fx
section
variable {X:List Nat} {w0:World} {M0:List Ent} {I0:List aM}
theorem aQB {u v:Value} {y z:Int} {k m c:Nat} (hk:k≤1000000000000) (hm:m≤1000000000000) (hc0:c≤1000000000000) (hs:2 ^ k+2 ^ m≤2 ^ c) (hu:gW u y k∈I0) (hv:gW v z m∈I0):CD Tryz.prog 216 [u,v] X w0 M0 I0 (fun v M I=>M0=M∧I=gW v (y+z) c::I0):=by
 refine bZ hu (fun q cq e hc hy=>?_)
 subst e
 refine bZ (List.Mem.tail _ hv) (fun q' cq' e hc' hz=>?_)
 subst e
 have hl:=fT hy (by omega)
 have hl':=fT hz (by omega)
 have hyz:y.natAbs+z.natAbs≤2 ^ c:=Nat.le_trans (Nat.add_le_add hy hz) hs
 unfold iv
 have hP:=fun p1 c1 p2 c2 M0 I0=>aVF (X:=X) (w0:=w0) (M0:=M0) (I0:=I0) (p:=p1) (q:=p2) (m:=y.natAbs) (n:=z.natAbs) (cp:=c1) (cq:=c2) (by omega) (by omega)
 have hC:=fun p1 c1 p2 c2 M0 I0=>zH (X:=X) (w0:=w0) (M0:=M0) (I0:=I0) (p:=p1) (q:=p2) (m:=y.natAbs) (n:=z.natAbs) (cp:=c1) (cq:=c2) (by omega) (by omega)
 have hMi:=fun (hle:z.natAbs≤y.natAbs) p1 c1 p2 c2 M0 I0=>xH (X:=X) (w0:=w0) (M0:=M0) (I0:=I0) (p:=p1) (q:=p2) (m:=y.natAbs) (n:=z.natAbs) (cp:=c1) (cq:=c2) (by omega) hle
 have hMi2:=fun (hle:y.natAbs≤z.natAbs) p1 c1 p2 c2 M0 I0=>xH (X:=X) (w0:=w0) (M0:=M0) (I0:=I0) (p:=p1) (q:=p2) (m:=z.natAbs) (n:=y.natAbs) (cp:=c1) (cq:=c2) (by omega) hle
 have hMd:=fun (p:Prop) [Decidable p] (n:Nat) (q:Option Addr) (c2:Nat) (h1:sF q n c2) (h2:n≤2 ^ c) M0 I0=>tQ (X:=X) (w0:=w0) (M0:=M0) (I0:=I0) (p:=p) (n:=n) (q:=q) (l:=gr n) (c:=c2) (k:=c) (by have:=fT h2 hc0;omega) h1.1 h1.2 (bR _) (cO _) h2
 refine aN Tryz.func216 rfl Tryz.ntmps216 rfl ?_
 refine iH ?_
 refine gU rfl (fun b=>?_)
 refine gU rfl (fun b2=>?_)
 refine dS (fun b3=>?_)
 repeat refine aR ?_
 (repeat refine aG ?_);refine bA 2 [0,2,1,3,4,5] [1,2,0,0,0,0] mixed (by kernel_rfl) ?_
 repeat refine aR ?_
 (refine aQ rfl (lG hy hk hc aA) ?_;rintro _ _ _ ⟨rfl,q3,c3,rfl,hc3,rfl⟩;refine aL ?_)
 repeat refine aR ?_
 (refine aQ rfl (lG hz hm hc' aA) ?_;rintro _ _ _ ⟨rfl,q4,c4,rfl,hc4,rfl⟩;refine aL ?_)
 by_cases hpq:(y < 0↔z < 0)
 ·have hM1:=fun q2 c2 (h:sF q2 (y.natAbs+z.natAbs) c2) M0 I0=>hMd (y < 0) (y.natAbs+z.natAbs) q2 c2 h hyz M0 I0
  rw [aQA hpq,qU,qU] at hM1
  repeat refine aR ?_
  (repeat refine aG ?_);refine qQ (.blk b2 [.bool (B (z < 0)), .slice q4 (gr z.natAbs).length c4] 42:: .blk b [.bool (B (y < 0)), .slice q3 (gr y.natAbs).length c3] 42::M0) (I0) [0,1,2,3,4,5,6,7,8] [2,1,2,1,2,1,0,0,0] mixed ?_
  repeat refine aR ?_
  (refine aQ rfl (hP q3 c3 q4 c4 _ _ aA aA) ?_;rintro _ _ _ ⟨rfl,q5,c5,rfl,hc5,rfl⟩;refine aL ?_)
  (refine aQ rfl (hM1 q5 c5 hc5 _ _ aA) ?_;rintro _ _ _ ⟨rfl,rfl⟩;refine aL ?_;refine aW (List.Mem.head _) (fun q6 c6 e__ hc6 hz6=>?_);subst e__)
  unfold iv
  repeat refine aR ?_
  refine aT (cs:=[.bool (B (y+z < 0)), .slice q6 (gr (y+z).natAbs).length c6]) (.inl rfl) rfl rfl aA rfl _ _ aF aD ⟨rfl,rfl⟩
 ·by_cases hge:z.natAbs≤y.natAbs
  ·have hM1:=fun q2 c2 (h:sF q2 (y.natAbs - z.natAbs) c2) M0 I0=>hMd (y < 0) (y.natAbs - z.natAbs) q2 c2 h (by omega) M0 I0
   rw [aDA hpq hge,qU,qU] at hM1
   have hcv:=zQ (x:=(y.natAbs:Int)) (y:=(z.natAbs:Int)) (by omega)
   generalize fV (y.natAbs:Int) (z.natAbs:Int)=cv at*
   have hMi:=hMi hge
   clear hl hl' hyz hMi2
   repeat refine aR ?_
   refine dK rfl (hC q3 c3 q4 c4 _ _ aA aA) ?_
   repeat refine aR ?_
   (repeat refine aG ?_);refine qQ (.blk b2 [.bool (B (z < 0)), .slice q4 (gr z.natAbs).length c4] 42:: .blk b [.bool (B (y < 0)), .slice q3 (gr y.natAbs).length c3] 42::M0) (I0) [0,1,2,3,4,5,6,7,8] [2,1,2,1,2,1,0,0,0] mixed ?_
   repeat refine aR ?_
   (refine aQ rfl (hMi q3 c3 q4 c4 _ _ aA aA) ?_;rintro _ _ _ ⟨rfl,q5,c5,rfl,hc5,rfl⟩;refine aL ?_)
   (refine aQ rfl (hM1 q5 c5 hc5 _ _ aA) ?_;rintro _ _ _ ⟨rfl,rfl⟩;refine aL ?_;refine aW (List.Mem.head _) (fun q6 c6 e__ hc6 hz6=>?_);subst e__)
   unfold iv
   repeat refine aR ?_
   refine aT (cs:=[.bool (B (y+z < 0)), .slice q6 (gr (y+z).natAbs).length c6]) (.inl rfl) rfl rfl aA rfl _ _ aF aD ⟨rfl,rfl⟩
  ·have hM1:=fun q2 c2 (h:sF q2 (z.natAbs - y.natAbs) c2) M0 I0=>hMd (z < 0) (z.natAbs - y.natAbs) q2 c2 h (by omega) M0 I0
   rw [aDA (fun h=>hpq h.symm) (by omega),qU,qU,Int.add_comm] at hM1
   have hcv:=zZ (x:=(y.natAbs:Int)) (y:=(z.natAbs:Int)) (by omega)
   generalize fV (y.natAbs:Int) (z.natAbs:Int)=cv at*
   subst hcv
   have hMi:=hMi2 (by omega)
   clear hl hl' hyz hMi2
   repeat refine aR ?_
   refine dK rfl (hC q3 c3 q4 c4 _ _ aA aA) ?_
   repeat refine aR ?_
   (repeat refine aG ?_);refine qQ (.blk b2 [.bool (B (z < 0)), .slice q4 (gr z.natAbs).length c4] 42:: .blk b [.bool (B (y < 0)), .slice q3 (gr y.natAbs).length c3] 42::M0) (I0) [0,1,2,3,4,5,6,7,8] [2,1,2,1,2,1,0,0,0] mixed ?_
   repeat refine aR ?_
   (refine aQ rfl (hMi q4 c4 q3 c3 _ _ aA aA) ?_;rintro _ _ _ ⟨rfl,q5,c5,rfl,hc5,rfl⟩;refine aL ?_)
   (refine aQ rfl (hM1 q5 c5 hc5 _ _ aA) ?_;rintro _ _ _ ⟨rfl,rfl⟩;refine aL ?_;refine aW (List.Mem.head _) (fun q6 c6 e__ hc6 hz6=>?_);subst e__)
   unfold iv
   repeat refine aR ?_
   refine aT (cs:=[.bool (B (y+z < 0)), .slice q6 (gr (y+z).natAbs).length c6]) (.inl rfl) rfl rfl aA rfl _ _ aF aD ⟨rfl,rfl⟩
end
theorem aJH (k m:Nat):2 ^ k+2 ^ m≤2 ^ (k+m+1):=by
 have h1:2 ^ k≤2 ^ (k+m):=Nat.pow_le_pow_right (by decide) (by omega)
 have h2:2 ^ m≤2 ^ (k+m):=Nat.pow_le_pow_right (by decide) (by omega)
 rw [Nat.pow_succ];omega
theorem aPP (y z:Int):(y - z).sign=fV y z:=by
 unfold fV
 by_cases h1:y < z
 ·rw [if_pos h1];exact Int.sign_eq_neg_one_of_neg (by omega)
 ·rw [if_neg h1]
  by_cases h2:z < y
  ·rw [if_pos h2];exact Int.sign_eq_one_of_pos (by omega)
  ·rw [if_neg h2,show y - z=0 by omega];rfl
theorem bEO (y z:Int):sg (¬(y < 0↔z < 0)) (y.natAbs*z.natAbs)=y*z:=by
 unfold sg
 rw [Int.natCast_mul]
 by_cases h1:y < 0 <;>by_cases h2:z < 0 <;>simp only [h1,h2,not_true_eq_false,not_false_eq_true,iff_true,iff_false,if_true,if_false]
 ·rw [show (y.natAbs:Int)= -y by omega,show (z.natAbs:Int)= -z by omega,Int.neg_mul_neg]
 ·rw [show (y.natAbs:Int)= -y by omega,show (z.natAbs:Int)=z by omega,Int.neg_mul,Int.neg_neg]
 ·rw [show (y.natAbs:Int)=y by omega,show (z.natAbs:Int)= -z by omega,Int.mul_neg,Int.neg_neg]
 ·rw [show (y.natAbs:Int)=y by omega,show (z.natAbs:Int)=z by omega]
section
variable {X:List Nat} {w0:World} {M0:List Ent} {I0:List aM}
theorem aIZ {u v:Value} {y z:Int} {k m c:Nat} (hk:k≤1000000000000) (hm:m≤1000000000000) (hc0:c≤1000000000000) (hs:2 ^ k+2 ^ m≤2 ^ c) (hu:gW u y k∈I0) (hv:gW v z m∈I0):CD Tryz.prog 244 [u,v] X w0 M0 I0 (fun v M I=>M0=M∧I=gW v (y - z) c::I0):=by
 refine bZ hu (fun q cq e hc hy=>?_)
 subst e
 refine bZ (List.Mem.tail _ hv) (fun q' cq' e hc' hz=>?_)
 subst e
 have hA:=fun v M0 I0=>aQB (X:=X) (w0:=w0) (M0:=M0) (I0:=I0) (u:=iv q cq y) (v:=v) (y:=y) (z:= -z) (k:=k) (m:=m) (c:=c) hk hm hc0 hs
 rw [←Int.sub_eq_add_neg] at hA
 unfold iv at*
 refine aN Tryz.func244 rfl Tryz.ntmps244 rfl ?_
 refine iH ?_
 refine gU rfl (fun b=>?_)
 refine gU rfl (fun b2=>?_)
 refine dS (fun b3=>?_)
 repeat refine aR ?_
 (repeat refine aG ?_);refine bA 2 [0,1,2,3,4] [1,1,0,0,0] mixed (by kernel_rfl) ?_
 repeat refine aR ?_
 (refine aQ rfl (aHS hm aA) ?_;rintro _ _ _ ⟨rfl,rfl⟩;refine aL ?_)
 (refine aQ rfl (hA _ _ _ aA aA) ?_;rintro _ _ _ ⟨rfl,rfl⟩;refine aL ?_;refine aW (List.Mem.head _) (fun q6 c6 e__ hc6 hz6=>?_);subst e__)
 unfold iv
 repeat refine aR ?_
 refine aT (cs:=[.bool (B (y - z < 0)), .slice q6 (gr (y - z).natAbs).length c6]) (.inl rfl) rfl rfl aA rfl _ _ aF aD ⟨rfl,rfl⟩
theorem aLR {u v:Value} {y z:Int} {k m:Nat} (hk:k≤400000000000) (hm:m≤400000000000) (hu:gW u y k∈I0) (hv:gW v z m∈I0):CD Tryz.prog 183 [u,v] X w0 M0 I0 (fun v M I=>M0=M∧I0=I∧v= .int .i64 (fV y z)):=by
 refine bZ hu (fun q cq e hc hy=>?_)
 subst e
 refine bZ (List.Mem.tail _ hv) (fun q' cq' e hc' hz=>?_)
 subst e
 have hS:=fun M0 I0=>aIZ (X:=X) (w0:=w0) (M0:=M0) (I0:=I0) (u:=iv q cq y) (v:=iv q' cq' z) (k:=k) (m:=m) (c:=k+m+1) (y:=y) (z:=z) (by omega) (by omega) (by omega) (aJH k m)
 rw [←aPP]
 unfold iv at*
 refine aN Tryz.func183 rfl Tryz.ntmps183 rfl ?_
 refine iH ?_
 refine gU rfl (fun b=>?_)
 refine gU rfl (fun b2=>?_)
 repeat refine aR ?_
 (refine aQ rfl (hS _ _ aA aA) ?_;rintro _ _ _ ⟨rfl,rfl⟩;refine aL ?_)
 refine dK rfl (wD (k:=k+m+1) (by omega) aA) ?_
 repeat refine aR ?_
 refine iA rfl rfl (⟨rfl,rfl,rfl⟩)
theorem sK {u v:Value} {y z:Int} {k0 m0:Nat} (hk:k0+m0≤1000000000000) (hu:gW u y k0∈I0) (hv:gW v z m0∈I0):CD Tryz.prog 211 [u,v] X w0 M0 I0 (fun v M I=>M0=M∧I=gW v (y*z) (k0+m0)::I0):=by
 refine bZ hu (fun q cq e hc hy=>?_)
 subst e
 refine bZ (List.Mem.tail _ hv) (fun q' cq' e hc' hz=>?_)
 subst e
 have hl:=fT hy (by omega)
 have hl':=fT hz (by omega)
 have hyz:y.natAbs*z.natAbs≤2 ^ (k0+m0):=aBU hy hz
 have hl3:=fT hyz (by omega)
 unfold iv
 have hMd:=fun (q:Option Addr) (l:List Int) (h0:l.length≤1000000000000) (c2:Nat) (h1:l.length≤c2) (h2:Ok q) (h3:Dig l) (h4:val l=((y.natAbs*z.natAbs:Nat):Int)) M0 I0=>tQ (X:=X) (w0:=w0) (M0:=M0) (I0:=I0) (p:=¬(y < 0↔z < 0)) (n:=y.natAbs*z.natAbs) (q:=q) (l:=l) (c:=c2) (k:=k0+m0) h0 h1 (.inl h2) h3 h4 hyz
 rw [bEO] at hMd
 refine aN Tryz.func211 rfl Tryz.ntmps211 rfl ?_
 refine iH ?_
 refine gU rfl (fun bx=>?_)
 refine gU rfl (fun bz=>?_)
 refine dS (fun b3=>?_)
 repeat refine aR ?_
 (repeat refine aG ?_);refine bA 2 [0,2,1,3,4,5] [1,2,0,0,0,0] mixed (by kernel_rfl) ?_
 repeat refine aR ?_
 (refine aQ rfl (lG hy (by omega) hc aA) ?_;rintro _ _ _ ⟨rfl,q3,c3,rfl,hc3,rfl⟩;refine aL ?_)
 repeat refine aR ?_
 (refine aQ rfl (lG hz (by omega) hc' aA) ?_;rintro _ _ _ ⟨rfl,q4,c4,rfl,hc4,rfl⟩;refine aL ?_)
 have da:=bR y.natAbs
 have db:=bR z.natAbs
 have va:=cO y.natAbs
 have vb:=cO z.natAbs
 clear hl3 hyz hc hc' hc3 hc4
 generalize ha:gr y.natAbs=a at*
 generalize hb:gr z.natAbs=b at*
 repeat refine aR ?_
 (refine jI (a.length+b.length) rfl rfl (by omega) (by omega) (by omega) (by omega) (oF _ _) rfl rfl ?_;intro bo;refine aL ?_)
 repeat refine aR ?_
 refine bX [2,3,4,5] rfl (fun k G M I=>∃(i:Nat) (o:List Int),i≤a.length∧k=a.length - i∧o.length=a.length+b.length∧Dig o∧val o=val (a.take i)*val b∧(∀j:Nat,i+b.length≤j→o.getD j 0=0)∧G=[(6, .int .i64 i)]∧M= .blk bo (recs eG o) 121:: .blk b3 [.bool false, .slice none 0 0] 42:: .blk bz [.bool (B (z < 0)), .slice q4 b.length c4] 42:: .blk bx [.bool (B (y < 0)), .slice q3 a.length c3] 42::M0∧I=aH q4 (recs eG b)::aH q3 (recs eG a)::I0) (a.length) _ _ _ dE aF aD (⟨0,_,by omega,by omega,by simp,Dig.zeros _,by rw [aBH];simp [val],fun j _=>by simp [List.getD,List.getElem?_replicate];split <;>rfl,rfl,rfl,rfl⟩) ?_
 rintro k G M I ⟨i,o,hi,rfl,ho,hd,hv,hz,rfl,rfl,rfl⟩
 by_cases hia:i < a.length
 ·have d1:=da.gt i
  repeat refine aR ?_
  refine lV [2,3,4,5,6] rfl (fun k G M I=>∃(j:Nat) (u:List Int) (c:Int),j≤b.length∧k=b.length - j∧u.length=a.length+b.length∧Dig u∧(0≤c∧c < 1000000000)∧val u+1000000000 ^ (i+j)*c=val (a.take i)*val b+1000000000 ^ i*(gt a i*val (b.take j))∧(∀j:Nat,i+b.length≤j→u.getD j 0=0)∧G=[(7, .int .u64 c),(8, .int .i64 j)]∧M= .blk bo (recs eG u) 121:: .blk b3 [.bool false, .slice none 0 0] 42:: .blk bz [.bool (B (z < 0)), .slice q4 b.length c4] 42:: .blk bx [.bool (B (y < 0)), .slice q3 a.length c3] 42::M0∧I=aH q4 (recs eG b)::aH q3 (recs eG a)::I0) (b.length) (⟨0,o,0,by omega,by omega,ho,hd,by omega,by simp [val,hv],hz,rfl,rfl,rfl⟩) ?_
  rintro k G M I ⟨j,u,c,hj,rfl,hu,hdu,hc,hvu,hzu,rfl,rfl,rfl⟩
  by_cases hjb:j < b.length
  ·have d2:=db.gt j
   have d3:=hdu.gt ((i:Int)+j)
   obtain ⟨d4,d5,d6⟩:=tY d1 d2 d3 hc
   have d7:0≤gt a (i:Int)*gt b (j:Int)∧gt a (i:Int)*gt b (j:Int)≤18446744073709551615:=by omega
   have e1:=aDV d5.1
   have e2:=aEV d5.1
   have hst:=aNH (o:=u) (b:=b) (j:=j) hvu (by omega)
   rw [←xV,←xV] at hst
   rw [show (((i+j:Nat):Int))=(i:Int)+(j:Int) by omega] at hst
   obtain ⟨p,hp⟩:∃p,p=gt a (i:Int)*gt b (j:Int):=⟨_,rfl⟩
   obtain ⟨s,hs⟩:∃s,s=(gt u ((i:Int)+(j:Int))+gt a (i:Int)*gt b (j:Int)+c) % 1000000000:=⟨_,rfl⟩
   obtain ⟨t,ht⟩:∃t,t=(gt u ((i:Int)+(j:Int))+gt a (i:Int)*gt b (j:Int)+c) / 1000000000:=⟨_,rfl⟩
   rw [←hs] at e1 hst
   rw [←ht] at e2 hst d6
   have hs2:0≤s∧s < 1000000000:=by omega
   clear hs ht hp
   repeat refine aR ?_
   (repeat refine aG ?_);refine dJ [0,1,2,3,4,5,6,7,8,9,10,11,12,13,14,15,16,17,18,19,20,21,22,23] [0,0,0,0,0,0,0,0,0,0,0,0,0,0,0,0,0,0,0,0,0,0,0,0] mixed (by kernel_rfl) ?_
   repeat refine aR ?_
   rw [e1]
   repeat refine aR ?_
   rw [e2]
   refine cB (b.length - (j+1)) _ _ _ (by first|omega|(simp only [List.length_append,List.length_cons,List.length_nil];omega)) dE aF aD (⟨j+1,_,t,by omega,rfl,by rw [dI];exact hu,?_,d6,?_,?_,rfl,rfl,rfl⟩)
   ·rw [gZ];exact hdu.set _ hs2
   ·rw [gZ];exact hst
   ·intro t ht
    rw [gZ,lX _ (by omega)]
    exact hzu t ht
  ·have hjb:j=b.length:=by omega
   subst hjb
   have hst:=aIH (o:=u) (b:=b) hvu (by omega) (hzu _ (Nat.le_refl _))
   repeat refine aR ?_
   refine cB (a.length - (i+1)) _ _ _ (by first|omega|(simp only [List.length_append,List.length_cons,List.length_nil];omega)) dE aF aD (⟨i+1,_,by omega,rfl,by rw [dI];exact hu,?_,?_,?_,rfl,rfl,rfl⟩)
   ·rw [gZ];exact hdu.set _ hc
   ·rw [gZ,hst,bT,xV]
    rw [Int.add_mul,Int.mul_assoc]
   ·intro t ht
    rw [gZ,lX _ (by omega)]
    exact hzu t (by omega)
 ·have hiN:i=a.length:=by omega
  subst hiN
  rw [List.take_length,va,vb] at hv
  have hM:=fun M0 I0=>hMd (some ⟨bo,0,none⟩) o (by omega) (a.length+b.length) (by omega) (Ok.mk _ _) hd (by rw [hv,Int.natCast_mul]) M0 I0
  rw [ho] at hM
  repeat refine aR ?_
  refine aI (b:=bo) xW ?_
  (refine aQ rfl (hM _ _ aA) ?_;rintro _ _ _ ⟨rfl,rfl⟩;refine aL ?_;refine aW (List.Mem.head _) (fun q6 c6 e__ hc6 hz6=>?_);subst e__)
  unfold iv
  repeat refine aR ?_
  refine aT (cs:=[.bool (B (y*z < 0)), .slice q6 (gr (y*z).natAbs).length c6]) (.inl rfl) rfl rfl aA rfl _ _ aF aD ⟨rfl,rfl⟩
end
section
variable {X:List Nat} {w0:World} {M0:List Ent} {I0:List aM}
theorem aVV {x:Int} (hx: -9223372036854775808≤x∧x≤9223372036854775807):CD Tryz.prog 166 [.int .i64 x] X w0 M0 I0 (fun v M I=>M0=M∧I=gW v x 63::I0):=by
 have hn:x.natAbs≤2 ^ 63:=by omega
 have hMd:=fun (q:Option Addr) (l:List Int) (h0:l.length≤1000000000000) (c2:Nat) (h1:l.length≤c2) (h2:Ok q∨(l.length=0∧c2=0)) (h3:Dig l) (h4:val l=((x.natAbs:Nat):Int)) M0 I0=>tQ (X:=X) (w0:=w0) (M0:=M0) (I0:=I0) (p:=x < 0) (n:=x.natAbs) (q:=q) (l:=l) (c:=c2) (k:=63) h0 h1 h2 h3 h4 hn
 rw [qU] at hMd
 have dA:=bR x.natAbs
 have vA:=cO x.natAbs
 have hlA:(gr x.natAbs).length≤3:=rF (by omega)
 have hgr:∀m:Nat,m≠0→gr m=((m % 1000000000:Nat):Int)::gr (m / 1000000000):=fun m h=>wG h
 refine aS Tryz.func166 rfl Tryz.ntmps166 rfl ?_
 refine iH ?_
 refine dS (fun b=>?_)
 by_cases hx0:x < 0
 ·repeat refine aR ?_
  refine aC rfl (fun _=>fD rfl (aLK (by omega))) rfl rfl ?_
  repeat refine aR ?_
  all_goals
   refine gX (cs:=recs eG []) ([]) rfl (fun b1=>?_)
   repeat refine aR ?_
   refine uH (b:=b1) (mm:=0) 1 jL rfl (by omega) ?_
   refine bX [0,2] rfl (fun k G M I=>∃(m:Nat) (ui:Int) (xs:List Int) (a:Option Addr) (c':Nat),k=m∧ui=m∧m≤x.natAbs∧xs++gr m=gr x.natAbs∧G=[(3, .int .u64 ui),(4, .slice a xs.length c')]∧M= .row a xs.length c' (recs eG xs) 121 1:: .blk b [.bool false, .slice none 0 0] 42::M0∧I0=I) (x.natAbs) _ _ _ dE aF aD (⟨x.natAbs,_,[],_,_,rfl,by omega,by omega,rfl,rfl,rfl,rfl⟩) ?_
   rintro k G M I ⟨m,ui,xs,a,c',rfl,hui,hm,hxs,rfl,rfl,rfl⟩
   have hlx:xs.length+(gr k).length≤3:=by rw [←hxs] at hlA;simpa using hlA
   by_cases hk0:k=0
   ·subst hk0
    rw [gL,List.append_nil] at hxs
    subst hxs
    refine aCV (fun w hw=>And.intro (hw.rowLe (List.Mem.head _)) ((hw.rowS (List.Mem.head _)).2.imp id And.right)) (fun ho3=>?_)
    have hM:=hMd a (gr x.natAbs) (by omega) c' ho3.1 ho3.2 dA vA
    repeat refine aR ?_
    refine eX xW ?_
    (refine aQ rfl (hM _ _ aA) ?_;rintro _ _ _ ⟨rfl,rfl⟩;refine aL ?_;refine aW (List.Mem.head _) (fun q6 c6 e__ hc6 hz6=>?_);subst e__)
    unfold iv
    repeat refine aR ?_
    refine aT (cs:=[.bool (B (x < 0)), .slice q6 (gr x.natAbs).length c6]) (.inl rfl) rfl rfl aA rfl _ _ aF aD ⟨rfl,rfl⟩
   ·have hgk:=hgr k hk0
    have e1:=aDV (s:=ui) (by omega)
    have e2:=aEV (s:=ui) (by omega)
    obtain ⟨s,hs⟩:∃s,s=ui % 1000000000:=⟨_,rfl⟩
    obtain ⟨t,ht⟩:∃t,t=ui / 1000000000:=⟨_,rfl⟩
    have hs1:((k % 1000000000:Nat):Int)=s:=by omega
    have ht1:((k / 1000000000:Nat):Int)=t:=by omega
    rw [hs1] at hgk
    rw [←hs] at e1
    rw [←ht] at e2
    have hs2:0≤s∧s < 1000000000:=by omega
    have hl9:(gr k).length=(gr (k / 1000000000)).length+1:=by rw [hgk];simp
    repeat refine aR ?_
    rw [e1]
    repeat refine aR ?_
    refine gX (cs:=recs eG [s]) ([.int .u32 s]) rfl (fun b2=>?_)
    refine wB (ys:=[s]) 1 rfl rfl rfl (fun a2 c2=>?_)
    repeat refine aR ?_
    rw [e2]
    refine gJ (k / 1000000000) (⟨k / 1000000000,t,xs++[s],a2,c2,rfl,ht1.symm,by omega,by rw [List.append_assoc];rw [hgk] at hxs;exact hxs,rfl,rfl,rfl⟩)
 ·repeat refine aR ?_
  all_goals
   refine gX (cs:=recs eG []) ([]) rfl (fun b1=>?_)
   repeat refine aR ?_
   refine uH (b:=b1) (mm:=0) 1 jL rfl (by omega) ?_
   refine bX [0,2] rfl (fun k G M I=>∃(m:Nat) (ui:Int) (xs:List Int) (a:Option Addr) (c':Nat),k=m∧ui=m∧m≤x.natAbs∧xs++gr m=gr x.natAbs∧G=[(3, .int .u64 ui),(4, .slice a xs.length c')]∧M= .row a xs.length c' (recs eG xs) 121 1:: .blk b [.bool false, .slice none 0 0] 42::M0∧I0=I) (x.natAbs) _ _ _ dE aF aD (⟨x.natAbs,_,[],_,_,rfl,by omega,by omega,rfl,rfl,rfl,rfl⟩) ?_
   rintro k G M I ⟨m,ui,xs,a,c',rfl,hui,hm,hxs,rfl,rfl,rfl⟩
   have hlx:xs.length+(gr k).length≤3:=by rw [←hxs] at hlA;simpa using hlA
   by_cases hk0:k=0
   ·subst hk0
    rw [gL,List.append_nil] at hxs
    subst hxs
    refine aCV (fun w hw=>And.intro (hw.rowLe (List.Mem.head _)) ((hw.rowS (List.Mem.head _)).2.imp id And.right)) (fun ho3=>?_)
    have hM:=hMd a (gr x.natAbs) (by omega) c' ho3.1 ho3.2 dA vA
    repeat refine aR ?_
    refine eX xW ?_
    (refine aQ rfl (hM _ _ aA) ?_;rintro _ _ _ ⟨rfl,rfl⟩;refine aL ?_;refine aW (List.Mem.head _) (fun q6 c6 e__ hc6 hz6=>?_);subst e__)
    unfold iv
    repeat refine aR ?_
    refine aT (cs:=[.bool (B (x < 0)), .slice q6 (gr x.natAbs).length c6]) (.inl rfl) rfl rfl aA rfl _ _ aF aD ⟨rfl,rfl⟩
   ·have hgk:=hgr k hk0
    have e1:=aDV (s:=ui) (by omega)
    have e2:=aEV (s:=ui) (by omega)
    obtain ⟨s,hs⟩:∃s,s=ui % 1000000000:=⟨_,rfl⟩
    obtain ⟨t,ht⟩:∃t,t=ui / 1000000000:=⟨_,rfl⟩
    have hs1:((k % 1000000000:Nat):Int)=s:=by omega
    have ht1:((k / 1000000000:Nat):Int)=t:=by omega
    rw [hs1] at hgk
    rw [←hs] at e1
    rw [←ht] at e2
    have hs2:0≤s∧s < 1000000000:=by omega
    have hl9:(gr k).length=(gr (k / 1000000000)).length+1:=by rw [hgk];simp
    repeat refine aR ?_
    rw [e1]
    repeat refine aR ?_
    refine gX (cs:=recs eG [s]) ([.int .u32 s]) rfl (fun b2=>?_)
    refine wB (ys:=[s]) 1 rfl rfl rfl (fun a2 c2=>?_)
    repeat refine aR ?_
    rw [e2]
    refine gJ (k / 1000000000) (⟨k / 1000000000,t,xs++[s],a2,c2,rfl,ht1.symm,by omega,by rw [List.append_assoc];rw [hgk] at hxs;exact hxs,rfl,rfl,rfl⟩)
end
theorem aUA {t:Nat} (ht:(gr t).length≤2):t < 1000000000000000000:=by
 have:=jR (bR t)
 rw [cO] at this
 have h2:(1000000000:Int) ^ (gr t).length≤1000000000 ^ 2:=nR ht
 omega
theorem aWM {n:Nat} (h:(gr n).length≤2):gt (gr n) 1*1000000000+gt (gr n) 0=(n:Int):=by
 have hv:=cO n
 match hg:gr n,h with
 |[],_=>rw [hg] at hv;simp [val] at hv;rw [←hv];rfl
 |[a],_=>rw [hg] at hv;simp [val] at hv;rw [←hv];simp [gt]
 |[a,b],_=>rw [hg] at hv;simp [val] at hv;rw [←hv];simp [gt];omega
section
variable {X:List Nat} {w0:World} {M0:List Ent} {I0:List aM}
theorem aQF {q:Option Addr} {n c:Nat} (hl:(gr n).length≤2) (hq:aH q (recs eG (gr n))∈I0):
  CD Tryz.prog 246 [.slice q (gr n).length c] X w0 M0 I0 (fun v M I=>M0=M∧I0=I∧v= .int .u64 (n:Int)):=by
 have d0:=(bR n).gt 0
 have d1:=(bR n).gt 1
 rw [←aWM hl]
 refine aS Tryz.func246 rfl Tryz.ntmps246 rfl ?_
 repeat' (first|refine aR ?_|refine aK rfl (fun h=>?_) (fun h=>?_)|refine aJ rfl rfl (fun h=>?_) (fun h=>?_)|fail)
 refine dK rfl (qK (l:=gr n) (i:=1) rfl (by omega) aA (bR n)) ?_
 repeat' (first|refine aR ?_|refine aK rfl (fun h=>?_) (fun h=>?_)|refine aJ rfl rfl (fun h=>?_) (fun h=>?_)|fail)
 refine dK rfl (qK (l:=gr n) (i:=0) rfl (by omega) aA (bR n)) ?_
 repeat' (first|refine aR ?_|refine aK rfl (fun h=>?_) (fun h=>?_)|refine aJ rfl rfl (fun h=>?_) (fun h=>?_)|fail)
 refine iA rfl rfl (⟨rfl,rfl,rfl⟩)
theorem aPC {u v:Value} {y z:Int} {k0 m:Nat} (hk:k0≤500000000000) (hm:m≤500000000000) (hu:gW u y k0∈I0) (hv:gW v z m∈I0):CD Tryz.prog 184 [u,v] X w0 M0 I0 (fun v M I=>M0=M∧I=gW v (Int.gcd y z) (k0+m)::I0):=by
 refine bZ hu (fun q cq e hc hy=>?_)
 subst e
 refine bZ (List.Mem.tail _ hv) (fun q' cq' e hc' hz=>?_)
 subst e
 have hy2:y.natAbs≤2 ^ (k0+m):=Nat.le_trans hy (Nat.pow_le_pow_right (by decide) (by omega))
 have hz2:z.natAbs≤2 ^ (k0+m):=Nat.le_trans hz (Nat.pow_le_pow_right (by decide) (by omega))
 have hMd:=fun (a:Nat) (e:(Int.gcd y z:Int)=a) (ha:a≤2 ^ (k0+m)) (q:Option Addr) (l:List Int) (h0:l.length≤1000000000000) (c2:Nat) (h1:l.length≤c2) (h2:Ok q∨(l.length=0∧c2=0)) (h3:Dig l) (h4:val l=(a:Int)) M0 I0=>tQ (X:=X) (w0:=w0) (M0:=M0) (I0:=I0) (p:=False) (n:=a) (q:=q) (l:=l) (c:=c2) (k:=k0+m) h0 h1 h2 h3 h4 ha
 simp only [bE (show ¬False from id)] at hMd
 have hsg:∀a:Nat,sg False a=(a:Int):=fun a=>by unfold sg;rw [if_neg (fun h=>h)]
 unfold iv
 refine aN Tryz.func184 rfl Tryz.ntmps184 rfl ?_
 refine iH ?_
 refine gU rfl (fun b=>?_)
 refine gU rfl (fun b2=>?_)
 refine dS (fun b3=>?_)
 repeat' (first|refine aR ?_|refine aK rfl (fun h=>?_) (fun h=>?_)|refine aJ rfl rfl (fun h=>?_) (fun h=>?_)|fail)
 (repeat refine aG ?_);refine bA 3 [0,3,1,2,4,5,6,7] [1,1,0,1,0,0,0,0] mixed (by kernel_rfl) ?_
 repeat' (first|refine aR ?_|refine aK rfl (fun h=>?_) (fun h=>?_)|refine aJ rfl rfl (fun h=>?_) (fun h=>?_)|fail)
 (refine aQ rfl (lG hy (by omega) hc aA) ?_;rintro _ _ _ ⟨rfl,q3,c3,rfl,hc3,rfl⟩;refine aL ?_)
 repeat' (first|refine aR ?_|refine aK rfl (fun h=>?_) (fun h=>?_)|refine aJ rfl rfl (fun h=>?_) (fun h=>?_)|fail)
 (refine aQ rfl (lG hz (by omega) hc' aA) ?_;rintro _ _ _ ⟨rfl,q4,c4,rfl,hc4,rfl⟩;refine aL ?_)
 repeat' (first|refine aR ?_|refine aK rfl (fun h=>?_) (fun h=>?_)|refine aJ rfl rfl (fun h=>?_) (fun h=>?_)|fail)
 refine lV [4] rfl (fun k G M I=>∃(a b:Nat) (pa pb:Option Addr) (ca cb:Nat),k=b∧a≤2 ^ (k0+m)∧b≤2 ^ (k0+m)∧sF pa a ca∧sF pb b cb∧Nat.gcd a b=Nat.gcd y.natAbs z.natAbs∧G=[(5, .slice pa (gr a).length ca),(6, .slice pb (gr b).length cb)]∧M= .blk b3 [.bool false, .slice none 0 0] 42::M0∧I=aH pa (recs eG (gr a))::aH pb (recs eG (gr b))::I0) (z.natAbs) (⟨y.natAbs,z.natAbs,q3,q4,c3,c4,rfl,hy2,hz2,hc3,hc4,rfl,rfl,rfl,rfl⟩) ?_
 rintro k G M I ⟨a,b',pa,pb,ca,cb,rfl,ha,hb,oa,ob,hg,rfl,rfl,rfl⟩
 have la:=fA ha
 have lb:=fA hb
 by_cases hk0:k=0
 ·subst hk0
  have hl0:(gr 0).length=0:=by rw [gL];rfl
  rw [Nat.gcd_zero_right] at hg
  have hz:(Int.gcd y z:Int)=(a:Int):=by rw [Int.gcd_eq_natAbs_gcd_natAbs,hg]
  have hM:=fun M0 I0=>hMd a hz ha pa (gr a) (by omega) ca oa.1 oa.2 (bR a) (cO a) M0 I0
  rw [hsg,←hz] at hM
  repeat' (first|refine aR ?_|refine aK rfl (fun h=>?_) (fun h=>?_)|refine aJ rfl rfl (fun h=>?_) (fun h=>?_)|fail)
  (refine aQ rfl (hM _ _ aA) ?_;rintro _ _ _ ⟨rfl,rfl⟩;refine aL ?_;refine aW (List.Mem.head _) (fun q2 c2 e__ hc2 hz2=>?_);subst e__)
  unfold iv
  repeat' (first|refine aR ?_|refine aK rfl (fun h=>?_) (fun h=>?_)|refine aJ rfl rfl (fun h=>?_) (fun h=>?_)|fail)
  refine aT (cs:=[.bool (B ((Int.gcd y z:Int) < 0)), .slice q2 (gr (Int.gcd y z:Int).natAbs).length c2]) (.inl rfl) rfl rfl aA rfl _ _ aF aD ⟨rfl,rfl⟩
 ·have hlk:0 < (gr k).length:=List.length_pos_iff.2 (fun e=>hk0 (oO.1 e))
  by_cases hw:(gr a).length≤2∧(gr k).length≤2
  ·have a9:=aUA hw.1
   have k9:=aUA hw.2
   have hP1:=fun M0 I0=>aQF (X:=X) (w0:=w0) (M0:=M0) (I0:=I0) (q:=pa) (n:=a) (c:=ca) hw.1
   have hP2:=fun M0 I0=>aQF (X:=X) (w0:=w0) (M0:=M0) (I0:=I0) (q:=pb) (n:=k) (c:=cb) hw.2
   repeat' (first|refine aR ?_|refine aK rfl (fun h=>?_) (fun h=>?_)|refine aJ rfl rfl (fun h=>?_) (fun h=>?_)|fail)
   refine dK rfl (hP1 _ _ aA) ?_
   repeat' (first|refine aR ?_|refine aK rfl (fun h=>?_) (fun h=>?_)|refine aJ rfl rfl (fun h=>?_) (fun h=>?_)|fail)
   refine dK rfl (hP2 _ _ aA) ?_
   clear hlk la lb oa ob
   repeat' (first|refine aR ?_|refine aK rfl (fun h=>?_) (fun h=>?_)|refine aJ rfl rfl (fun h=>?_) (fun h=>?_)|fail)
   refine bX [4] rfl (fun k G M I=>∃(x x2:Nat) (xi xi2:Int),k=x2∧xi=x∧xi2=x2∧x < 1000000000000000000∧x2 < 1000000000000000000∧x≤2 ^ (k0+m)∧x2≤2 ^ (k0+m)∧Nat.gcd x x2=Nat.gcd y.natAbs z.natAbs∧G=[(9, .int .u64 xi),(10, .int .u64 xi2)]∧M= .blk b3 [.bool false, .slice none 0 0] 42::M0∧I0=I) (k) _ _ _ dE aF aD (⟨a,k,_,_,rfl,rfl,rfl,a9,k9,ha,hb,hg,rfl,rfl,rfl⟩) ?_
   rintro k G M I ⟨x,x2,xi,xi2,rfl,hxi,hxi2,hx9,hx29,hx,hx2,hxg,rfl,rfl,rfl⟩
   by_cases hx0:k=0
   ·subst hx0
    rw [Nat.gcd_zero_right] at hxg
    have hz:(Int.gcd y z:Int)=(x:Int):=by rw [Int.gcd_eq_natAbs_gcd_natAbs,hxg]
    have e1:=aDV (s:=xi) (by omega)
    have e2:=aEV (s:=xi) (by omega)
    obtain ⟨s,hs⟩:∃s,s=xi % 1000000000:=⟨_,rfl⟩
    obtain ⟨t,ht⟩:∃t,t=xi / 1000000000:=⟨_,rfl⟩
    have hst:(0≤s∧s < 1000000000)∧(0≤t∧t < 1000000000)∧s+1000000000*t=x:=by omega
    rw [←hs] at e1
    rw [←ht] at e2
    have hd2:Dig [s,t]:=by rw [Dig.cons,Dig.cons];exact ⟨hst.1,hst.2.1,Dig.nil⟩
    have hv2:val [s,t]=(x:Int):=by simp [val];omega
    have hM:=fun b4 M0 I0=>hMd x hz hx (some ⟨b4,0,none⟩) [s,t] (by simp) 2 (by simp) (.inl (Ok.mk _ _)) hd2 hv2 M0 I0
    rw [hsg,←hz] at hM
    repeat' (first|refine aR ?_|refine aK rfl (fun h=>?_) (fun h=>?_)|refine aJ rfl rfl (fun h=>?_) (fun h=>?_)|fail)
    rw [e1]
    repeat' (first|refine aR ?_|refine aK rfl (fun h=>?_) (fun h=>?_)|refine aJ rfl rfl (fun h=>?_) (fun h=>?_)|fail)
    rw [e2]
    repeat' (first|refine aR ?_|refine aK rfl (fun h=>?_) (fun h=>?_)|refine aJ rfl rfl (fun h=>?_) (fun h=>?_)|fail)
    refine gX (cs:=recs eG [s,t]) ([.int .u32 s, .int .u32 t]) rfl (fun b4=>?_)
    refine aI xW ?_
    (refine aQ rfl (hM b4 _ _ aA) ?_;rintro _ _ _ ⟨rfl,rfl⟩;refine aL ?_;refine aW (List.Mem.head _) (fun q2 c2 e__ hc2 hz2=>?_);subst e__)
    unfold iv
    repeat' (first|refine aR ?_|refine aK rfl (fun h=>?_) (fun h=>?_)|refine aJ rfl rfl (fun h=>?_) (fun h=>?_)|fail)
    refine aT (cs:=[.bool (B ((Int.gcd y z:Int) < 0)), .slice q2 (gr (Int.gcd y z:Int).natAbs).length c2]) (.inl rfl) rfl rfl aA rfl _ _ aF aD ⟨rfl,rfl⟩
   ·have e2:xi.tmod xi2=((x % k:Nat):Int):=by rw [hxi,hxi2,Int.tmod_eq_emod_of_nonneg (by omega),Int.natCast_emod]
    have hmod:=Nat.mod_lt x (show k>0 by omega)
    have hg2:Nat.gcd k (x % k)=Nat.gcd y.natAbs z.natAbs:=by rw [←hxg,Nat.gcd_comm x k,Nat.gcd_rec k x,Nat.gcd_comm]
    obtain ⟨r,hr⟩:∃r,r=x % k:=⟨_,rfl⟩
    rw [←hr] at e2 hmod hg2
    clear hr
    repeat' (first|refine aR ?_|refine aK rfl (fun h=>?_) (fun h=>?_)|refine aJ rfl rfl (fun h=>?_) (fun h=>?_)|fail)
    (repeat refine aG ?_);refine dJ [0,1,2,3,4,5] [0,0,0,0,0,0] mixed (by kernel_rfl) ?_
    repeat' (first|refine aR ?_|refine aK rfl (fun h=>?_) (fun h=>?_)|refine aJ rfl rfl (fun h=>?_) (fun h=>?_)|fail)
    rw [e2]
    refine cB (r) _ _ _ (by first|omega|(simp only [List.length_append,List.length_cons,List.length_nil];omega)) dE aF aD (⟨k,r,xi2,_,rfl,hxi2,rfl,by omega,by omega,hx2,by omega,hg2,rfl,rfl,rfl⟩)
  ·have hO:=fun M0 I0=>aJS (X:=X) (w0:=w0) (M0:=M0) (I0:=I0) (p:=pa) (q:=pb) (m:=a) (n:=k) (cp:=ca) (cq:=cb) (by omega) (by omega) (by omega) oa
   have hmod:=Nat.mod_lt a (show k>0 by omega)
   have hg2:Nat.gcd k (a % k)=Nat.gcd y.natAbs z.natAbs:=by rw [←hg,Nat.gcd_comm a k,Nat.gcd_rec k a,Nat.gcd_comm]
   obtain ⟨r,hr⟩:∃r,r=a % k:=⟨_,rfl⟩
   obtain ⟨qq,hqq⟩:∃r,r=a / k:=⟨_,rfl⟩
   rw [←hr,←hqq] at hO
   rw [←hr] at hmod hg2
   clear hr hqq
   repeat' (first|refine aR ?_|refine aK rfl (fun h=>?_) (fun h=>?_)|refine aJ rfl rfl (fun h=>?_) (fun h=>?_)|fail)
   all_goals
    (refine aQ rfl (hO _ _ aA aA) ?_;rintro _ _ _ ⟨rfl,p1,c1,p2,c2,ho1,ho2,rfl,rfl⟩;refine aL ?_)
    repeat' (first|refine aR ?_|refine aK rfl (fun h=>?_) (fun h=>?_)|refine aJ rfl rfl (fun h=>?_) (fun h=>?_)|fail)
    refine gJ (r) (⟨k,r,pb,p2,cb,c2,rfl,hb,by omega,ob,ho2,hg2,rfl,rfl,rfl⟩)
end
theorem aSL {y z:Int} (hz:z≠0):((y < 0↔z < 0)∨y.natAbs % z.natAbs=0→sg (¬(y < 0↔z < 0)) (y.natAbs / z.natAbs)=y.fdiv z)∧(¬(y < 0↔z < 0)→y.natAbs % z.natAbs≠0→sg (¬(y < 0↔z < 0)) (y.natAbs / z.natAbs) - 1=y.fdiv z):=by
 have h:=aAN (y:=y) hz
 refine ⟨fun h1=>by rw [(h.2 h1).1];rfl,fun h1 h2=>?_⟩
 rw [(h.1 h1 h2).1]
 unfold sg
 rw [if_pos h1];omega
theorem aIP (p:Prop) [Decidable p] (n:Nat):(if p then -(n:Int) else (n:Int)).natAbs=n:=by split <;>omega
theorem bAA {y z:Int} (hz:z≠0):(y.fdiv z).natAbs≤y.natAbs:=by
 have h:=aAN (y:=y) hz
 have hz1:0 < z.natAbs:=by omega
 have hab:=Nat.div_add_mod y.natAbs z.natAbs
 have hbQ:y.natAbs / z.natAbs≤z.natAbs*(y.natAbs / z.natAbs):=Nat.le_mul_of_pos_left _ hz1
 by_cases h1:(y < 0↔z < 0)∨y.natAbs % z.natAbs=0
 ·rw [(h.2 h1).1,aIP];exact Nat.div_le_self _ _
 ·have h2:y.natAbs % z.natAbs≠0:=fun h'=>h1 (.inr h')
  rw [(h.1 (fun h'=>h1 (.inl h')) h2).1]
  generalize y.natAbs / z.natAbs=Q at*
  generalize y.natAbs % z.natAbs=R at*
  generalize z.natAbs*Q=p at*
  clear h h1
  omega
theorem bAG {y z:Int} (hz:z≠0):(y.fmod z).natAbs≤z.natAbs:=by
 have h:=aAN (y:=y) hz
 have hz1:0 < z.natAbs:=by omega
 have hlt:=Nat.mod_lt y.natAbs hz1
 by_cases h1:(y < 0↔z < 0)∨y.natAbs % z.natAbs=0
 ·rw [(h.2 h1).2,aIP];omega
 ·rw [(h.1 (fun h'=>h1 (.inl h')) (fun h'=>h1 (.inr h'))).2,aIP];omega
theorem bCA (y z:Int):y - (y.fdiv z)*z=y.fmod z:=by rw [Int.fmod_def,Int.mul_comm]
section
variable {X:List Nat} {w0:World} {M0:List Ent} {I0:List aM}
theorem aDR {u v:Value} {y z:Int} {k m:Nat} (hk:k≤300000000000) (hm:m≤300000000000) (hz0:z≠0) (hu:gW u y k∈I0) (hv:gW v z m∈I0):
  CD Tryz.prog 259 [u,v] X w0 M0 I0 (DvP (y.fdiv z) (y.fmod z) k m M0 I0):=by
 refine bZ hu (fun q cq e hc hy=>?_)
 subst e
 refine bZ (List.Mem.tail _ hv) (fun q' cq' e hc' hz=>?_)
 subst e
 have hly:=fA hy
 have hlz:=fA hz
 have hlz1:¬(gr z.natAbs).length=0:=fun e=>by have:=oO.1 (List.eq_nil_of_length_eq_zero e);omega
 have hr0:(gr (y.natAbs % z.natAbs)).length=0↔y.natAbs % z.natAbs=0:=by rw [List.length_eq_zero_iff,oO]
 have hqb:y.natAbs / z.natAbs≤2 ^ k:=yE hy
 have hlq:=fA hqb
 have hdv:=aSL (y:=y) hz0
 have hfl:(y.fdiv z).natAbs≤2 ^ k:=Nat.le_trans (bAA hz0) hy
 have hml:(y.fmod z).natAbs≤2 ^ m:=Nat.le_trans (bAG hz0) hz
 have hO:=fun (p1 p2:Option Addr) (c1 c2:Nat) (h1:sF p1 y.natAbs c1) M0 I0=>aJS (X:=X) (w0:=w0) (M0:=M0) (I0:=I0) (p:=p1) (q:=p2) (m:=y.natAbs) (n:=z.natAbs) (cp:=c1) (cq:=c2) (by omega) (by omega) (by omega) h1
 have hV1:=fun M0 I0=>lG (X:=X) (w0:=w0) (M0:=M0) (I0:=I0) (q:=q) (c:=cq) hy (by omega) hc
 have hV2:=fun M0 I0=>lG (X:=X) (w0:=w0) (M0:=M0) (I0:=I0) (q:=q') (c:=cq') hz (by omega) hc'
 have hMd:=fun (q:Option Addr) (c2:Nat) (h1:sF q (y.natAbs / z.natAbs) c2) M0 I0=>tQ (X:=X) (w0:=w0) (M0:=M0) (I0:=I0) (p:=¬(y < 0↔z < 0)) (n:=y.natAbs / z.natAbs) (q:=q) (l:=gr (y.natAbs / z.natAbs)) (c:=c2) (k:=k) (by omega) h1.1 h1.2 (bR _) (cO _) hqb
 have hMu:=fun u v M0 I0=>sK (X:=X) (w0:=w0) (M0:=M0) (I0:=I0) (u:=u) (v:=v) (y:=y.fdiv z) (z:=z) (k0:=k) (m0:=m) (by omega)
 have hSb:=fun u v M0 I0=>aIZ (X:=X) (w0:=w0) (M0:=M0) (I0:=I0) (u:=u) (v:=v) (y:=y) (z:=y.fdiv z*z) (k:=k) (m:=k+m) (c:=k+(k+m)+1) (by omega) (by omega) (by omega) (aJH _ _)
 have hSo:=fun u v M0 I0=>aIZ (X:=X) (w0:=w0) (M0:=M0) (I0:=I0) (u:=u) (v:=v) (y:=sg (¬(y < 0↔z < 0)) (y.natAbs / z.natAbs)) (z:=1) (k:=k) (m:=0) (c:=k+0+1) (by omega) (by omega) (by omega) (aJH _ _)
 rw [bCA] at hSb
 obtain ⟨s0,hs0⟩:∃s,s=sg (¬(y < 0↔z < 0)) (y.natAbs / z.natAbs):=⟨_,rfl⟩
 rw [←hs0] at hMd hSo hdv
 clear hs0
 unfold iv
 by_cases hA:¬(y < 0↔z < 0)∧¬(gr (y.natAbs % z.natAbs)).length=0
 ·obtain ⟨hA1,hA2⟩:=hA
  have e1:=hdv.2 hA1 (fun h=>hA2 (hr0.2 h))
  rw [e1] at hSo
  clear hdv hr0 hqb
  obtain ⟨fd,hfd⟩:∃s,s=y.fdiv z:=⟨_,rfl⟩
  obtain ⟨fm,hfm⟩:∃s,s=y.fmod z:=⟨_,rfl⟩
  obtain ⟨Q,hQ⟩:∃s,s=y.natAbs / z.natAbs:=⟨_,rfl⟩
  obtain ⟨R,hR⟩:∃s,s=y.natAbs % z.natAbs:=⟨_,rfl⟩
  rw [←hfd] at hMu hSb hSo hfl ⊢
  rw [←hfm] at hSb hml ⊢
  rw [←hQ] at hO hMd hlq
  rw [←hR] at hO hA2
  clear hfd hfm hQ hR e1
  refine aN Tryz.func259 rfl Tryz.ntmps259 rfl ?_
  refine iH ?_
  refine gU rfl (fun b=>?_)
  refine gU rfl (fun b2=>?_)
  refine dS (fun b3=>?_)
  refine dS (fun b4=>?_)
  repeat' (first|refine aR ?_|refine aK rfl (fun h=>?_) (fun h=>?_)|refine aJ rfl rfl (fun h=>?_) (fun h=>?_)|fail)
  (repeat refine aG ?_);refine bA 2 [0,2,1,3,4,5] [1,2,0,0,0,0] mixed (by kernel_rfl) ?_
  repeat' (first|refine aR ?_|refine aK rfl (fun h=>?_) (fun h=>?_)|refine aJ rfl rfl (fun h=>?_) (fun h=>?_)|fail)
  (refine aQ rfl (hV1 _ _ aA) ?_;rintro _ _ _ ⟨rfl,q3,c3,rfl,hc3,rfl⟩;refine aL ?_)
  repeat' (first|refine aR ?_|refine aK rfl (fun h=>?_) (fun h=>?_)|refine aJ rfl rfl (fun h=>?_) (fun h=>?_)|fail)
  (refine aQ rfl (hV2 _ _ aA) ?_;rintro _ _ _ ⟨rfl,q4,c4,rfl,hc4,rfl⟩;refine aL ?_)
  repeat' (first|refine aR ?_|refine aK rfl (fun h=>?_) (fun h=>?_)|refine aJ rfl rfl (fun h=>?_) (fun h=>?_)|fail)
  (refine aQ rfl (hO q3 q4 c3 c4 hc3 _ _ aA aA) ?_;rintro _ _ _ ⟨rfl,p1,c1,p2,c2,ho1,ho2,rfl,rfl⟩;refine aL ?_)
  repeat' (first|refine aR ?_|refine aK rfl (fun h=>?_) (fun h=>?_)|refine aJ rfl rfl (fun h=>?_) (fun h=>?_)|fail)
  (refine aQ rfl (hMd p1 c1 ho1 _ _ aA) ?_;rintro _ _ _ ⟨rfl,rfl⟩;refine aL ?_;refine aW (List.Mem.head _) (fun q5 c5 e__ hc5 hz5=>?_);subst e__)
  unfold iv
  repeat' (first|refine aR ?_|refine aK rfl (fun h=>?_) (fun h=>?_)|refine aJ rfl rfl (fun h=>?_) (fun h=>?_)|fail)
  refine dS (fun b5=>?_)
  repeat' (first|refine aR ?_|refine aK rfl (fun h=>?_) (fun h=>?_)|refine aJ rfl rfl (fun h=>?_) (fun h=>?_)|fail)
  (repeat refine aG ?_);refine bA 2 [0,1,2,3] [1,0,0,0] mixed (by kernel_rfl) ?_
  repeat' (first|refine aR ?_|refine aK rfl (fun h=>?_) (fun h=>?_)|refine aJ rfl rfl (fun h=>?_) (fun h=>?_)|fail)
  (refine aQ rfl (aVV (x:=1) (by decide)) ?_;rintro _ _ _ ⟨rfl,rfl⟩;refine aL ?_;refine aW (List.Mem.head _) (fun q6 c6 e__ hc6 hz6=>?_);subst e__)
  unfold iv
  refine nP (k2:=0) (z:=1) (List.Mem.tail _ (List.Mem.head _)) (by decide) ?_
  (refine aQ rfl (hSo _ _ _ _ aA aA) ?_;rintro _ _ _ ⟨rfl,rfl⟩;refine aL ?_;refine aW (List.Mem.head _) (fun q7 c7 e__ hc7 hz7=>?_);subst e__)
  unfold iv
  refine nP (k2:=k) (z:=fd) (List.Mem.tail _ (List.Mem.head _)) hfl ?_
  repeat' (first|refine aR ?_|refine aK rfl (fun h=>?_) (fun h=>?_)|refine aJ rfl rfl (fun h=>?_) (fun h=>?_)|fail)
  (repeat refine aG ?_);refine qQ (.blk b5 [.bool (B (fd < 0)), .slice q7 (gr fd.natAbs).length c7] 42:: .blk b2 [.bool (B (z < 0)), .slice q4 (gr z.natAbs).length c4] 42:: .blk b [.bool (B (y < 0)), .slice q3 (gr y.natAbs).length c3] 42::M0) (gW (.agg #[.bool (B (fd < 0)), .slice q7 (gr fd.natAbs).length c7]) fd k::I0) [0,1,2,3,4,5,6,7,8] [2,2,2,2,0,0,0,0,0] mixed ?_
  repeat' (first|refine aR ?_|refine aK rfl (fun h=>?_) (fun h=>?_)|refine aJ rfl rfl (fun h=>?_) (fun h=>?_)|fail)
  refine xQ (q:=q3) (c:=c3) (z:=y) (k:=k) aA hc3 hy ?_
  refine xQ (q:=q4) (c:=c4) (z:=z) (k:=m) aA hc4 hz ?_
  unfold iv
  (refine aQ rfl (hMu _ _ _ _ aA aA) ?_;rintro _ _ _ ⟨rfl,rfl⟩;refine aL ?_;refine aW (List.Mem.head _) (fun q8 c8 e__ hc8 hz8=>?_);subst e__)
  unfold iv
  (refine aQ rfl (hSb _ _ _ _ aA aA) ?_;rintro _ _ _ ⟨rfl,rfl⟩;refine aL ?_;refine aW (List.Mem.head _) (fun q9 c9 e__ hc9 hz9=>?_);subst e__)
  unfold iv
  refine nP (k2:=m) (z:=fm) (List.Mem.tail _ (List.Mem.head _)) hml ?_
  repeat' (first|refine aR ?_|refine aK rfl (fun h=>?_) (fun h=>?_)|refine aJ rfl rfl (fun h=>?_) (fun h=>?_)|fail)
  refine fF (rs:=[.cell 4 42, .cell 5 42, .tmp 6]) (.inl rfl) rfl (.cellN inferInstance rfl aA rfl (.cellN inferInstance rfl aA rfl (.tmp rfl .nil))) rfl M0 (gW (.agg #[.bool (B (fm < 0)), .slice q9 (gr fm.natAbs).length c9]) fm m::gW (.agg #[.bool (B (fd < 0)), .slice q7 (gr fd.natAbs).length c7]) fd k::I0) aF aD ⟨rfl,_,_,rfl,rfl⟩
 ·have hA':(y < 0↔z < 0)∨y.natAbs % z.natAbs=0:=by
   rcases Classical.em (y < 0↔z < 0) with h|h
   ·exact .inl h
   ·exact .inr (hr0.1 (Classical.byContradiction fun h'=>hA ⟨h,h'⟩))
  have e1:=hdv.1 hA'
  subst e1
  clear hdv hr0 hqb hSo
  obtain ⟨fd,hfd⟩:∃s,s=y.fdiv z:=⟨_,rfl⟩
  obtain ⟨fm,hfm⟩:∃s,s=y.fmod z:=⟨_,rfl⟩
  obtain ⟨Q,hQ⟩:∃s,s=y.natAbs / z.natAbs:=⟨_,rfl⟩
  obtain ⟨R,hR⟩:∃s,s=y.natAbs % z.natAbs:=⟨_,rfl⟩
  rw [←hfd] at hMu hSb hMd hfl ⊢
  rw [←hfm] at hSb hml ⊢
  rw [←hQ] at hO hMd hlq
  rw [←hR] at hO hA hA'
  clear hfd hfm hQ hR hA'
  refine aN Tryz.func259 rfl Tryz.ntmps259 rfl ?_
  refine iH ?_
  refine gU rfl (fun b=>?_)
  refine gU rfl (fun b2=>?_)
  refine dS (fun b3=>?_)
  refine dS (fun b4=>?_)
  repeat' (first|refine aR ?_|refine aK rfl (fun h=>?_) (fun h=>?_)|refine aJ rfl rfl (fun h=>?_) (fun h=>?_)|fail)
  (repeat refine aG ?_);refine bA 2 [0,2,1,3,4,5] [1,2,0,0,0,0] mixed (by kernel_rfl) ?_
  repeat' (first|refine aR ?_|refine aK rfl (fun h=>?_) (fun h=>?_)|refine aJ rfl rfl (fun h=>?_) (fun h=>?_)|fail)
  (refine aQ rfl (hV1 _ _ aA) ?_;rintro _ _ _ ⟨rfl,q3,c3,rfl,hc3,rfl⟩;refine aL ?_)
  repeat' (first|refine aR ?_|refine aK rfl (fun h=>?_) (fun h=>?_)|refine aJ rfl rfl (fun h=>?_) (fun h=>?_)|fail)
  (refine aQ rfl (hV2 _ _ aA) ?_;rintro _ _ _ ⟨rfl,q4,c4,rfl,hc4,rfl⟩;refine aL ?_)
  repeat' (first|refine aR ?_|refine aK rfl (fun h=>?_) (fun h=>?_)|refine aJ rfl rfl (fun h=>?_) (fun h=>?_)|fail)
  (refine aQ rfl (hO q3 q4 c3 c4 hc3 _ _ aA aA) ?_;rintro _ _ _ ⟨rfl,p1,c1,p2,c2,ho1,ho2,rfl,rfl⟩;refine aL ?_)
  repeat' (first|refine aR ?_|refine aK rfl (fun h=>?_) (fun h=>?_)|refine aJ rfl rfl (fun h=>?_) (fun h=>?_)|fail)
  (refine aQ rfl (hMd p1 c1 ho1 _ _ aA) ?_;rintro _ _ _ ⟨rfl,rfl⟩;refine aL ?_;refine aW (List.Mem.head _) (fun q5 c5 e__ hc5 hz5=>?_);subst e__)
  unfold iv
  repeat' (first|refine aR ?_|refine aK rfl (fun h=>?_) (fun h=>?_)|refine aJ rfl rfl (fun h=>?_) (fun h=>?_)|fail)
  refine dS (fun b5=>?_)
  repeat' (first|refine aR ?_|refine aK rfl (fun h=>?_) (fun h=>?_)|refine aJ rfl rfl (fun h=>?_) (fun h=>?_)|fail)
  all_goals
   ((repeat refine aG ?_);refine qQ (.blk b5 [.bool (B (fd < 0)), .slice q5 (gr fd.natAbs).length c5] 42:: .blk b2 [.bool (B (z < 0)), .slice q4 (gr z.natAbs).length c4] 42:: .blk b [.bool (B (y < 0)), .slice q3 (gr y.natAbs).length c3] 42::M0) (gW (.agg #[.bool (B (fd < 0)), .slice q5 (gr fd.natAbs).length c5]) fd k::I0) [0,1,2,3,4,5,6,7,8] [2,2,2,2,0,0,0,0,0] mixed ?_)
   repeat' (first|refine aR ?_|refine aK rfl (fun h=>?_) (fun h=>?_)|refine aJ rfl rfl (fun h=>?_) (fun h=>?_)|fail)
   refine xQ (q:=q3) (c:=c3) (z:=y) (k:=k) aA hc3 hy ?_
   refine xQ (q:=q4) (c:=c4) (z:=z) (k:=m) aA hc4 hz ?_
   unfold iv
   (refine aQ rfl (hMu _ _ _ _ aA aA) ?_;rintro _ _ _ ⟨rfl,rfl⟩;refine aL ?_;refine aW (List.Mem.head _) (fun q8 c8 e__ hc8 hz8=>?_);subst e__)
   unfold iv
   (refine aQ rfl (hSb _ _ _ _ aA aA) ?_;rintro _ _ _ ⟨rfl,rfl⟩;refine aL ?_;refine aW (List.Mem.head _) (fun q9 c9 e__ hc9 hz9=>?_);subst e__)
   unfold iv
   refine nP (k2:=m) (z:=fm) (List.Mem.tail _ (List.Mem.head _)) hml ?_
   repeat' (first|refine aR ?_|refine aK rfl (fun h=>?_) (fun h=>?_)|refine aJ rfl rfl (fun h=>?_) (fun h=>?_)|fail)
   refine fF (rs:=[.cell 4 42, .cell 5 42, .tmp 6]) (.inl rfl) rfl (.cellN inferInstance rfl aA rfl (.cellN inferInstance rfl aA rfl (.tmp rfl .nil))) rfl M0 (gW (.agg #[.bool (B (fm < 0)), .slice q9 (gr fm.natAbs).length c9]) fm m::gW (.agg #[.bool (B (fd < 0)), .slice q5 (gr fd.natAbs).length c5]) fd k::I0) aF aD ⟨rfl,_,_,rfl,rfl⟩
end
end Go.Proofs.YtmmmfphealhapaaGreat
