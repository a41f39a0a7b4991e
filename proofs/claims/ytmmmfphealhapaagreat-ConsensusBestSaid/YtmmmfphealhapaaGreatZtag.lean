/- integer: long division, plain integer: long division integer: quotient and remainder of ma -/
import Derived.Test.YtmmmfphealhapaaGreatZtae
import Derived.Test.YtmmmfphealhapaaGreatZtaf
import Derived.Test.YtmmmfphealhapaaGreatZtad
set_option linter.unusedSimpArgs false
set_option linter.unusedVariables false
set_option maxRecDepth 100000
set_option maxHeartbeats 4000000
namespace Go.Proofs.YtmmmfphealhapaaGreat
open Go Go.Fx
theorem wU {f:Nat} (h0:0 < f) (h:f < 1000000000):gr f=[(f:Int)]:=by
 rw [xH (by omega),Nat.mod_eq_of_lt h,Nat.div_eq_of_lt h,gQ]
theorem aLC {bt:Nat} (h:1≤bt∧bt < 1000000000):∃f:Nat,0 < f∧f < 1000000000∧(1000000000:Int).tdiv ((bt:Int)+1)=(f:Int):=
 ⟨1000000000 / (bt+1),Nat.div_pos (by omega) (by omega),Nat.lt_of_le_of_lt (Nat.div_le_div_left (show 2≤bt+1 by omega) (by decide)) (by decide),by
  rw [Int.tdiv_eq_ediv_of_nonneg (by decide),Int.natCast_ediv]
  rfl⟩
theorem vC {m f:Nat} (h0:0 < f) (h:f < 1000000000):(gr m).length≤(gr (m*f)).length∧(gr (m*f)).length≤(gr m).length+1:=by
 refine ⟨gY (Nat.le_mul_of_pos_right _ h0),rT ?_⟩
 have h1:=jW (bT m)
 rw [cZ] at h1
 have h2:m < 1000000000 ^ (gr m).length:=Int.ofNat_lt.1 (by rw [Int.natCast_pow];exact h1)
 rw [Nat.pow_succ]
 exact Nat.lt_of_le_of_lt (Nat.mul_le_mul_left m (Nat.le_of_lt h)) (Nat.mul_lt_mul_of_pos_right h2 (by decide))
theorem _root_.Go.Fx.Mem.lendBT {X:List Nat} {w0 w:World} {M:List Ent} {I I2:List aL} {b:Nat} {cs tl:List Value} {e:TypeId} (hm: .blk b (cs++tl) e∈M) (hw:Mem X w0 M I w) (h:Mem [] w [] I2 w):Mem [] w [] (aI (some ⟨b,0,none⟩) cs::I2) w:=
 h.add (φ:=aI (some ⟨b,0,none⟩) cs) ⟨Blk.sl (X:=muts []) (hw.blk hm) (by simp [muts]) 0 (fun j v hj=>by rw [Nat.zero_add,List.getElem?_append_left (List.getElem?_eq_some_iff.1 hj).1];exact hj)⟩
theorem aTU {u v:List Int} (hv:Can v) (hn:2≤v.length) (hu:Dig u) (hl:v.length≤u.length):val ((u++[0]).drop (u.length+1 - v.length)) < val v:=by
 rw [List.drop_append_of_le_length (by omega),val_append]
 have h1:=jW (hu.drop (u.length+1 - v.length))
 have h2:=aBN hv (by omega)
 have e:(u.drop (u.length+1 - v.length)).length=v.length - 1:=by simp;omega
 rw [e] at h1
 simp only [val]
 omega
theorem aVP {u v:List Int} {j:Nat} (dU:Dig u) (hv:Can v) (hn:2≤v.length) (hlt:val (u.drop (j+1)) < val v) (hj:j < u.length):
  Knu (val (u.drop j)) (val v) (1000000000 ^ (v.length - 2)) (gt u ((j:Int)+(v.length:Int))) (gt u ((j:Int)+(v.length:Int) - 1)) (gt u ((j:Int)+(v.length:Int) - 2)) (gt v ((v.length:Int) - 1)) (gt v ((v.length:Int) - 2)):=by
 have h1:val (u.drop j) < 1000000000*val v:=by
  rw [uX u j hj]
  have:=dU.getD j
  omega
 have htop:1≤v.getD (v.length - 1) 0:=by
  have h:=hv.2
  have hd:=hv.1.getD (v.length - 1)
  unfold Top at h
  rw [aDM (by omega),show (v.length:Int) - 1=((v.length - 1:Nat):Int) by omega,yF] at h
  omega
 have:=bFZ (u:=u.drop j) (v:=v) (n:=v.length) (dU.drop j) hv.1 hn rfl htop h1
 rw [jG,jG,jG] at this
 rw [show (j:Int)+(v.length:Int)=((j+v.length:Nat):Int) by omega,show ((j+v.length:Nat):Int) - 1=((j+(v.length - 1):Nat):Int) by omega,show ((j+v.length:Nat):Int) - 2=((j+(v.length - 2):Nat):Int) by omega,
  show (v.length:Int) - 1=((v.length - 1:Nat):Int) by omega,show (v.length:Int) - 2=((v.length - 2:Nat):Int) by omega,yF,yF,yF,yF,yF]
 exact this
theorem knu_g {T V P t2 t1 t0 v1 v0 g r:Int} (h:Knu T V P t2 t1 t0 v1 v0) (hg:g*v1+r=t2*1000000000+t1) (hr:0≤r) (hg0:0≤g):g < 2000000000:=by
 have h2:=h.T2
 have h1:=h.e1
 rcases Int.lt_or_le g 2000000000 with h3|h3
 ·exact h3
 ·have:2000000000*v1≤g*v1:=Int.mul_le_mul_of_nonneg_right h3 (by omega)
  omega
theorem bEE {T V P t2 t1 t0 v1 v0 g r:Int} (h:Knu T V P t2 t1 t0 v1 v0) (hg:g*v1+r=t2*1000000000+t1) (hr:1000000000≤r):g < 1000000000:=by
 have h2:=h.T2
 have h1:=h.e1
 rcases Int.lt_or_le g 1000000000 with h3|h3
 ·exact h3
 ·have:1000000000*v1≤g*v1:=Int.mul_le_mul_of_nonneg_right h3 (by omega)
  omega
theorem aYF {u o v:List Int} {j:Nat} {g b c:Int} (dU:Dig u) (dO:Dig o) (hv:Can v) (hN:2≤v.length) (hj:j+v.length < u.length) (hol:o.length=u.length) (hT1:val (u.drop (j+1)) < val v) (h:val ((o.drop j).take v.length)+g*val v=val ((u.drop j).take v.length)+1000000000 ^ v.length*(b+c)) (hd:o.drop (j+v.length)=u.drop (j+v.length)) (hgq:val (u.drop j) < (g+1)*val v) (hgd:g*val v≤val (u.drop j)+val v):
  (gt o ((j:Int)+(v.length:Int)) - b - c=0∨(gt o ((j:Int)+(v.length:Int)) - b - c= -1∧g≠0))∧(val (u.drop j) - g*val v=val ((o.drop j).take v.length)+1000000000 ^ v.length*(gt o ((j:Int)+(v.length:Int)) - b - c))∧(∀y,val ((o.set (j+v.length) y).drop j)=val ((o.drop j).take v.length)+1000000000 ^ v.length*y):=by
 have hvl:=jW hv.1
 have hv1:1≤val v:=by
  have:=aBN hv (by omega)
  have:=jD (v.length - 1)
  omega
 rw [aBJ]
 have hA:=jD v.length
 have e0:=kZ (u.drop j) v.length (by simp;omega)
 have e1:=uX u (j+v.length) hj
 have e2:=kZ (u.drop (j+1)) v.length (by simp;omega)
 have e3:=kZ (o.drop j) v.length (by simp;omega)
 rw [List.drop_drop] at e0 e2 e3
 rw [show j+1+v.length=j+v.length+1 by omega] at e2
 have n1:=bS ((dU.drop (j+1)).take v.length)
 have n2:=bS (dU.drop (j+v.length+1))
 have n3:=bS ((dO.drop j).take v.length)
 have n4:=iP (dO.drop j) v.length
 have n5:=bS (dU.drop j)
 have hH:val (u.drop (j+v.length+1))=0:=by
  have:val (u.drop (j+v.length+1)) < 1:=nG hA (by
   rw [Int.mul_comm,Int.one_mul]
   omega)
  omega
 have hget:o.getD (j+v.length) 0=u.getD (j+v.length) 0:=by
  have:=congrArg (fun l=>l.getD 0 0) hd
  simpa only [jG,Nat.add_zero] using this
 rw [hget]
 rw [hd] at e3
 rw [hH] at e1
 have hset:∀y,(o.set (j+v.length) y).drop j=(o.drop j).set v.length y:=fun y=>by
  rw [List.drop_set,if_neg (by omega)]
  congr 1
  omega
 have hgo:(o.drop j).getD v.length 0=u.getD (j+v.length) 0:=by rw [jG,hget]
 have hvs:∀y,val ((o.set (j+v.length) y).drop j)=val (o.drop j)+1000000000 ^ v.length*(y - u.getD (j+v.length) 0):=fun y=>by rw [hset,aDF _ _ _ (by simp;omega),hgo]
 generalize (1000000000:Int) ^ v.length=A at*
 generalize hud:u.getD (j+v.length) 0=ud at*
 have hD:val (u.drop j) - g*val v=val ((o.drop j).take v.length)+A*(ud - b - c):=by
  have k1:A*(ud - b - c)=A*ud - A*(b+c):=by grind
  have k2:A*val (u.drop (j+v.length))=A*ud:=by rw [e1];grind
  omega
 have k3:(g+1)*val v=g*val v+val v:=by rw [Int.add_mul,Int.one_mul]
 refine ⟨?_,hD,fun y=>?_⟩
 ·have x1:ud - b - c < 1:=nG hA (by rw [Int.mul_comm,Int.one_mul];omega)
  have x2: -2 < ud - b - c:=nG hA (by rw [Int.mul_comm (ud - b - c)];omega)
  by_cases hx:ud - b - c=0
  ·exact .inl hx
  ·refine .inr ⟨by omega,?_⟩
   rintro rfl
   have hm1:ud - b - c= -1:=by omega
   rw [hm1] at hD
   simp at hD
   omega
 ·rw [hvs]
  have k2:A*val (u.drop (j+v.length))=A*ud:=by rw [e1];grind
  have k4:A*(y - ud)=A*y - A*ud:=Int.mul_sub _ _ _
  omega
theorem aXI {n:Nat} (hn:1≤(gr n).length):∃bt:Nat,gt (gr n) (((gr n).length:Int) - 1)=(bt:Int)∧1≤bt∧bt < 1000000000:=by
 have hbt:=(bT n).gt (((gr n).length:Int) - 1)
 have htop:=aFK n
 unfold Top at htop
 rw [aDM (by omega)] at htop
 exact ⟨(gt (gr n) (((gr n).length:Int) - 1)).toNat,by omega,by omega,by omega⟩
theorem aGZ {o u v:List Int} {j i:Nat} {g b c b2 y:Int} (dO:Dig o) (hvl:val ((o.drop j).take i)+g*val (v.take i)=val ((u.drop j).take i)+1000000000 ^ i*(b+c)) (hij:j+i < o.length) (htk:o.take j=u.take j) (hdr:o.drop (j+i)=u.drop (j+i))
  (hy:y=gt o ((i:Int)+(j:Int)) - b - (g*gt v i+c) % 1000000000+1000000000*b2) (hyr:0≤y∧y < 1000000000):
  Dig (st o ((i:Int)+(j:Int)) y)∧(st o ((i:Int)+(j:Int)) y).take j=u.take j∧(st o ((i:Int)+(j:Int)) y).drop (j+(i+1))=u.drop (j+(i+1))∧val (((st o ((i:Int)+(j:Int)) y).drop j).take (i+1))+g*val (v.take (i+1))=val ((u.drop j).take (i+1))+1000000000 ^ (i+1)*(b2+(g*gt v i+c) / 1000000000):=by
 have hget:o.getD (j+i) 0=u.getD (j+i) 0:=by
  have:=congrArg (fun l=>l.getD 0 0) hdr
  simpa only [jG,Nat.add_zero] using this
 rw [aBJ,yF,Nat.add_comm i j,hget] at hy
 have hm:=aSE (o:=o) (U:=u) (v:=v) (d':=y) (b':=b2) hvl hij hdr rfl hy
 rw [iF,Nat.add_comm i j,yF]
 refine ⟨dO.set _ hyr,?_,hm.2,hm.1⟩
 rw [List.take_set_of_le (by omega)]
 exact htk
theorem aGO {u o qs v u0:List Int} {j:Nat} {g:Int} (hval:val u+1000000000 ^ (j+1)*(val v*val (qs.drop (j+1)))=val u0) (hj:j < u.length) (hjo:j < o.length) (hjq:j < qs.length) (htk:o.take j=u.take j) (hD:val (o.drop j)=val (u.drop j) - g*val v):
  val o+1000000000 ^ j*(val v*val ((st qs (j:Int) g).drop j))=val u0:=by
 have e1:=kZ o j (by omega)
 have e2:=kZ u j (by omega)
 rw [htk] at e1
 rw [sJ,drop_set _ _ _ hjq]
 simp only [val,Int.pow_succ] at hval ⊢
 rw [hD] at e1
 generalize (1000000000:Int) ^ j=A at*
 grind
theorem aLK {o2 o1 v u:List Int} {j i:Nat} {c2 c3 y:Int} (dO:Dig o2) (hv:val ((o2.drop j).take i)+1000000000 ^ i*c2=val ((o1.drop j).take i)+val (v.take i)) (hij:j+i < o2.length) (htk:o2.take j=u.take j) (hdr:o2.drop (j+i)=o1.drop (j+i))
  (hy:y=gt o2 ((i:Int)+(j:Int))+gt v i+c2 - 1000000000*c3) (hyr:0≤y∧y < 1000000000):
  Dig (st o2 ((i:Int)+(j:Int)) y)∧(st o2 ((i:Int)+(j:Int)) y).take j=u.take j∧(st o2 ((i:Int)+(j:Int)) y).drop (j+(i+1))=o1.drop (j+(i+1))∧val (((st o2 ((i:Int)+(j:Int)) y).drop j).take (i+1))+1000000000 ^ (i+1)*c3=val ((o1.drop j).take (i+1))+val (v.take (i+1)):=by
 have hget:o2.getD (j+i) 0=o1.getD (j+i) 0:=by
  have:=congrArg (fun l=>l.getD 0 0) hdr
  simpa only [jG,Nat.add_zero] using this
 rw [aBJ,yF,Nat.add_comm i j,hget] at hy
 rw [iF,Nat.add_comm i j]
 have e1:(o2.set (j+i) y).drop j=(o2.drop j).set i y:=by
  rw [List.drop_set,if_neg (by omega)]
  congr 1
  omega
 have hl:i < (o2.drop j).length:=by simp;omega
 refine ⟨dO.set _ hyr,by rw [List.take_set_of_le (by omega)];exact htk,?_,?_⟩
 ·have e:((o2.set (j+i) y).drop (j+(i+1)))=o2.drop (j+i+1):=by
   rw [←Nat.add_assoc,List.drop_set,if_pos (by omega)]
  rw [e,←Nat.add_assoc]
  have h1:o2.drop (j+i+1)=(o2.drop (j+i)).drop 1:=by rw [List.drop_drop]
  have h2:o1.drop (j+i+1)=(o1.drop (j+i)).drop 1:=by rw [List.drop_drop]
  rw [h1,h2,hdr]
 ·rw [e1,jB _ i y hl,val_append,bV (o1.drop j),bV v,jG]
  simp only [List.length_take,Nat.min_eq_left (Nat.le_of_lt hl),val,Int.pow_succ]
  generalize (1000000000:Int) ^ i=A at*
  generalize v.getD i 0=x at*
  generalize o1.getD (j+i) 0=z at*
  generalize val ((o2.drop j).take i)=z1 at*
  generalize val ((o1.drop j).take i)=z2 at*
  generalize val (v.take i)=z3 at*
  clear e1 hl hdr hij
  subst hy
  grind
theorem aTQ {o o1 o2 v:List Int} {j:Nat} {c2 T g:Int} (dO:Dig o) (dO2:Dig o2) (hv:Can v) (hj:j+v.length < o2.length) (hol:o.length=o2.length) (h1:o1=o.set (j+v.length) 999999999)
  (h:val ((o2.drop j).take v.length)+1000000000 ^ v.length*c2=val ((o1.drop j).take v.length)+val v) (hc:0≤c2∧c2≤1) (hdr:o2.drop (j+v.length)=o1.drop (j+v.length))
  (hD:T - g*val v=val ((o.drop j).take v.length)+1000000000 ^ v.length*(-1)) (hset:∀y,val ((o.set (j+v.length) y).drop j)=val ((o.drop j).take v.length)+1000000000 ^ v.length*y) (hhi:g*val v≤T+val v):
  c2=1∧gt o2 ((j:Int)+(v.length:Int))=999999999∧val ((o2.set (j+v.length) 0).drop j)=T - (g - 1)*val v∧T - (g - 1)*val v < val v∧0≤T - (g - 1)*val v:=by
 have hA:=jD v.length
 have n4:=iP (dO2.drop j) v.length
 have n3:=bS ((dO2.drop j).take v.length)
 have n5:=iP (dO.drop j) v.length
 have kg:(g - 1)*val v=g*val v - val v:=by rw [Int.sub_mul,Int.one_mul]
 have e1:(o1.drop j).take v.length=(o.drop j).take v.length:=by
  rw [h1,List.drop_set,if_neg (by omega),show j+v.length - j=v.length by omega,List.take_set_of_le (Nat.le_refl _)]
 have hget:o2.getD (j+v.length) 0=o1.getD (j+v.length) 0:=by
  have:=congrArg (fun l=>l.getD 0 0) hdr
  simpa only [jG,Nat.add_zero] using this
 have hg1:o1.getD (j+v.length) 0=999999999:=by
  rw [h1]
  simp [List.getD,List.getElem?_set_self (show j+v.length < o.length by omega)]
 have e2:=kZ (o2.drop j) v.length (by simp;omega)
 have e3:=kZ (o1.drop j) v.length (by rw [h1];simp;omega)
 rw [List.drop_drop] at e2 e3
 have e4:=hset 999999999
 rw [←h1] at e4
 have hvs:val ((o2.set (j+v.length) 0).drop j)=val (o2.drop j)+1000000000 ^ v.length*(0 - 999999999):=by
  have hs:(o2.set (j+v.length) 0).drop j=(o2.drop j).set v.length 0:=by
   rw [List.drop_set,if_neg (by omega),show j+v.length - j=v.length by omega]
  have hgo:(o2.drop j).getD v.length 0=999999999:=by rw [jG,hget,hg1]
  rw [hs,aDF _ _ _ (by simp;omega),hgo]
 rw [e1] at h e3
 rw [hdr] at e2
 rw [aBJ,hget,hg1]
 generalize (1000000000:Int) ^ v.length=A at*
 have hc1:c2=1:=by
  rcases Int.lt_or_le c2 1 with hlt|hge
  ·have:c2=0:=by omega
   subst this
   omega
  ·omega
 subst hc1
 exact ⟨rfl,rfl,by omega,by omega,by omega⟩
theorem aSS {u v:List Int} (dU:Dig u) (hl:v.length≤u.length) (hlt:val u < val v) (hv:val v < 1000000000 ^ v.length):val (u.take v.length)=val u:=by
 have e:=kZ u v.length hl
 have n1:=bS (dU.take v.length)
 have n2:=bS (dU.drop v.length)
 have hA:=jD v.length
 have:val (u.drop v.length) < 1:=nG hA (by rw [Int.mul_comm,Int.one_mul];omega)
 have h0:val (u.drop v.length)=0:=by omega
 rw [h0] at e
 omega
theorem aZG {u qs:List Int} {m n f:Nat} (dU:Dig u) (dQ:Dig qs) (h:val u+((n*f:Nat):Int)*val qs=((m*f:Nat):Int)) (hlt:val u < ((n*f:Nat):Int)) (hf:0 < f) (hn:0 < n*f):
  val u=(((m % n)*f:Nat):Int)∧val qs=((m / n:Nat):Int)∧True:=by
 have n1:=bS dU
 have n2:=bS dQ
 obtain ⟨a,ha⟩:∃a:Nat,val u=(a:Int):=⟨(val u).toNat,by omega⟩
 obtain ⟨b,hb⟩:∃b:Nat,val qs=(b:Int):=⟨(val qs).toNat,by omega⟩
 rw [ha,hb] at h
 rw [ha] at hlt
 have h':a+n*f*b=m*f:=by exact_mod_cast h
 have hlt':a < n*f:=by exact_mod_cast hlt
 have hq:m*f / (n*f)=b:=by rw [←h',Nat.add_mul_div_left _ _ hn,Nat.div_eq_of_lt hlt',Nat.zero_add]
 have hr:m*f % (n*f)=a:=by rw [←h',Nat.add_mul_mod_self_left,Nat.mod_eq_of_lt hlt']
 rw [Nat.mul_div_mul_right _ _ hf] at hq
 rw [Nat.mul_mod_mul_right] at hr
 exact ⟨by rw [ha,hr],by rw [hb,hq],trivial⟩
theorem cut0 (b c:Nat):xD (some ⟨b,0,none⟩) c 0 1=some ⟨b,0,none⟩:=by
 unfold xD
 split <;>simp [Addr.add]
section
variable {X:List Nat} {w0:World} {M0:List Ent} {I0:List aL}
set_option pp.maxSteps 300000 in
set_option pp.deepTerms true in
theorem bCT {p q:Option Addr} {m n cp cq:Nat} (hm:(gr m).length≤50000000000) (hn:2≤(gr n).length) (hle:n≤m) (hp:aI p (recs eG (gr m))∈I0) (hq:aI q (recs eG (gr n))∈I0):
  CD Tryz.prog 202 [.slice p (gr m).length cp, .slice q (gr n).length cq] X w0 M0 I0 (fun v M I=>M0=M∧∃p1 c1 p2 c2,sO p1 (m / n) c1∧sO p2 (m % n) c2∧v= .tuple #[.slice p1 (gr (m / n)).length c1, .slice p2 (gr (m % n)).length c2]∧I=aI p1 (recs eG (gr (m / n)))::aI p2 (recs eG (gr (m % n)))::I0):=by
 have hnm:(gr n).length≤(gr m).length:=gY hle
 obtain ⟨bt,hgt,hbt⟩:=aXI (n:=n) (by omega)
 have da:=bT m
 have db:=bT n
 generalize ha:gr m=a at*
 generalize hb:gr n=b at*
 have hT1:=fun (M0:List Ent) (I0:List aL) (b1:Nat) (f:Nat) (hf:0 < f) (hf2:f < 1000000000) (h:aI p (recs eG a)∈I0) (h2:aI (some ⟨b1,0,none⟩) (recs eG [(f:Int)])∈I0)=>aGV (X:=X) (w0:=w0) (M0:=M0) (I0:=I0) (p:=p) (q:=some ⟨b1,0,none⟩) (m:=m) (n:=f) (cp:=cp) (cq:=1) (by rw [ha];omega) (by rw [wU hf hf2];simp) (by rw [ha];exact h) (by rw [wU hf hf2];exact h2)
 have hT2:=fun (M0:List Ent) (I0:List aL) (b1:Nat) (f:Nat) (hf:0 < f) (hf2:f < 1000000000) (h:aI q (recs eG b)∈I0) (h2:aI (some ⟨b1,0,none⟩) (recs eG [(f:Int)])∈I0)=>aGV (X:=X) (w0:=w0) (M0:=M0) (I0:=I0) (p:=q) (q:=some ⟨b1,0,none⟩) (m:=n) (n:=f) (cp:=cq) (cq:=1) (by rw [hb];omega) (by rw [wU hf hf2];simp) (by rw [hb];exact h) (by rw [wU hf hf2];exact h2)
 rw [ha] at hT1
 rw [hb] at hT2
 refine dY Tryz.func202 rfl Tryz.ntmps202 rfl ?_
 repeat refine jA ?_
 rw [hgt]
 repeat refine jA ?_
 obtain ⟨f,hf1,hf2,ef⟩:=aLC (bt:=bt) hbt
 rw [ef]
 clear ef
 replace hT1:=fun M0 I0 b1=>hT1 M0 I0 b1 f hf1 hf2
 replace hT2:=fun M0 I0 b1=>hT2 M0 I0 b1 f hf1 hf2
 rw [wU hf1 hf2] at hT1 hT2
 have hlu:=vC (m:=m) hf1 hf2
 have hlv:=vC (m:=n) hf1 hf2
 have hluv:(gr (n*f)).length≤(gr (m*f)).length:=gY (Nat.mul_le_mul_right _ hle)
 rw [ha] at hlu
 rw [hb] at hlv
 have du:=bT (m*f)
 have dv:=bT (n*f)
 have vu:=cZ (m*f)
 have vv:=cZ (n*f)
 have tv:=aFK (n*f)
 generalize hu0:gr (m*f)=u0 at*
 generalize hv0:gr (n*f)=v at*
 repeat refine jA ?_
 refine gK (cs:=recs eG [(f:Int)]) ([.int .u32 (f:Int)]) rfl (fun b1=>?_)
 refine aH yZ ?_
 (refine bD rfl (hT1 _ _ b1 bA bA) ?_;rintro _ _ _ ⟨bu,cu,rfl,hcu,rfl,rfl⟩;refine aN ?_)
 repeat refine jA ?_
 refine gK (cs:=recs eG [(f:Int)]) ([.int .u32 (f:Int)]) rfl (fun b2=>?_)
 refine aH yZ ?_
 (refine bD rfl (hT2 _ _ b2 bA bA) ?_;rintro _ _ _ ⟨bv,cv,rfl,hcv,rfl,rfl⟩;refine aN ?_)
 repeat refine jA ?_
 refine gK (cs:=recs eG [(0:Int)]) ([.int .u32 0]) rfl (fun b3=>?_)
 (refine iB (ys:=[(0:Int)]) 2 rfl rfl rfl ?_ (by decide) rfl (by omega) (by omega) rfl rfl ?_;(· first|exact Src.blk bA|exact Src.row bA|exact Src.imm bA (by first|assumption|exact .inl (Ok.mk _ _)));intro a2 c2;refine aN ?_)
 have hl0:(u0++[(0:Int)]).length=u0.length+1:=by simp
 repeat refine jA ?_
 (refine jO (u0.length+1 - v.length) rfl rfl (by omega) (by omega) (by omega) (by omega) (nI _ _) rfl rfl ?_;intro bq;refine ⟨okK,?_⟩)
 repeat refine jA ?_
 refine rJ (M':= .row a2 (u0++[(0:Int)]).length c2 (recs eG (u0++[(0:Int)])) 121 1:: .blk bq (recs eG (List.replicate (u0.length+1 - v.length) 0)) 121:: .row (some ⟨bv,0,none⟩) v.length cv (recs eG v) 121 1::M0) (I':=I0) bY bW ?_
 refine aHE (fun _ h _=>absurd h (by omega)) (fun bU tl e hc2=>?_)
 subst e
 refine aEO (M':= .blk bU (recs eG (u0++[(0:Int)])++tl) 121:: .blk bq (recs eG (List.replicate (u0.length+1 - v.length) 0)) 121::M0) (I':=aI (some ⟨bv,0,none⟩) (recs eG v)::I0) (fun w hw=>hw.freezeR yZ) ?_
 clear hT1 hT2 hp hq
 obtain ⟨L,hL⟩:∃L,(u0++[(0:Int)]).length=L:=⟨_,rfl⟩
 rw [hL] at hl0 hc2 ⊢
 have hin:=aTU (v:=v) ⟨dv,tv⟩ (by omega) du hluv
 refine bX [4,6,7,8,9] rfl (fun k G M I=>∃(j:Nat) (c:Int) (u qs:List Int),j≤u0.length+1 - v.length∧k=j∧c=(j:Int) - 1∧u.length=L∧qs.length=u0.length+1 - v.length∧Dig u∧Dig qs∧val u+1000000000 ^ j*(val v*val (qs.drop j))=val u0∧val (u.drop j) < val v∧G=[(10, .int .i64 c)]∧M= .blk bU (recs eG u++tl) 121:: .blk bq (recs eG qs) 121::M0∧I=aI (some ⟨bv,0,none⟩) (recs eG v)::I0) (u0.length+1 - v.length) _ _ _ dB bY bW (⟨u0.length+1 - v.length,_,_,_,Nat.le_refl _,rfl,by omega,hL,by simp,Dig.snoc du (by omega),Dig.zeros _,by rw [List.drop_of_length_le (by simp),val_append];simp [val],hin,rfl,rfl,rfl⟩) ?_
 rintro k G M I ⟨j,c,u,qs,hj,rfl,hcj,hul,hql,dU,dQ,hval,hlt,rfl,rfl,rfl⟩
 by_cases hj0:0≤c
 ·obtain ⟨j,rfl⟩:∃j,k=j+1:=⟨k - 1,by omega⟩
  obtain rfl:c=(j:Int):=by omega
  repeat refine jA ?_
  have hk:=aVP dU ⟨dv,tv⟩ (by omega) hlt (by omega)
  obtain ⟨t2,ht2⟩:∃t2,gt u ((j:Int)+(v.length:Int))=t2:=⟨_,rfl⟩
  obtain ⟨t1,ht1⟩:∃t1,gt u ((j:Int)+(v.length:Int) - 1)=t1:=⟨_,rfl⟩
  obtain ⟨t0,ht0⟩:∃t0,gt u ((j:Int)+(v.length:Int) - 2)=t0:=⟨_,rfl⟩
  obtain ⟨v1,hv1⟩:∃v1,gt v ((v.length:Int) - 1)=v1:=⟨_,rfl⟩
  obtain ⟨v2,hv2⟩:∃v2,gt v ((v.length:Int) - 2)=v2:=⟨_,rfl⟩
  rw [ht2,ht1,ht0,hv1,hv2] at hk
  have k0:=hk.d0
  have k1:=hk.d1
  have k2:=hk.d2
  have k3:=hk.e1
  have k4:=hk.e0
  (repeat refine aG ?_);refine eO [0,1,2,3,7,8,9,10,11,12,13,14,4,5,6,15,16] [0,1,1,0,1,1,1,1,1,1,1,1,0,0,0,0,0] mixed (by kernel_rfl) ?_
  repeat refine jA ?_
  rw [ht1]
  repeat refine jA ?_
  (refine bD rfl (CD.lend [aI (some ⟨bU,0,none⟩) (recs eG u)] (fun w hw=>Mem.lendBT (b:=bU) (tl:=tl) (e:=121) bA hw hw.imm0) (fun W=>(aRP (X:=[]) (w0:=W) (M0:=[]) (I0:=[aI (some ⟨bU,0,none⟩) (recs eG u)]) (l:=u) (n:=L) (c:=c2) (i:=(j:Int)+v.length) hul.symm (by omega) bA).mono (fun _ _ _ h=>h.2.2))) ?_;rintro _ _ _ ⟨rfl,rfl,rfl⟩;refine aN ?_)
  rw [ht2]
  repeat refine jA ?_
  (repeat refine aG ?_);refine eO [0,1,2,3,4,5,6,7,8,9,10,11,12,13,14,15,16,17] [0,0,0,0,0,0,0,0,0,0,0,0,0,0,0,0,0,0] mixed (by kernel_rfl) ?_
  repeat (first|(refine kK ?_;first|refine kD rfl rfl rfl ?_|(refine kL rfl rfl ?_;refine iV rfl rfl rfl okK ?_)|refine kP rfl rfl (by omega) ?_|refine kT rfl rfl (by omega) ?_)|(refine eP ?_;refine aD rfl (fun _=>fQ rfl) rfl rfl ?_)|refine aD rfl (fun _=>bP rfl) rfl rfl ?_|(refine kQ ?_;first|refine aD rfl (fun _=>dC rfl rfl w_) rfl rfl ?_|refine aD rfl (fun _=>dD rfl rfl w_) rfl rfl ?_|refine aD rfl (fun _=>gW rfl rfl w_) rfl rfl ?_|refine aD rfl (fun _=>gU rfl rfl (by omega) q_) rfl rfl ?_|refine aD rfl (fun _=>gV rfl rfl (by omega) rfl) rfl rfl ?_|refine aD rfl (fun _=>fO rfl rfl) rfl rfl ?_|refine aD rfl (fun _=>gP rfl rfl) rfl rfl ?_|refine aD rfl (fun _=>gT rfl rfl) rfl rfl ?_)|(refine eP ?_;first|refine aD rfl (fun _=>gH rfl w_) rfl rfl ?_)|(refine kU ?_;first|refine aD rfl (fun _=>fE rfl w_) rfl rfl ?_)|(refine kF ?_;first|refine aD rfl (fun _=>dE rfl) rfl rfl ?_|refine aD rfl (fun _=>fT rfl rfl) rfl rfl ?_|refine aD rfl (fun _=>fP rfl rfl) rfl rfl ?_|refine aD rfl (fun _=>fU rfl rfl rfl) rfl rfl ?_)|(refine kE ?_;first|refine jZ rfl (by decide) rfl rfl ?_|refine nA rfl (by decide) rfl rfl ?_)|(refine kI ?_;first|refine aD rfl (fun _=>fB rfl) rfl rfl ?_)|(refine kR ?_;first|refine mV rfl rfl iH rfl rfl ?_|refine mZ vH rfl rfl iH bA nD rfl rfl ?_|refine mY vH rfl rfl iH bA nD rfl rfl ?_|refine aD rfl (fun _=>dZ rfl rfl iH) rfl rfl ?_)|(refine bN ?_;first|refine mX vH rfl bA yG rfl rfl ?_|refine mW vH rfl bA yG rfl rfl ?_|refine gM vH rfl bA yG rfl rfl ?_|refine jY vH rfl bA yG rfl rfl ?_|refine rA vH rfl bA nN jV rfl rfl ?_|refine rO vH rfl bA nN jV rfl rfl ?_|refine rE vH rfl bA nN jV rfl rfl ?_|refine oV vH rfl bA nN jV rfl rfl ?_)|(refine kG ?_;first|refine aD rfl (fun _=>eF rfl rfl) rfl rfl ?_|refine aD rfl (fun _=>dI rfl) rfl rfl ?_)|(refine nO ?_;first|refine nH rfl rfl rfl tO stC rfl rfl ⟨okK,?_⟩|refine fJ rfl rfl jV aCU tO aCQ rfl rfl ⟨okK,?_⟩))
  rw [hv1]
  repeat (first|(refine kK ?_;first|refine kD rfl rfl rfl ?_|(refine kL rfl rfl ?_;refine iV rfl rfl rfl okK ?_)|refine kP rfl rfl (by omega) ?_|refine kT rfl rfl (by omega) ?_)|(refine eP ?_;refine aD rfl (fun _=>fQ rfl) rfl rfl ?_)|refine aD rfl (fun _=>bP rfl) rfl rfl ?_|(refine kQ ?_;first|refine aD rfl (fun _=>dC rfl rfl w_) rfl rfl ?_|refine aD rfl (fun _=>dD rfl rfl w_) rfl rfl ?_|refine aD rfl (fun _=>gW rfl rfl w_) rfl rfl ?_|refine aD rfl (fun _=>gU rfl rfl (by omega) q_) rfl rfl ?_|refine aD rfl (fun _=>gV rfl rfl (by omega) rfl) rfl rfl ?_|refine aD rfl (fun _=>fO rfl rfl) rfl rfl ?_|refine aD rfl (fun _=>gP rfl rfl) rfl rfl ?_|refine aD rfl (fun _=>gT rfl rfl) rfl rfl ?_)|(refine eP ?_;first|refine aD rfl (fun _=>gH rfl w_) rfl rfl ?_)|(refine kU ?_;first|refine aD rfl (fun _=>fE rfl w_) rfl rfl ?_)|(refine kF ?_;first|refine aD rfl (fun _=>dE rfl) rfl rfl ?_|refine aD rfl (fun _=>fT rfl rfl) rfl rfl ?_|refine aD rfl (fun _=>fP rfl rfl) rfl rfl ?_|refine aD rfl (fun _=>fU rfl rfl rfl) rfl rfl ?_)|(refine kE ?_;first|refine jZ rfl (by decide) rfl rfl ?_|refine nA rfl (by decide) rfl rfl ?_)|(refine kI ?_;first|refine aD rfl (fun _=>fB rfl) rfl rfl ?_)|(refine kR ?_;first|refine mV rfl rfl iH rfl rfl ?_|refine mZ vH rfl rfl iH bA nD rfl rfl ?_|refine mY vH rfl rfl iH bA nD rfl rfl ?_|refine aD rfl (fun _=>dZ rfl rfl iH) rfl rfl ?_)|(refine bN ?_;first|refine mX vH rfl bA yG rfl rfl ?_|refine mW vH rfl bA yG rfl rfl ?_|refine gM vH rfl bA yG rfl rfl ?_|refine jY vH rfl bA yG rfl rfl ?_|refine rA vH rfl bA nN jV rfl rfl ?_|refine rO vH rfl bA nN jV rfl rfl ?_|refine rE vH rfl bA nN jV rfl rfl ?_|refine oV vH rfl bA nN jV rfl rfl ?_)|(refine kG ?_;first|refine aD rfl (fun _=>eF rfl rfl) rfl rfl ?_|refine aD rfl (fun _=>dI rfl) rfl rfl ?_)|(refine nO ?_;first|refine nH rfl rfl rfl tO stC rfl rfl ⟨okK,?_⟩|refine fJ rfl rfl jV aCU tO aCQ rfl rfl ⟨okK,?_⟩))
  refine bE ?_
  refine jU ?_
  have hz0:0≤t2*1000000000+t1:=by omega
  rw [Int.tdiv_eq_ediv_of_nonneg hz0,Int.tmod_eq_emod_of_nonneg hz0]
  obtain ⟨g0,hg0⟩:∃g0,(t2*1000000000+t1) / v1=g0:=⟨_,rfl⟩
  obtain ⟨r0,hr0⟩:∃r0,(t2*1000000000+t1) % v1=r0:=⟨_,rfl⟩
  have hgr0:g0*v1+r0=t2*1000000000+t1:=by rw [←hg0,←hr0,Int.mul_comm];exact Int.mul_ediv_add_emod _ _
  have hr1:0≤r0∧r0 < v1:=by rw [←hr0];exact ⟨Int.emod_nonneg _ (by omega),Int.emod_lt_of_pos _ (by omega)⟩
  have hg1:0≤g0:=by rw [←hg0];exact Int.ediv_nonneg hz0 (by omega)
  rw [hg0,hr0]
  refine bDV (fun G M I=>∃g:Int,(0≤g∧g < 1000000000)∧GeQ (val (u.drop j)) (val v) g∧g*val v≤val (u.drop j)+val v∧G=[(4, .slice (some ⟨bq,0,none⟩) (u0.length+1 - v.length) (u0.length+1 - v.length)),(6, .int .u32 f),(7, .slice (some ⟨bU,0,none⟩) L c2),(8, .slice (some ⟨bv,0,none⟩) v.length cv),(9, .int .i64 v.length),(10, .int .i64 j),(12, .int .u64 g)]∧M= .blk bU (recs eG u++tl) 121:: .blk bq (recs eG qs) 121::M0∧I=aI (some ⟨bv,0,none⟩) (recs eG v)::I0) ?_ ?_
  ·refine jE ?_
   refine bX [4,6,7,8,9,10] rfl (fun k G M I=>∃(g r:Int),k=(1000000000 - r).toNat∧g*v1+r=t2*1000000000+t1∧GeQ (val (u.drop j)) (val v) g∧(0≤r∧r < 1000000000)∧0≤g∧G=[(12, .int .u64 g),(13, .int .u64 r)]∧M= .blk bU (recs eG u++tl) 121:: .blk bq (recs eG qs) 121::M0∧I=aI (some ⟨bv,0,none⟩) (recs eG v)::I0) ((1000000000 - r0).toNat) _ _ _ dB bY bW (⟨g0,r0,rfl,hgr0,hk.start hgr0 hr1.2,by omega,hg1,rfl,rfl,rfl⟩) ?_
   rintro k G M I ⟨g,r,rfl,hgr,hgq,hr,hg,rfl,rfl,rfl⟩
   have hg2:=knu_g hk hgr hr.1 hg
   have e1:(g - 1)*v1=g*v1 - v1:=by rw [Int.sub_mul,Int.one_mul]
   have hp0:0≤g*v2:=Int.mul_nonneg hg (by omega)
   have hp1:g*v2≤2000000000*999999999:=Int.mul_le_mul (by omega) (by omega) (by omega) (by omega)
   have hless:=hk.less hgr hgq
   have hB1:=bEE (g:=g - 1) (r:=r+v1) hk (by omega)
   have hdone1:=hk.done (g:=g - 1) (r:=r+v1) (by omega)
   have hdone:=hk.done hgr hg
   have hgne:r*1000000000+t0 < g*v2→1≤g:=fun h=>by
    rcases Int.lt_or_le 0 g with h1|h1
    ·omega
    ·have:g=0:=by omega
     subst this
     simp at h
     omega
   by_cases hgB:1000000000≤g
   ·(repeat refine aG ?_);refine eO [0,1,2,3,4,5,6,7,8,9,10,11,12,13,14,15,16,17,18,19,20,21,22,23] [0,0,0,0,0,0,0,0,0,0,0,0,0,0,0,0,0,0,0,0,0,0,0,0] mixed (by kernel_rfl) ?_
    repeat' (first|refine jA ?_|refine aJ rfl (fun h=>?_) (fun h=>?_)|refine aK rfl rfl (fun h=>?_) (fun h=>?_)|fail)
    ·refine vY _ _ _ dB bY bW ⟨g - 1,⟨by omega,hB1 (by omega)⟩,hless (.inl hgB),hdone1 (by omega) (hB1 (by omega)) (.inl (by omega)),rfl,rfl,rfl⟩
    ·rw [hv1]
     refine cO ((1000000000 - (r+v1)).toNat) _ _ _ (by first|omega|(simp only [List.length_append,List.length_cons,List.length_nil];omega)) dB bY bW (⟨g - 1,r+v1,rfl,by omega,hless (.inl hgB),by omega,by omega,rfl,rfl,rfl⟩)
   ·by_cases hc:r*1000000000+t0 < g*v2
    ·have hg1:=hgne hc
     (repeat refine aG ?_);refine eO [0,1,2,3,4,5,6,7,8,9,10,11,12,13,14,15,16,17,18,19,20,21,22,23] [0,0,0,0,0,0,0,0,0,0,0,0,0,0,0,0,0,0,0,0,0,0,0,0] mixed (by kernel_rfl) ?_
     repeat refine jA ?_
     rw [hv2]
     repeat' (first|refine jA ?_|refine aJ rfl (fun h=>?_) (fun h=>?_)|refine aK rfl rfl (fun h=>?_) (fun h=>?_)|fail)
     ·refine vY _ _ _ dB bY bW ⟨g - 1,⟨by omega,hB1 (by omega)⟩,hless (.inr hc),hdone1 (by omega) (hB1 (by omega)) (.inl (by omega)),rfl,rfl,rfl⟩
     ·rw [hv1]
      refine cO ((1000000000 - (r+v1)).toNat) _ _ _ (by first|omega|(simp only [List.length_append,List.length_cons,List.length_nil];omega)) dB bY bW (⟨g - 1,r+v1,rfl,by omega,hless (.inr hc),by omega,by omega,rfl,rfl,rfl⟩)
    ·(repeat refine aG ?_);refine eO [0,1,2,3,4,5,6,7,8,9,10,11,12,13,14,15,16,17,18,19,20,21,22,23] [0,0,0,0,0,0,0,0,0,0,0,0,0,0,0,0,0,0,0,0,0,0,0,0] mixed (by kernel_rfl) ?_
     repeat refine jA ?_
     rw [hv2]
     repeat refine jA ?_
     refine vY _ _ _ dB bY bW ⟨g,⟨by omega,by omega⟩,hgq,hdone (by omega) (.inr (by omega)),rfl,rfl,rfl⟩
  ·rintro G M I ⟨g,hg,hgq,hgd,rfl,rfl,rfl⟩
   repeat refine jA ?_
   refine bX [4,6,7,8,9,10,12,136] rfl (fun k G M I=>∃(i:Nat) (o:List Int) (b c:Int),k=v.length - i∧i≤v.length∧o.length=L∧Dig o∧(0≤b∧b≤1)∧(0≤c∧c < 1000000000)∧o.take j=u.take j∧o.drop (j+i)=u.drop (j+i)∧val ((o.drop j).take i)+g*val (v.take i)=val ((u.drop j).take i)+1000000000 ^ i*(b+c)∧G=[(14, .int .i64 b),(15, .int .u64 c),(137, .int .i64 i)]∧M= .blk bU (recs eG o++tl) 121:: .blk bq (recs eG qs) 121::M0∧I=aI (some ⟨bv,0,none⟩) (recs eG v)::I0) (v.length) _ _ _ dB bY bW (⟨0,u,0,0,rfl,by omega,hul,dU,by omega,by omega,rfl,rfl,by simp [val],rfl,rfl,rfl⟩) ?_
   rintro k G M I ⟨i,o,b',c,rfl,hi,hol,dO,hb',hc,htk,hdr,hvl,rfl,rfl,rfl⟩
   by_cases hin':i < v.length
   ·have d2:=dv.gt i
    have d3:=dO.gt ((i:Int)+(j:Int))
    have d4:=vB hg d2 (o:=0) (by omega) hc
    rw [Int.zero_add] at d4
    have e1:(g*gt v i+c).tmod 1000000000=(g*gt v i+c) % 1000000000:=Int.tmod_eq_emod_of_nonneg d4.2.1.1
    have e2:(g*gt v i+c).tdiv 1000000000=(g*gt v i+c) / 1000000000:=Int.tdiv_eq_ediv_of_nonneg d4.2.1.1
    have hij:j+i < o.length:=by omega
    repeat' (first|refine jA ?_|refine aJ rfl (fun h=>?_) (fun h=>?_)|refine aK rfl rfl (fun h=>?_) (fun h=>?_)|fail)
    ·have hs:=aGZ (y:=gt o ((i:Int)+(j:Int)) - b' - (g*gt v i+c) % 1000000000+1000000000) (b2:=1) dO hvl hij htk hdr (by omega) (by omega)
     rw [e1,e2]
     refine cO (v.length - (i+1)) _ _ _ (by first|omega|(simp only [List.length_append,List.length_cons,List.length_nil];omega)) dB bY bW (⟨i+1,_,1,_,rfl,by omega,by rw [dK];exact hol,hs.1,by omega,d4.2.2,hs.2.1,hs.2.2.1,hs.2.2.2,rfl,rfl,rfl⟩)
    ·have hs:=aGZ (y:=gt o ((i:Int)+(j:Int)) - b' - (g*gt v i+c) % 1000000000) (b2:=0) dO hvl hij htk hdr (by omega) (by omega)
     rw [e1,e2]
     refine cO (v.length - (i+1)) _ _ _ (by first|omega|(simp only [List.length_append,List.length_cons,List.length_nil];omega)) dB bY bW (⟨i+1,_,0,_,rfl,by omega,by rw [dK];exact hol,hs.1,by omega,d4.2.2,hs.2.1,hs.2.2.1,hs.2.2.2,rfl,rfl,rfl⟩)
   ·obtain rfl:i=v.length:=by omega
    have d3:=dO.gt ((j:Int)+(v.length:Int))
    rw [List.take_length] at hvl
    obtain ⟨hx,hD,hset⟩:=aYF dU dO ⟨dv,tv⟩ (by omega) (by omega) (by omega) hlt hvl hdr hgq hgd
    have hj1:j < u.length:=by omega
    have hj2:j < qs.length:=by omega
    have kg:(g+1)*val v=g*val v+val v:=by rw [Int.add_mul,Int.one_mul]
    have hgq':val (u.drop j) < (g+1)*val v:=hgq
    have htk2:∀y,(st o ((j:Int)+(v.length:Int)) y).take j=u.take j:=fun y=>by rw [iF,List.take_set_of_le (by omega)];exact htk
    have hnn:=bS ((dO.drop j).take v.length)
    repeat' (first|refine jA ?_|refine aJ rfl (fun h=>?_) (fun h=>?_)|refine aK rfl rfl (fun h=>?_) (fun h=>?_)|fail)
    ·have hx1:gt o ((j:Int)+(v.length:Int)) - b' - c= -1:=by omega
     rw [hx1] at hD ⊢
     have h9:(-1:Int)+1000000000=999999999:=rfl
     rw [h9]
     obtain ⟨o1,ho1⟩:∃o1,st o ((j:Int)+(v.length:Int)) 999999999=o1:=⟨_,rfl⟩
     rw [ho1]
     have ho2:o1=o.set (j+v.length) 999999999:=by rw [←ho1,iF]
     have hl1:o1.length=L:=by rw [ho2,List.length_set];exact hol
     have dO1:Dig o1:=by rw [ho2];exact dO.set _ (by omega)
     have htk1:o1.take j=u.take j:=by rw [←ho1];exact htk2 _
     refine bX [4,6,7,8,9,10,12,200] rfl (fun k G M I=>∃(i:Nat) (o2:List Int) (c3:Int),k=v.length - i∧i≤v.length∧o2.length=L∧Dig o2∧(0≤c3∧c3≤1)∧o2.take j=u.take j∧o2.drop (j+i)=o1.drop (j+i)∧val ((o2.drop j).take i)+1000000000 ^ i*c3=val ((o1.drop j).take i)+val (v.take i)∧G=[(20, .int .u32 c3),(201, .int .i64 i)]∧M= .blk bU (recs eG o2++tl) 121:: .blk bq (recs eG qs) 121::M0∧I=aI (some ⟨bv,0,none⟩) (recs eG v)::I0) (v.length) _ _ _ dB bY bW (⟨0,o1,0,rfl,by omega,hl1,dO1,by omega,htk1,rfl,by simp [val],rfl,rfl,rfl⟩) ?_
     rintro k G M I ⟨i,o2,c3,rfl,hi,hol2,dO2,hc3,htk3,hdr3,hvl3,rfl,rfl,rfl⟩
     by_cases hin3:i < v.length
     ·have f2:=dv.gt i
      have f3:=dO2.gt ((i:Int)+(j:Int))
      have hij3:j+i < o2.length:=by omega
      repeat refine jA ?_
      (repeat refine aG ?_);refine eO [0,1,2,3,4,5,6,7,8,9,10,11,12,13] [0,0,0,0,0,0,0,0,0,0,0,0,0,0] mixed (by kernel_rfl) ?_
      repeat' (first|refine jA ?_|refine aJ rfl (fun h=>?_) (fun h=>?_)|refine aK rfl rfl (fun h=>?_) (fun h=>?_)|fail)
      ·have hs:=aLK (y:=gt o2 ((i:Int)+(j:Int))+gt v i+c3 - 1000000000) (c3:=1) dO2 hvl3 hij3 htk3 hdr3 (by omega) (by omega)
       refine cO (v.length - (i+1)) _ _ _ (by first|omega|(simp only [List.length_append,List.length_cons,List.length_nil];omega)) dB bY bW (⟨i+1,_,1,rfl,by omega,by rw [dK];exact hol2,hs.1,by omega,hs.2.1,hs.2.2.1,hs.2.2.2,rfl,rfl,rfl⟩)
      ·have hs:=aLK (y:=gt o2 ((i:Int)+(j:Int))+gt v i+c3) (c3:=0) dO2 hvl3 hij3 htk3 hdr3 (by omega) (by omega)
       refine cO (v.length - (i+1)) _ _ _ (by first|omega|(simp only [List.length_append,List.length_cons,List.length_nil];omega)) dB bY bW (⟨i+1,_,0,rfl,by omega,by rw [dK];exact hol2,hs.1,by omega,hs.2.1,hs.2.2.1,hs.2.2.2,rfl,rfl,rfl⟩)
     ·obtain rfl:i=v.length:=by omega
      rw [List.take_length] at hvl3
      obtain ⟨rfl,hgo,hD3,hlt3,hnn3⟩:=aTQ dO dO2 ⟨dv,tv⟩ (by omega) (by omega) ho2 hvl3 hc3 hdr3 hD hset hgd
      have f3:=dO2.gt ((j:Int)+(v.length:Int))
      repeat refine jA ?_
      have h10:((999999999:Int)+1).tmod 1000000000=0:=by decide
      rw [hgo,h10]
      have hD2:val ((st o2 ((j:Int)+(v.length:Int)) 0).drop j)=val (u.drop j) - (g - 1)*val v:=by rw [iF];exact hD3
      refine cO (j) _ _ _ (by first|omega|(simp only [List.length_append,List.length_cons,List.length_nil];omega)) dB bY bW (⟨j,_,_,_,by omega,rfl,rfl,by rw [dK];exact hol2,by rw [dK];exact hql,by rw [iF];exact dO2.set _ (by omega),by rw [sJ];exact dQ.set _ (by omega),aGO hval hj1 (by rw [dK];omega) hj2 (by rw [iF,List.take_set_of_le (by omega)];exact htk3) hD2,by rw [hD2];exact hlt3,rfl,rfl,rfl⟩)
    ·have hx0:gt o ((j:Int)+(v.length:Int)) - b' - c=0:=by omega
     rw [hx0] at hD ⊢
     have hD2:val ((st o ((j:Int)+(v.length:Int)) 0).drop j)=val (u.drop j) - g*val v:=by rw [iF,hset,hD]
     refine cO (j) _ _ _ (by first|omega|(simp only [List.length_append,List.length_cons,List.length_nil];omega)) dB bY bW (⟨j,_,_,_,by omega,rfl,rfl,by rw [dK];exact hol,by rw [dK];exact hql,by rw [iF];exact dO.set _ (by omega),by rw [sJ];exact dQ.set _ hg,aGO hval hj1 (by rw [dK];omega) hj2 (htk2 0) hD2,by rw [hD2];omega,rfl,rfl,rfl⟩)
 ·obtain rfl:k=0:=by omega
  rw [List.drop_zero,Int.pow_zero,Int.one_mul,vu,vv] at hval
  rw [List.drop_zero] at hlt
  have hn0:0 < n*f:=by
   have:=bS dU
   rw [vv] at hlt
   omega
  obtain ⟨hru,hrq,hrl⟩:=aZG (m:=m) (n:=n) dU dQ hval (by rw [←vv];exact hlt) hf1 hn0
  have hcq:(gr (m / n)).length≤u0.length+1 - v.length:=by
   rw [←oG (n:=m / n) dQ hrq,←hql]
   exact aAZ
  replace hrl:(gr ((m % n)*f)).length≤100000000000:=by
   have h1:=(vC (m:=m % n) hf1 hf2).2
   have h2:(gr (m % n)).length≤(gr m).length:=gY (Nat.mod_le _ _)
   rw [ha] at h2
   omega
  have hut:val (u.take v.length)=val u:=aSS dU (by omega) hlt (jW dv)
  repeat refine jA ?_
  refine vQ (M':=M0) (I':=aI (some ⟨bU,0,none⟩) (recs eG (u.take v.length))::aI (some ⟨bq,0,none⟩) (recs eG qs)::I0) (fun w hw=>?_) ?_
  ·have h1:=(hw.freezeB (b:=bU) (M':= .blk bq (recs eG qs) 121::M0) yZ).freezeB (b:=bq) (M':=M0) yZ
   have h2:=(h1.sl (a:=some ⟨bU,0,none⟩) (cs:=recs eG u++tl) (by simp)).take v.length
   have e:(recs eG u++tl).take v.length=recs eG (u.take v.length):=by
    rw [List.take_append_of_le_length (by rw [lQ,List.length_map];omega),aFQ]
   rw [e] at h2
   exact (h1.add (φ:=aI (some ⟨bU,0,none⟩) (recs eG (u.take v.length))) ⟨h2⟩).inc bW
  refine aD rfl (fun _=>pR (e:=121) (sz:=1) 0 v.length v.length rfl (.inl ⟨rfl,rfl⟩) (.inr ⟨_,_,_,rfl,rfl,rfl⟩) (by omega) (by omega) (by omega)) rfl rfl ?_
  rw [cut0 bU c2,Nat.sub_zero]
  repeat refine jA ?_
  (refine kH rfl (tH (l:=u.take v.length) (n:=v.length) (c:=c2) (q:=some ⟨bU,0,none⟩) (by rw [List.length_take];omega) (by omega) (by rw [List.length_take];omega) bA) rfl rfl ?_;rintro _ _ _ ⟨rfl,rfl,rfl⟩;refine ⟨okK,?_⟩)
  rw [oG (n:=(m % n)*f) (dU.take v.length) (by rw [hut];exact hru)]
  repeat refine jA ?_
  (refine bD rfl (aKT (n:=(m % n)*f) (d:=f) hrl ⟨hf1,hf2⟩ bA) ?_;rintro _ _ _ ⟨rfl,p5,c5,hc5,ho5,rfl,rfl⟩;refine aN ?_)
  rw [Nat.mul_div_cancel _ hf1] at hc5
  rw [Nat.mul_div_cancel _ hf1]
  repeat refine jA ?_
  (refine bD rfl (tH (l:=qs) (n:=u0.length+1 - v.length) (c:=u0.length+1 - v.length) (q:=some ⟨bq,0,none⟩) (by omega) (by omega) (by omega) bA) ?_;rintro _ _ _ ⟨rfl,rfl,rfl⟩;refine aN ?_)
  rw [oG (n:=m / n) dQ hrq]
  repeat refine jA ?_
  refine gJ [4,5] (by first|exact .inl rfl|exact .inr rfl) rfl rfl rfl _ _ bY bW (⟨rfl,some ⟨bq,0,none⟩,_,p5,c5,⟨hcq, .inl (Ok.mk _ _)⟩,⟨hc5, .inl ho5⟩,rfl,rfl⟩)
end
theorem aAD {x y:Int} (h:x < y):gD x y= -1:=by unfold gD;rw [if_pos h]
theorem aAT {x y:Int} (h:¬x < y):0≤gD x y∧gD x y≤1:=by unfold gD;rw [if_neg h];split <;>omega
def QrP (a b:Nat) (M0:List Ent) (I0:List aL) (v:Value) (M:List Ent) (I:List aL):Prop:=
 M0=M∧∃p1 c1 p2 c2,sO p1 a c1∧sO p2 b c2∧v= .tuple #[.slice p1 (gr a).length c1, .slice p2 (gr b).length c2]∧I=aI p1 (recs eG (gr a))::aI p2 (recs eG (gr b))::I0
section
variable {X:List Nat} {w0:World} {M0:List Ent} {I0:List aL}
theorem aPU {p q:Option Addr} {m n cp cq:Nat} (hm:(gr m).length≤50000000000) (hn0:(gr n).length≤50000000000) (hn:0 < n) (hcp:sO p m cp) (hp:aI p (recs eG (gr m))∈I0) (hq:aI q (recs eG (gr n))∈I0):
  CD Tryz.prog 127 [.slice p (gr m).length cp, .slice q (gr n).length cq] X w0 M0 I0 (QrP (m / n) (m % n) M0 I0):=by
 have hC:=yS (X:=X) (w0:=w0) (M0:=M0) (I0:=I0) (p:=p) (q:=q) (m:=m) (n:=n) (cp:=cp) (cq:=cq) (by omega) (by omega) hp hq
 have hW1:=aDD (X:=X) (w0:=w0) (M0:=M0) (I0:=I0) (q:=p) (n:=m) (c:=cp) (by omega) hp
 have hW2:=aDD (X:=X) (w0:=w0) (M0:=M0) (I0:=I0) (q:=q) (n:=n) (c:=cq) (by omega) hq
 by_cases hlt:m < n
 ·have e1:m / n=0:=Nat.div_eq_of_lt hlt
  have e2:m % n=m:=Nat.mod_eq_of_lt hlt
  rw [e1,e2]
  unfold QrP
  simp only [gQ]
  rw [aAD (by omega)] at hC
  have hO:sO p m cp:=hcp
  refine dY Tryz.func127 rfl Tryz.ntmps127 rfl ?_
  repeat refine jA ?_
  (refine bD rfl (hC) ?_;rintro _ _ _ ⟨rfl,rfl,rfl⟩;refine aN ?_)
  repeat refine jA ?_
  refine aIW none ?_
  refine gJ [4,5] (by first|exact .inl rfl|exact .inr rfl) rfl rfl rfl _ _ bY bW (⟨rfl,none,0,p,cp,⟨by rw [gQ];simp, .inr ⟨by rw [gQ];rfl,rfl⟩⟩,hO,rfl,rfl⟩)
 ·have hcv:=aAT (x:=(m:Int)) (y:=(n:Int)) (by omega)
  generalize gD (m:Int) (n:Int)=cv at*
  have e1:((m:Int)).tdiv (n:Int)=((m / n:Nat):Int):=by rw [Int.tdiv_eq_ediv_of_nonneg (by omega),Int.natCast_ediv]
  have e2:((m:Int)).tmod (n:Int)=((m % n:Nat):Int):=by rw [Int.tmod_eq_emod_of_nonneg (by omega),Int.natCast_emod]
  have hmn:(gr n).length≤(gr m).length:=gY (by omega)
  by_cases hw:(gr m).length≤2
  ·have hw2:(gr n).length≤2:=by omega
   rw [if_pos hw,bK hw] at hW1
   rw [if_pos hw2,bK hw2] at hW2
   have hb:m < 1000000000000000000:=by
    have:=jW (bT m)
    rw [cZ] at this
    have h2:(1000000000:Int) ^ (gr m).length≤1000000000 ^ 2:=nT hw
    omega
   have hS1:=fun M0 I0=>uB (X:=X) (w0:=w0) (M0:=M0) (I0:=I0) (n:=m / n) (Nat.le_trans (Nat.div_le_self _ _) (by omega))
   have hS2:=fun M0 I0=>uB (X:=X) (w0:=w0) (M0:=M0) (I0:=I0) (n:=m % n) (Nat.le_trans (Nat.mod_le _ _) (by omega))
   refine dY Tryz.func127 rfl Tryz.ntmps127 rfl ?_
   repeat refine jA ?_
   (refine bD rfl (hC) ?_;rintro _ _ _ ⟨rfl,rfl,rfl⟩;refine aN ?_)
   repeat refine jA ?_
   (refine bD rfl (hW1) ?_;rintro _ _ _ ⟨rfl,rfl,rfl⟩;refine aN ?_)
   repeat refine jA ?_
   (refine bD rfl (hW2) ?_;rintro _ _ _ ⟨rfl,rfl,rfl⟩;refine aN ?_)
   repeat refine jA ?_
   (repeat refine aG ?_);refine eO [0,1,2,4,5,6,3,7,8,9] [2,2,1,2,2,1,0,0,0,0] mixed (by kernel_rfl) ?_
   repeat refine jA ?_
   rw [e1,e2]
   (refine bD rfl (hS1 _ _) ?_;rintro _ _ _ ⟨rfl,q1,c1,rfl,ho1,rfl⟩;refine aN ?_)
   repeat refine jA ?_
   (refine bD rfl (hS2 _ _) ?_;rintro _ _ _ ⟨rfl,q2,c2,rfl,ho2,rfl⟩;refine aN ?_)
   repeat refine jA ?_
   refine gJ [4,5] (by first|exact .inl rfl|exact .inr rfl) rfl rfl rfl _ _ bY bW (⟨rfl,q1,c1,q2,c2,ho1,ho2,rfl,rfl⟩)
  ·rw [if_neg hw,bH hw] at hW1
   have hn1:0 < (gr n).length:=List.length_pos_iff.2 (fun e=>by have:=oZ.1 e;omega)
   by_cases h1:(gr n).length=1
   ·have hnb:n < 1000000000:=by
     have:=jW (bT n)
     rw [cZ,h1] at this
     omega
    have hgo:=wU hn hnb
    have hS:=fun M0 I0 hq=>aKT (X:=X) (w0:=w0) (M0:=M0) (I0:=I0) (q:=p) (n:=m) (c:=cp) (d:=n) (by omega) ⟨hn,hnb⟩ hq
    have hS2:=fun M0 I0=>uB (X:=X) (w0:=w0) (M0:=M0) (I0:=I0) (n:=m % n) (Nat.le_trans (Nat.le_of_lt (Nat.mod_lt _ hn)) (by omega))
    have hgt:gt (gr n) 0=(n:Int):=by rw [hgo];rfl
    have hmr:m % n < n:=Nat.mod_lt _ hn
    refine dY Tryz.func127 rfl Tryz.ntmps127 rfl ?_
    repeat refine jA ?_
    (refine bD rfl (hC) ?_;rintro _ _ _ ⟨rfl,rfl,rfl⟩;refine aN ?_)
    repeat refine jA ?_
    (refine bD rfl (hW1) ?_;rintro _ _ _ ⟨rfl,rfl,rfl⟩;refine aN ?_)
    repeat refine jA ?_
    (refine bD rfl (hW2) ?_;rintro _ _ _ ⟨rfl,rfl,rfl⟩;refine aN ?_)
    repeat refine jA ?_
    rw [hgt]
    (refine bD rfl (hS _ _ bA) ?_;rintro _ _ _ ⟨rfl,p1,c1,hc1,ho1,rfl,rfl⟩;refine aN ?_)
    repeat refine jA ?_
    (refine bD rfl (hS2 _ _) ?_;rintro _ _ _ ⟨rfl,q2,c2,rfl,ho2,rfl⟩;refine aN ?_)
    repeat refine jA ?_
    refine gJ [4,5] (by first|exact .inl rfl|exact .inr rfl) rfl rfl rfl _ _ bY bW (⟨rfl,p1,c1,q2,c2,⟨hc1, .inl ho1⟩,ho2,rfl,rfl⟩)
   ·have hL:=fun M0 I0 hp hq=>bCT (X:=X) (w0:=w0) (M0:=M0) (I0:=I0) (p:=p) (q:=q) (m:=m) (n:=n) (cp:=cp) (cq:=cq) hm (by omega) (by omega) hp hq
    refine dY Tryz.func127 rfl Tryz.ntmps127 rfl ?_
    repeat refine jA ?_
    (refine bD rfl (hC) ?_;rintro _ _ _ ⟨rfl,rfl,rfl⟩;refine aN ?_)
    repeat refine jA ?_
    (refine bD rfl (hW1) ?_;rintro _ _ _ ⟨rfl,rfl,rfl⟩;refine aN ?_)
    repeat refine jA ?_
    (refine bD rfl (hW2) ?_;rintro _ _ _ ⟨rfl,rfl,rfl⟩;refine aN ?_)
    repeat refine jA ?_
    (refine bD rfl (hL _ _ bA bA) ?_;rintro _ _ _ ⟨rfl,p1,c1,p2,c2,ho1,ho2,rfl,rfl⟩;refine aN ?_)
    repeat refine jA ?_
    refine gJ [4,5] (by first|exact .inl rfl|exact .inr rfl) rfl rfl rfl _ _ bY bW (⟨rfl,p1,c1,p2,c2,ho1,ho2,rfl,rfl⟩)
end
section
variable {X:List Nat} {w0:World} {M0:List Ent} {I0:List aL}
theorem aQE {p q:Prop} [Decidable p] [Decidable q] {m n:Nat} (h:p↔q):sg p (m+n)=sg p m+sg q n:=by
 unfold sg
 by_cases hp:p
 ·rw [if_pos hp,if_pos hp,if_pos (h.1 hp)];omega
 ·rw [if_neg hp,if_neg hp,if_neg (fun hq=>hp (h.2 hq))];omega
theorem aDG {p q:Prop} [Decidable p] [Decidable q] {m n:Nat} (h:¬(p↔q)) (hle:n≤m):sg p (m - n)=sg p m+sg q n:=by
 unfold sg
 by_cases hp:p
 ·rw [if_pos hp,if_pos hp,if_neg (fun hq=>h ⟨fun _=>hq,fun _=>hp⟩)];omega
 ·rw [if_neg hp,if_neg hp,if_pos (by rcases Classical.em q with hq|hq;exact hq;exact absurd ⟨fun h=>absurd h hp,fun h=>absurd h hq⟩ h)];omega
theorem aVD {pn qn:Prop} [Decidable pn] [Decidable qn] {p q:Option Addr} {m n cp cq k:Nat} (hm:(gr m).length≤50000000000) (hn:(gr n).length≤50000000000) (hk:m+n≤2 ^ k) (hk2:k≤1000000000000) (hp:aI p (recs eG (gr m))∈I0) (hq:aI q (recs eG (gr n))∈I0):
  CD Tryz.prog 229 [.bool (B pn), .slice p (gr m).length cp, .bool (B qn), .slice q (gr n).length cq] X w0 M0 I0 (fun v M I=>M0=M∧I=iA v (sg pn m+sg qn n) k::I0):=by
 have hC:=fun M0 I0=>yS (X:=X) (w0:=w0) (M0:=M0) (I0:=I0) (p:=p) (q:=q) (m:=m) (n:=n) (cp:=cp) (cq:=cq) (by omega) (by omega)
 have hP:=fun M0 I0=>aPP (X:=X) (w0:=w0) (M0:=M0) (I0:=I0) (p:=p) (q:=q) (m:=m) (n:=n) (cp:=cp) (cq:=cq) (by omega) (by omega)
 have hM:=fun M0 I0 (hle:n≤m)=>aDP (X:=X) (w0:=w0) (M0:=M0) (I0:=I0) (p:=p) (q:=q) (m:=m) (n:=n) (cp:=cp) (cq:=cq) (by omega) hle
 have hM2:=fun M0 I0 (hle:m≤n)=>aDP (X:=X) (w0:=w0) (M0:=M0) (I0:=I0) (p:=q) (q:=p) (m:=n) (n:=m) (cp:=cq) (cq:=cp) (by omega) hle
 have hl1:=fV hk hk2
 refine dY Tryz.func229 rfl Tryz.ntmps229 rfl ?_
 refine gG ?_
 refine cK (fun b3=>?_)
 by_cases hpq:pn↔qn
 ·repeat refine jA ?_
  (refine bD rfl (hP _ _ bA bA) ?_;rintro _ _ _ ⟨rfl,q3,c3,rfl,hc3,rfl⟩;refine aN ?_)
  rw [←aQE hpq]
  (refine kH rfl (mQ (p:=pn) (k:=k) (by omega) hc3 hk bA) rfl rfl ?_;rintro _ _ _ ⟨rfl,rfl⟩;refine ⟨okK,?_⟩;refine aT (List.Mem.head _) (fun q2 c2 e__ hc2 hz2=>?_);subst e__)
  unfold iv
  repeat refine jA ?_
  refine aO (cs:=[.bool (B (sg pn (m+n) < 0)), .slice q2 (gr (sg pn (m+n)).natAbs).length c2]) (.inl rfl) rfl rfl bA rfl _ _ bY bW ⟨rfl,rfl⟩
 ·by_cases hge:n≤m
  ·have hcv:=aAT (x:=(m:Int)) (y:=(n:Int)) (by omega)
   have hk3:m - n≤2 ^ k:=by omega
   have hl3:=fV hk3 hk2
   repeat refine jA ?_
   refine dH rfl (hC _ _ bA bA) ?_
   repeat refine jA ?_
   (refine bD rfl (hM _ _ hge bA bA) ?_;rintro _ _ _ ⟨rfl,q3,c3,rfl,hc3,rfl⟩;refine aN ?_)
   rw [←aDG hpq hge]
   (refine kH rfl (mQ (p:=pn) (k:=k) (by omega) hc3 hk3 bA) rfl rfl ?_;rintro _ _ _ ⟨rfl,rfl⟩;refine ⟨okK,?_⟩;refine aT (List.Mem.head _) (fun q2 c2 e__ hc2 hz2=>?_);subst e__)
   unfold iv
   repeat refine jA ?_
   refine aO (cs:=[.bool (B (sg pn (m - n) < 0)), .slice q2 (gr (sg pn (m - n)).natAbs).length c2]) (.inl rfl) rfl rfl bA rfl _ _ bY bW ⟨rfl,rfl⟩
  ·have hcv:=aAD (x:=(m:Int)) (y:=(n:Int)) (by omega)
   have hk3:n - m≤2 ^ k:=by omega
   have hl3:=fV hk3 hk2
   have hs:sg pn m+sg qn n=sg qn (n - m):=by rw [Int.add_comm,←aDG (fun h=>hpq h.symm) (by omega)]
   repeat refine jA ?_
   refine dH rfl (hC _ _ bA bA) ?_
   repeat refine jA ?_
   (refine bD rfl (hM2 _ _ (by omega) bA bA) ?_;rintro _ _ _ ⟨rfl,q3,c3,rfl,hc3,rfl⟩;refine aN ?_)
   rw [hs]
   (refine kH rfl (mQ (p:=qn) (k:=k) (by omega) hc3 hk3 bA) rfl rfl ?_;rintro _ _ _ ⟨rfl,rfl⟩;refine ⟨okK,?_⟩;refine aT (List.Mem.head _) (fun q2 c2 e__ hc2 hz2=>?_);subst e__)
   unfold iv
   repeat refine jA ?_
   refine aO (cs:=[.bool (B (sg qn (n - m) < 0)), .slice q2 (gr (sg qn (n - m)).natAbs).length c2]) (.inl rfl) rfl rfl bA rfl _ _ bY bW ⟨rfl,rfl⟩
theorem aWF {u v:Value} {y z:Int} {k m c:Nat} (hk:k≤1000000000000) (hm:m≤1000000000000) (hc0:c≤1000000000000) (hs:2 ^ k+2 ^ m≤2 ^ c) (hu:iA u y k∈I0) (hv:iA v z m∈I0):CD Tryz.prog 168 [u,v] X w0 M0 I0 (fun v M I=>M0=M∧I=iA v (y+z) c::I0):=by
 refine bZ hu (fun q cq e hc hy=>?_)
 subst e
 refine bZ (List.Mem.tail _ hv) (fun q' cq' e hc' hz=>?_)
 subst e
 have hl:=fV hy (by omega)
 have hl':=fV hz (by omega)
 unfold iv
 refine dY Tryz.func168 rfl Tryz.ntmps168 rfl ?_
 refine gG ?_
 refine tyX rfl (fun b=>?_)
 refine tyX rfl (fun b2=>?_)
 refine cK (fun b3=>?_)
 repeat refine jA ?_
 (repeat refine aG ?_);refine aW 3 [0,1,2,4,5,6,3,7,8,9] [3,2,2,3,2,2,0,0,0,0] mixed (by kernel_rfl) ?_
 repeat refine jA ?_
 refine dH rfl (iU (c:=cq) hy (by omega) bA) ?_
 repeat refine jA ?_
 refine dH rfl (iU (c:=cq') hz (by omega) bA) ?_
 repeat refine jA ?_
 have hyz:y.natAbs+z.natAbs≤2 ^ c:=Nat.le_trans (Nat.add_le_add hy hz) hs
 have hS:=fun M0 I0=>aVD (X:=X) (w0:=w0) (M0:=M0) (I0:=I0) (p:=q) (q:=q') (cp:=cq) (cq:=cq') (pn:=y < 0) (qn:=z < 0) (k:=c) (by omega) (by omega) hyz hc0
 simp only [rC] at hS
 (refine kH rfl (hS _ _ bA bA) rfl rfl ?_;rintro _ _ _ ⟨rfl,rfl⟩;refine ⟨okK,?_⟩;refine aT (List.Mem.head _) (fun q2 c2 e__ hc2 hz2=>?_);subst e__)
 unfold iv
 repeat refine jA ?_
 refine aO (cs:=[.bool (B (y+z < 0)), .slice q2 (gr (y+z).natAbs).length c2]) (.inl rfl) rfl rfl bA rfl _ _ bY bW ⟨rfl,rfl⟩
end
section
variable {X:List Nat} {w0:World} {M0:List Ent} {I0:List aL}
theorem aIL {u v:Value} {y z:Int} {k0 m:Nat} (hk:k0≤500000000000) (hm:m≤500000000000) (hu:iA u y k0∈I0) (hv:iA v z m∈I0):CD Tryz.prog 122 [u,v] X w0 M0 I0 (fun v M I=>M0=M∧I=iA v (Int.gcd y z) (k0+m)::I0):=by
 refine bZ hu (fun q cq e hc hy=>?_)
 subst e
 refine bZ (List.Mem.tail _ hv) (fun q' cq' e hc' hz=>?_)
 subst e
 have hy2:y.natAbs≤2 ^ (k0+m):=Nat.le_trans hy (Nat.pow_le_pow_right (by decide) (by omega))
 have hz2:z.natAbs≤2 ^ (k0+m):=Nat.le_trans hz (Nat.pow_le_pow_right (by decide) (by omega))
 unfold iv
 refine dY Tryz.func122 rfl Tryz.ntmps122 rfl ?_
 refine gG ?_
 refine tyX rfl (fun b=>?_)
 refine tyX rfl (fun b2=>?_)
 refine cK (fun b3=>?_)
 repeat refine jA ?_
 (repeat refine aG ?_);refine aW 3 [0,2,1,3,4,5] [1,1,0,0,0,0] mixed (by kernel_rfl) ?_
 repeat refine jA ?_
 refine dH rfl (iU (c:=cq) hy (by omega) bA) ?_
 repeat refine jA ?_
 refine dH rfl (iU (c:=cq') hz (by omega) bA) ?_
 repeat refine jA ?_
 refine bX [4] rfl (fun k G M I=>∃(a b:Nat) (pa pb:Option Addr) (ca cb:Nat),k=b∧a≤2 ^ (k0+m)∧b≤2 ^ (k0+m)∧sO pa a ca∧sO pb b cb∧Nat.gcd a b=Nat.gcd y.natAbs z.natAbs∧G=[(5, .slice pa (gr a).length ca),(6, .slice pb (gr b).length cb)]∧M= .blk b3 [.bool false, .slice none 0 0] 42::M0∧I=aI pa (recs eG (gr a))::aI pb (recs eG (gr b))::I0) (z.natAbs) _ _ _ dB bY bW (⟨y.natAbs,z.natAbs,q,q',cq,cq',rfl,hy2,hz2,hc,hc',rfl,rfl,rfl,rfl⟩) ?_
 rintro k G M I ⟨a,b',pa,pb,ca,cb,rfl,ha,hb,oa,ob,hg,rfl,rfl,rfl⟩
 have la:=eY ha
 have lb:=eY hb
 have hW1:=fun M0 I0=>aDD (X:=X) (w0:=w0) (M0:=M0) (I0:=I0) (q:=pa) (n:=a) (c:=ca) (by omega)
 have hW2:=fun M0 I0=>aDD (X:=X) (w0:=w0) (M0:=M0) (I0:=I0) (q:=pb) (n:=k) (c:=cb) (by omega)
 by_cases hk0:k=0
 ·subst hk0
  have hl0:(gr 0).length=0:=by rw [gQ];rfl
  rw [Nat.gcd_zero_right] at hg
  have hz:(Int.gcd y z:Int)=sg False a:=by unfold sg;rw [if_neg (fun h=>h),hg];rfl
  repeat refine jA ?_
  (refine bD rfl (aBX (a:=gr a) (by omega) oa.2 bA) ?_;rintro _ _ _ ⟨rfl,q',c',rfl,rfl⟩;refine aN ?_)
  refine nQ (fun w hw=>And.intro (hw.rowLe (List.Mem.head _)) ((hw.rowS (List.Mem.head _)).2.imp id And.right)) (fun hc'=>?_)
  refine fD yZ ?_
  repeat refine jA ?_
  rw [hz]
  have hMd:=fun M0 I0=>mQ (X:=X) (w0:=w0) (M0:=M0) (I0:=I0) (p:=False) (q:=q') (c:=c') (k:=k0+m) (by omega) hc' ha
  simp only [bH (show ¬False from id)] at hMd
  (refine kH rfl (hMd _ _ bA) rfl rfl ?_;rintro _ _ _ ⟨rfl,rfl⟩;refine ⟨okK,?_⟩;refine aT (List.Mem.head _) (fun q2 c2 e__ hc2 hz2=>?_);subst e__)
  unfold iv
  repeat refine jA ?_
  refine aO (cs:=[.bool (B (sg False a < 0)), .slice q2 (gr (sg False a).natAbs).length c2]) (.inl rfl) rfl rfl bA rfl _ _ bY bW ⟨rfl,rfl⟩
 ·have hlk:0 < (gr k).length:=List.length_pos_iff.2 (fun e=>hk0 (oZ.1 e))
  by_cases hw:(gr a).length≤2∧(gr k).length≤2
  ·have hb9:∀t:Nat,(gr t).length≤2→t < 1000000000000000000:=fun t ht=>by
    have:=jW (bT t)
    rw [cZ] at this
    have h2:(1000000000:Int) ^ (gr t).length≤1000000000 ^ 2:=nT ht
    omega
   have a9:=hb9 a hw.1
   have k9:=hb9 k hw.2
   rw [if_pos hw.1,bK hw.1] at hW1
   rw [if_pos hw.2,bK hw.2] at hW2
   repeat refine jA ?_
   refine dH rfl (hW1 _ _ bA) ?_
   repeat refine jA ?_
   refine dH rfl (hW2 _ _ bA) ?_
   repeat refine jA ?_
   refine bX [4] rfl (fun k G M I=>∃(x x2:Nat),k=x2∧x < 1000000000000000000∧x2 < 1000000000000000000∧x≤2 ^ (k0+m)∧x2≤2 ^ (k0+m)∧Nat.gcd x x2=Nat.gcd y.natAbs z.natAbs∧G=[(7, .int .u64 x),(9, .int .u64 x2)]∧M= .blk b3 [.bool false, .slice none 0 0] 42::M0∧I0=I) (k) _ _ _ dB bY bW (⟨a,k,rfl,a9,k9,ha,hb,hg,rfl,rfl,rfl⟩) ?_
   rintro k G M I ⟨x,x2,rfl,hx9,hx29,hx,hx2,hxg,rfl,rfl,rfl⟩
   by_cases hx0:k=0
   ·subst hx0
    rw [Nat.gcd_zero_right] at hxg
    have hz:(Int.gcd y z:Int)=sg False x:=by unfold sg;rw [if_neg (fun h=>h),hxg];rfl
    repeat refine jA ?_
    (refine bD rfl (uB (n:=x) (by omega)) ?_;rintro _ _ _ ⟨rfl,q',c',rfl,hc',rfl⟩;refine aN ?_)
    rw [hz]
    have hMd:=fun M0 I0=>mQ (X:=X) (w0:=w0) (M0:=M0) (I0:=I0) (p:=False) (q:=q') (c:=c') (k:=k0+m) (by have:=eY hx;omega) hc' hx
    simp only [bH (show ¬False from id)] at hMd
    (refine kH rfl (hMd _ _ bA) rfl rfl ?_;rintro _ _ _ ⟨rfl,rfl⟩;refine ⟨okK,?_⟩;refine aT (List.Mem.head _) (fun q2 c2 e__ hc2 hz2=>?_);subst e__)
    unfold iv
    repeat refine jA ?_
    refine aO (cs:=[.bool (B (sg False x < 0)), .slice q2 (gr (sg False x).natAbs).length c2]) (.inl rfl) rfl rfl bA rfl _ _ bY bW ⟨rfl,rfl⟩
   ·have e2:((x:Int)).tmod (k:Int)=((x % k:Nat):Int):=by rw [Int.tmod_eq_emod_of_nonneg (by omega),Int.natCast_emod]
    have hmod:=Nat.mod_lt x (show k>0 by omega)
    have hg2:Nat.gcd k (x % k)=Nat.gcd y.natAbs z.natAbs:=by rw [←hxg,Nat.gcd_comm x k,Nat.gcd_rec k x,Nat.gcd_comm]
    repeat refine jA ?_
    (repeat refine aG ?_);refine eO [0,1,2,3,4,5] [0,0,0,0,0,0] mixed (by kernel_rfl) ?_
    repeat refine jA ?_
    rw [e2]
    refine cO (x % k) _ _ _ (by first|omega|(simp only [List.length_append,List.length_cons,List.length_nil];omega)) dB bY bW (⟨k,x % k,rfl,by omega,by omega,hx2,by omega,hg2,rfl,rfl,rfl⟩)
  ·have hO:=fun M0 I0=>aPU (X:=X) (w0:=w0) (M0:=M0) (I0:=I0) (p:=pa) (q:=pb) (m:=a) (n:=k) (cp:=ca) (cq:=cb) (by omega) (by omega) (by omega) oa
   have hmod:=Nat.mod_lt a (show k>0 by omega)
   have hg2:Nat.gcd k (a % k)=Nat.gcd y.natAbs z.natAbs:=by rw [←hg,Nat.gcd_comm a k,Nat.gcd_rec k a,Nat.gcd_comm]
   by_cases hw1:(gr a).length≤2
   ·have hw2:¬(gr k).length≤2:=fun h=>hw ⟨hw1,h⟩
    rw [if_pos hw1,bK hw1] at hW1
    rw [if_neg hw2,bH hw2] at hW2
    repeat refine jA ?_
    refine dH rfl (hW1 _ _ bA) ?_
    repeat refine jA ?_
    refine dH rfl (hW2 _ _ bA) ?_
    repeat refine jA ?_
    (refine bD rfl (hO _ _ bA bA) ?_;rintro _ _ _ ⟨rfl,p1,c1,p2,c2,ho1,ho2,rfl,rfl⟩;refine aN ?_)
    repeat refine jA ?_
    refine cO (a % k) _ _ _ (by first|omega|(simp only [List.length_append,List.length_cons,List.length_nil];omega)) dB bY bW (⟨k,a % k,pb,p2,cb,c2,rfl,hb,by omega,ob,ho2,hg2,rfl,rfl,rfl⟩)
   ·rw [if_neg hw1,bH hw1] at hW1
    repeat refine jA ?_
    refine dH rfl (hW1 _ _ bA) ?_
    repeat refine jA ?_
    refine dH rfl (hW2 _ _ bA) ?_
    repeat refine jA ?_
    (refine bD rfl (hO _ _ bA bA) ?_;rintro _ _ _ ⟨rfl,p1,c1,p2,c2,ho1,ho2,rfl,rfl⟩;refine aN ?_)
    repeat refine jA ?_
    refine cO (a % k) _ _ _ (by first|omega|(simp only [List.length_append,List.length_cons,List.length_nil];omega)) dB bY bW (⟨k,a % k,pb,p2,cb,c2,rfl,hb,by omega,ob,ho2,hg2,rfl,rfl,rfl⟩)
end
theorem aTZ {y z:Int} (h:y.sign≠z.sign):gD y.sign z.sign=gD y z:=by
 unfold gD
 rcases Int.lt_trichotomy y 0 with hy|hy|hy <;>rcases Int.lt_trichotomy z 0 with hz|hz|hz <;>
  simp_all [Int.sign_eq_one_of_pos,Int.sign_eq_neg_one_of_neg] <;>omega
theorem aZY {y z:Int} (h:y.sign=z.sign):gD y z=if y < 0 then -gD y.natAbs z.natAbs else gD y.natAbs z.natAbs:=by
 have h1:y < 0↔z < 0:=by rw [←Int.sign_eq_neg_one_iff_neg,←Int.sign_eq_neg_one_iff_neg,h]
 unfold gD
 by_cases hy:y < 0
 ·have hz:=h1.1 hy
  rw [if_pos hy]
  split <;>split <;>(try split) <;>(try split) <;>omega
 ·have hz:¬z < 0:=fun hz=>hy (h1.2 hz)
  rw [if_neg hy]
  split <;>split <;>(try split) <;>(try split) <;>omega
section
variable {X:List Nat} {w0:World} {M0:List Ent} {I0:List aL}
theorem zF {u v:Value} {y z:Int} {k m:Nat} (hk:k≤1000000000000) (hm:m≤1000000000000) (hu:iA u y k∈I0) (hv:iA v z m∈I0):CD Tryz.prog 121 [u,v] X w0 M0 I0 (fun v M I=>M0=M∧I0=I∧v= .int .i64 (gD y z)):=by
 have hS1:=fun M0 I0 h=>qG (X:=X) (w0:=w0) (M0:=M0) (I0:=I0) (u:=u) (z:=y) hk h
 have hS2:=fun M0 I0 h=>qG (X:=X) (w0:=w0) (M0:=M0) (I0:=I0) (u:=v) (z:=z) hm h
 refine bZ hu (fun q cq e hc hy=>?_)
 subst e
 refine bZ (List.Mem.tail _ hv) (fun q' cq' e hc' hz=>?_)
 subst e
 have hl:=fV hy hk
 have hl':=fV hz hm
 unfold iv at*
 refine dY Tryz.func121 rfl Tryz.ntmps121 rfl ?_
 refine gG ?_
 refine tyX rfl (fun b=>?_)
 refine tyX rfl (fun b2=>?_)
 repeat refine jA ?_
 (repeat refine aG ?_);refine eO [0,2,1,3,4,5] [1,1,0,0,0,0] mixed (by kernel_rfl) ?_
 repeat refine jA ?_
 refine dH rfl (hS1 _ _ bA) ?_
 repeat refine jA ?_
 refine dH rfl (hS2 _ _ bA) ?_
 by_cases hs:y.sign=z.sign
 ·have hca:=aZY hs
  repeat refine jA ?_
  (repeat refine aG ?_);refine eO [0,2,1,3,4,5] [2,2,0,0,0,0] mixed (by kernel_rfl) ?_
  repeat refine jA ?_
  refine dH rfl (iU (c:=cq) hy hk bA) ?_
  repeat refine jA ?_
  refine dH rfl (iU (c:=cq') hz hm bA) ?_
  repeat refine jA ?_
  refine dH rfl (yS (by omega) (by omega) bA bA) ?_
  have hcb: -1≤gD (y.natAbs:Int) z.natAbs∧gD (y.natAbs:Int) z.natAbs≤1:=by unfold gD;split <;>(try split) <;>omega
  by_cases hy0:y < 0
  ·rw [if_pos hy0] at hca
   rw [hca]
   generalize gD (y.natAbs:Int) z.natAbs=cv at*
   repeat refine jA ?_
   refine aU (by first|exact .inl rfl|exact .inr rfl) rfl rfl _ _ bY bW (⟨rfl,rfl,congrArg (Value.int .i64) (by omega)⟩)
  ·rw [if_neg hy0] at hca
   rw [hca]
   generalize gD (y.natAbs:Int) z.natAbs=cv at*
   repeat refine jA ?_
   refine aU (by first|exact .inl rfl|exact .inr rfl) rfl rfl _ _ bY bW (⟨rfl,rfl,rfl⟩)
 ·rw [←aTZ hs]
  repeat refine jA ?_
  (refine bD rfl (CD.same (fun w _=>aVZ _ _ _)) ?_;rintro _ _ _ ⟨rfl,rfl,rfl⟩;refine aN ?_)
  repeat refine jA ?_
  refine aU (by first|exact .inl rfl|exact .inr rfl) rfl rfl _ _ bY bW (⟨rfl,rfl,rfl⟩)
end
theorem aLP {x:Int} (h: -9223372036854775808≤x∧x < 0):IntKind.u64.wrap x=x+18446744073709551616:=by
 simp [IntKind.wrap,IntKind.bits,IntKind.signed];omega
section
variable {X:List Nat} {w0:World} {M0:List Ent} {I0:List aL}
theorem Of_ok {x:Int} (hx:0≤x∧x≤9223372036854775807):CD Tryz.prog 58 [.int .i64 x] X w0 M0 I0 (fun v M I=>M0=M∧I=iA v x 63::I0):=by
 obtain ⟨n,rfl⟩:∃n:Nat,x=(n:Int):=⟨x.toNat,by omega⟩
 have hn:n≤2 ^ 63:=by omega
 have hsg:((n:Nat):Int)=sg False n:=by unfold sg;rw [if_neg (fun h=>h)]
 refine dY Tryz.func58 rfl Tryz.ntmps58 rfl ?_
 refine gG ?_
 refine cK (fun b=>?_)
 repeat refine jA ?_
 (refine bD rfl (uB (n:=n) (by omega)) ?_;rintro _ _ _ ⟨rfl,q',c',rfl,hc',rfl⟩;refine aN ?_)
 have hMd:=fun M0 I0=>mQ (X:=X) (w0:=w0) (M0:=M0) (I0:=I0) (p:=((n:Nat):Int) < 0) (q:=q') (c:=c') (k:=63) (by have:=eY hn;omega) hc' hn
 have hs2:sg (((n:Nat):Int) < 0) n=(n:Int):=by unfold sg;rw [if_neg (by omega)]
 simp only [hs2] at hMd
 (refine kH rfl (hMd _ _ bA) rfl rfl ?_;rintro _ _ _ ⟨rfl,rfl⟩;refine ⟨okK,?_⟩;refine aT (List.Mem.head _) (fun q2 c2 e__ hc2 hz2=>?_);subst e__)
 unfold iv
 repeat refine jA ?_
 refine aO (cs:=[.bool (B (((n:Nat):Int) < 0)), .slice q2 (gr ((n:Nat):Int).natAbs).length c2]) (.inl rfl) rfl rfl bA rfl _ _ bY bW ⟨rfl,rfl⟩
end
abbrev vI (q:Option Addr) (c:Nat) (z:Int):Value:= .agg #[.bool (B (z < 0)), .slice q (gr z.natAbs).length c]
structure RE where
 q:Rat
 p1:Option Addr
 c1:Nat
 p2:Option Addr
 c2:Nat
instance:Inhabited RE:=⟨⟨0,none,0,none,0⟩⟩
abbrev eR (e:RE):List Value:=[.bool (B (e.q.num < 0)), .slice e.p1 (gr e.q.num.natAbs).length e.c1, .bool (B ((e.q.den:Int) < 0)), .slice e.p2 (gr (e.q.den:Int).natAbs).length e.c2]
abbrev rv (e:RE):Value:= .agg #[.bool (B (e.q.num < 0)), .slice e.p1 (gr e.q.num.natAbs).length e.c1, .bool (B ((e.q.den:Int) < 0)), .slice e.p2 (gr (e.q.den:Int).natAbs).length e.c2]
instance:Sized eR 4:=⟨fun _=>rfl⟩
instance:Ones eR:=⟨fun m u hu=>by
 simp only [eR,List.mem_cons,List.not_mem_nil,or_false] at hu
 rcases hu with rfl|rfl|rfl|rfl <;>rfl⟩
structure IsR (e:RE) (k:Nat) (X:List Nat) (w:World):Prop where
 num:IsI (vI e.p1 e.c1 e.q.num) e.q.num k X w
 den:IsI (vI e.p2 e.c2 e.q.den) e.q.den k X w
abbrev bL (e:RE) (k:Nat):aL:=IsR e k
instance (e:RE) (k:Nat):Fx.Good (IsR e k):=⟨fun X Y w w' h he hY=>⟨Fx.Good.go (φ:=IsI _ _ _) X Y w w' h.num he hY,Fx.Good.go (φ:=IsI _ _ _) X Y w w' h.den he hY⟩⟩
theorem IsR.mono {e:RE} {k m:Nat} {X:List Nat} {w:World} (h:IsR e k X w) (hk:k≤m):IsR e m X w:=⟨h.num.mono hk,h.den.mono hk⟩
theorem IsI.le {u:Value} {z:Int} {k:Nat} {X:List Nat} {w:World} (h:IsI u z k X w):z.natAbs≤2 ^ k:=by
 obtain ⟨q,c,h1,h2,h3,h4⟩:=h.ex
 exact h3
structure AllR (es:List RE) (k:Nat) (X:List Nat) (w:World):Prop where
 go:∀e∈es,IsR e k X w
abbrev aP (es:List RE) (k:Nat):aL:=AllR es k
instance (es:List RE) (k:Nat):Fx.Good (AllR es k):=⟨fun X Y w w' h he hY=>⟨fun e hm=>Fx.Good.go (φ:=IsR _ _) X Y w w' (h.go e hm) he hY⟩⟩
theorem AllR.mono {es:List RE} {k m:Nat} {X:List Nat} {w:World} (h:AllR es k X w) (hk:k≤m):AllR es m X w:=⟨fun e he=>(h.go e he).mono hk⟩
structure Hv (I:List aL) (φ:aL):Prop where
 go:∀(X:List Nat) (w:World),(∀ψ∈I,ψ X w)→φ X w
theorem Hv.mem {I:List aL} {φ:aL} (h:φ∈I):Hv I φ:=⟨fun _ _ hw=>hw φ h⟩
theorem Hv.q {I:List aL} {e:RE} {k m:Nat} (h:bL e k∈I) (hk:k≤m):Hv I (bL e m):=⟨fun X w hw=>IsR.mono (hw _ h) hk⟩
theorem bF {α:Type} [Inhabited α] {ms:List α} {i:Int} (h:0≤i∧i < ms.length):gt ms i∈ms:=List.mem_of_getElem? (aIS h)
theorem Hv.all {I:List aL} {es:List RE} {k m:Nat} {i:Int} (h:aP es k∈I) (hi:0≤i∧i < es.length) (hk:k≤m):Hv I (bL (gt es i) m):=⟨fun X w hw=>((hw _ h:AllR es k X w).go _ (bF hi)).mono hk⟩
theorem Hv.inc {I I':List aL} {φ:aL} (h:Hv I φ) (hs:∀ψ∈I,ψ∈I'):Hv I' φ:=⟨fun X w hw=>h.go X w (fun ψ hm=>hw ψ (hs ψ hm))⟩
theorem Hv.cons {I:List aL} {φ ψ:aL} (h:Hv I φ):Hv (ψ::I) φ:=h.inc (fun _ hm=>List.mem_cons_of_mem _ hm)
theorem Hv.allMono {I:List aL} {es:List RE} {k m:Nat} (h:aP es k∈I) (hk:k≤m):Hv I (aP es m):=⟨fun X w hw=>AllR.mono (hw _ h) hk⟩
section
variable {P:Program} {n:Nat} {Q:Exit→Act→World→Prop} {G:Env} {X:List Nat} {w0:World} {M M':List Ent} {I I':List aL}
theorem Mem.hv {w:World} {φ:aL} [Fx.Good φ] (h:Hv I φ) (hw:Mem X w0 M I w):Mem X w0 M (φ::I) w:=hw.add (φ:=φ) (h.go _ _ (fun ψ hm=>(hw.imm ψ hm).2))
theorem aV {f:FuncId} {vs:List Value} {K:Value→List Ent→List aL→Prop} {φ:aL} [Fx.Good φ] (h:Hv I φ) (k:CD P f vs X w0 M (φ::I) K):CD P f vs X w0 M I K:=⟨fun w hw=>k.go w (Mem.hv h hw)⟩
theorem bG {c:Code} {φ:aL} [Fx.Good φ] (h:Hv I φ) (k:TD P n c Q G X w0 M (φ::I)):TD P n c Q G X w0 M I:=aEO (fun _ hw=>Mem.hv h hw) k
theorem bQ {ops l:List Oper} {m:Fx.Mode} {φ:aL} [Fx.Good φ] (h:Hv I φ) (k:RD P n ops Q m l G X w0 M (φ::I)):RD P n ops Q m l G X w0 M I:=vQ (fun _ hw=>Mem.hv h hw) k
theorem dF {ex:Exit} {φ:aL} [Fx.Good φ] (h:Hv I φ) (k:ND n Q ex G X w0 M (φ::I)):ND n Q ex G X w0 M I:=yO (fun _ hw=>Mem.hv h hw) k
theorem bDP {w:World} {e:RE} {k:Nat} (h:Hv I (bL e k)) (hw:Mem X w0 M I w):Mem X w0 M (iA (vI e.p1 e.c1 e.q.num) e.q.num k::iA (vI e.p2 e.c2 e.q.den) e.q.den k::I) w:=by
 have hr:IsR e k (muts M) w:=h.go _ _ (fun ψ hm=>(hw.imm ψ hm).2)
 exact (hw.add (φ:=iA (vI e.p2 e.c2 e.q.den) e.q.den k) hr.den).add (φ:=iA (vI e.p1 e.c1 e.q.num) e.q.num k) hr.num
theorem aDZ {f:FuncId} {vs:List Value} {K:Value→List Ent→List aL→Prop} {e:RE} {k:Nat} (h:Hv I (bL e k)) (c:CD P f vs X w0 M (iA (vI e.p1 e.c1 e.q.num) e.q.num k::iA (vI e.p2 e.c2 e.q.den) e.q.den k::I) K):CD P f vs X w0 M I K:=⟨fun w hw=>c.go w (bDP h hw)⟩
theorem iD {ops l:List Oper} {m:Fx.Mode} {e:RE} {k:Nat} (h:Hv I (bL e k)) (c:RD P n ops Q m l G X w0 M (iA (vI e.p1 e.c1 e.q.num) e.q.num k::iA (vI e.p2 e.c2 e.q.den) e.q.den k::I)):RD P n ops Q m l G X w0 M I:=vQ (fun _ hw=>bDP h hw) c
theorem bEJ {w:World} {q:Rat} {k k1 k2:Nat} {p1 p2:Option Addr} {c1 c2:Nat} (h1:iA (vI p1 c1 q.num) q.num k1∈I) (h2:iA (vI p2 c2 q.den) q.den k2∈I) (hk1:k1≤k) (hk2:k2≤k) (hw:Mem X w0 M I w):Mem X w0 M (bL ⟨q,p1,c1,p2,c2⟩ k::I) w:=
 hw.add (φ:=bL ⟨q,p1,c1,p2,c2⟩ k) ⟨IsI.mono (hw.imm _ h1).2 hk1,IsI.mono (hw.imm _ h2).2 hk2⟩
theorem mO {ex:Exit} {q:Rat} {k k1 k2:Nat} {p1 p2:Option Addr} {c1 c2:Nat} (h1:iA (vI p1 c1 q.num) q.num k1∈I) (h2:iA (vI p2 c2 q.den) q.den k2∈I) (hk1:k1≤k) (hk2:k2≤k) (h:ND n Q ex G X w0 M (bL ⟨q,p1,c1,p2,c2⟩ k::I)):ND n Q ex G X w0 M I:=yO (fun _ hw=>bEJ h1 h2 hk1 hk2 hw) h
theorem monoI {w:World} {u:Value} {z:Int} {k m:Nat} (h:iA u z k∈I) (hk:k≤m) (hw:Mem X w0 M I w):Mem X w0 M (iA u z m::I) w:=hw.add (φ:=iA u z m) (IsI.mono (hw.imm _ h).2 hk)
theorem aKB {ops l:List Oper} {m:Fx.Mode} {u:Value} {z:Int} {k k2:Nat} (h:iA u z k∈I) (hk:k≤k2) (c:RD P n ops Q m l G X w0 M (iA u z k2::I)):RD P n ops Q m l G X w0 M I:=vQ (fun _ hw=>monoI h hk hw) c
theorem IsI.tight {u:Value} {z:Int} {k m:Nat} {X:List Nat} {w:World} (h:IsI u z k X w) (hk:z.natAbs≤2 ^ m):IsI u z m X w:=by
 obtain ⟨q,c,h1,h2,h3,h4⟩:=h.ex
 exact ⟨q,c,h1,h2,hk,h4⟩
theorem nY {ops l:List Oper} {m:Fx.Mode} {u:Value} {z:Int} {k k2:Nat} (h:iA u z k∈I) (hk:z.natAbs≤2 ^ k2) (c:RD P n ops Q m l G X w0 M (iA u z k2::I)):RD P n ops Q m l G X w0 M I:=vQ (fun _ hw=>hw.add (φ:=iA u z k2) (IsI.tight (hw.imm _ h).2 hk)) c
end
def RQ (q:Rat) (k:Nat) (M0:List Ent) (I0:List aL) (v:Value) (M:List Ent) (I:List aL):Prop:=M0=M∧∃e:RE,v=rv e∧e.q=q∧I=bL e k::I0
def RQc (q:Rat) (k:Nat) (M0:List Ent) (I0:List aL) (v:Value) (M:List Ent) (I:List aL):Prop:=M0=M∧∃e:RE,v= .tuple #[rv e, .int .i64 0]∧e.q=q∧I=bL e k::I0
theorem fK {P:Program} {n:Nat} {Q:Exit→Act→World→Prop} {G:Env} {X:List Nat} {w0:World} {M:List Ent} {I:List aL} {ops l:List Oper} {m:Fx.Mode} {ty:TypeId} {pos:String} {af:Array Edge} {g:Option (Nat × Bool)} {z:Rat} {j d:Nat} {f:FuncId} {xs:List Operand} {vs:List Value} {at_:Array TypeId} [FnOk P f] (hx:evs G xs=some vs) (hc:CD P f vs X w0 M I (RQ z j M I)) (k:∀e:RE,e.q=z→RD P n ops Q m.nextE l ((d,rv e)::G) X w0 M (bL e j::I)) (o:∀e,OkD m X w0 M (bL e j::I):=by intro _;exact okF) (hg:nZ ops G g=some true:=by rfl) (hd:Nat.ble (d+1) n=true:=by rfl):
  RD P n ops Q m (⟨some d, .call {callee:= .value (.func f),args:=xs.toArray,argTypes:=at_},ty,pos,af,g⟩::l) G X w0 M I:=bR hx hc hg hd (by rintro _ _ _ ⟨rfl,e,rfl,h,rfl⟩;exact ⟨o e,k e h⟩)
end Go.Proofs.YtmmmfphealhapaaGreat
