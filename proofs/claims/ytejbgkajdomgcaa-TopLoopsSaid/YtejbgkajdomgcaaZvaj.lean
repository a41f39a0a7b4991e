/- integer: long division, plain integer: long division integer: quotient and remainder of ma -/
import Derived.Test.YtejbgkajdomgcaaZvai
import Derived.Test.YtejbgkajdomgcaaZvaf
set_option linter.unusedSimpArgs false
set_option linter.unusedVariables false
set_option maxRecDepth 100000
set_option maxHeartbeats 4000000
namespace Go.Proofs.Ytejbgkajdomgcaa
open Go Go.Fx
theorem qK {f:Nat} (h0:0 < f) (h:f < 1000000000):gr f=[(f:Int)]:=by
 rw [qI (by omega),Nat.mod_eq_of_lt h,Nat.div_eq_of_lt h,eF]
theorem aHN {bt:Nat} (h:1≤bt∧bt < 1000000000):∃f:Nat,0 < f∧f < 1000000000∧(1000000000:Int).tdiv ((bt:Int)+1)=(f:Int):=
 ⟨1000000000 / (bt+1),Nat.div_pos (by omega) (by omega),Nat.lt_of_le_of_lt (Nat.div_le_div_left (show 2≤bt+1 by omega) (by decide)) (by decide),by
  rw [Int.tdiv_eq_ediv_of_nonneg (by decide),Int.natCast_ediv]
  rfl⟩
theorem tF {m f:Nat} (h0:0 < f) (h:f < 1000000000):(gr m).length≤(gr (m*f)).length∧(gr (m*f)).length≤(gr m).length+1:=by
 refine ⟨jF (Nat.le_mul_of_pos_right _ h0),pF ?_⟩
 have h1:=jZ (dF m)
 rw [dR] at h1
 have h2:m < 1000000000 ^ (gr m).length:=Int.ofNat_lt.1 (by rw [Int.natCast_pow];exact h1)
 rw [Nat.pow_succ]
 exact Nat.lt_of_le_of_lt (Nat.mul_le_mul_left m (Nat.le_of_lt h)) (Nat.mul_lt_mul_of_pos_right h2 (by decide))
theorem _root_.Go.Fx.Mem.lendBT {X:List Nat} {w0 w:World} {M:List Ent} {I I2:List aO} {b:Nat} {cs tl:List Value} {e:TypeId} (hm: .blk b (cs++tl) e∈M) (hw:Mem X w0 M I w) (h:Mem [] w [] I2 w):Mem [] w [] (aN (some ⟨b,0,none⟩) cs::I2) w:=
 h.add (φ:=aN (some ⟨b,0,none⟩) cs) ⟨Blk.sl (X:=muts []) (hw.blk hm) (by simp [muts]) 0 (fun j v hj=>by rw [Nat.zero_add,List.getElem?_append_left (List.getElem?_eq_some_iff.1 hj).1];exact hj)⟩
theorem aFF {u v:List Int} (hv:Can v) (hn:2≤v.length) (hu:Dig u) (hl:v.length≤u.length):val ((u++[0]).drop (u.length+1 - v.length)) < val v:=by
 rw [List.drop_append_of_le_length (by omega),val_append]
 have h1:=jZ (hu.drop (u.length+1 - v.length))
 have h2:=zV hv (by omega)
 have e:(u.drop (u.length+1 - v.length)).length=v.length - 1:=by simp;omega
 rw [e] at h1
 simp only [val]
 omega
theorem aIN {u v:List Int} {j:Nat} (dU:Dig u) (hv:Can v) (hn:2≤v.length) (hlt:val (u.drop (j+1)) < val v) (hj:j < u.length):
  Knu (val (u.drop j)) (val v) (1000000000 ^ (v.length - 2)) (gt u ((j:Int)+(v.length:Int))) (gt u ((j:Int)+(v.length:Int) - 1)) (gt u ((j:Int)+(v.length:Int) - 2)) (gt v ((v.length:Int) - 1)) (gt v ((v.length:Int) - 2)):=by
 have h1:val (u.drop j) < 1000000000*val v:=by
  rw [uZ u j hj]
  have:=dU.getD j
  omega
 have htop:1≤v.getD (v.length - 1) 0:=by
  have h:=hv.2
  have hd:=hv.1.getD (v.length - 1)
  unfold Top at h
  rw [yG (by omega),show (v.length:Int) - 1=((v.length - 1:Nat):Int) by omega,gtD] at h
  omega
 have:=aOW (u:=u.drop j) (v:=v) (n:=v.length) (dU.drop j) hv.1 hn rfl htop h1
 rw [dZ,dZ,dZ] at this
 rw [show (j:Int)+(v.length:Int)=((j+v.length:Nat):Int) by omega,show ((j+v.length:Nat):Int) - 1=((j+(v.length - 1):Nat):Int) by omega,show ((j+v.length:Nat):Int) - 2=((j+(v.length - 2):Nat):Int) by omega,
  show (v.length:Int) - 1=((v.length - 1:Nat):Int) by omega,show (v.length:Int) - 2=((v.length - 2:Nat):Int) by omega,gtD,gtD,gtD,gtD,gtD]
 exact this
theorem knu_g {T V P t2 t1 t0 v1 v0 g r:Int} (h:Knu T V P t2 t1 t0 v1 v0) (hg:g*v1+r=t2*1000000000+t1) (hr:0≤r) (hg0:0≤g):g < 2000000000:=by
 have h2:=h.T2
 have h1:=h.e1
 rcases Int.lt_or_le g 2000000000 with h3|h3
 ·exact h3
 ·have:2000000000*v1≤g*v1:=Int.mul_le_mul_of_nonneg_right h3 (by omega)
  omega
theorem aOI {T V P t2 t1 t0 v1 v0 g r:Int} (h:Knu T V P t2 t1 t0 v1 v0) (hg:g*v1+r=t2*1000000000+t1) (hr:1000000000≤r):g < 1000000000:=by
 have h2:=h.T2
 have h1:=h.e1
 rcases Int.lt_or_le g 1000000000 with h3|h3
 ·exact h3
 ·have:1000000000*v1≤g*v1:=Int.mul_le_mul_of_nonneg_right h3 (by omega)
  omega
theorem aHB {u o v:List Int} {j:Nat} {g b c:Int} (dU:Dig u) (dO:Dig o) (hv:Can v) (hN:2≤v.length) (hj:j+v.length < u.length) (hol:o.length=u.length) (hT1:val (u.drop (j+1)) < val v) (h:val ((o.drop j).take v.length)+g*val v=val ((u.drop j).take v.length)+1000000000 ^ v.length*(b+c)) (hd:o.drop (j+v.length)=u.drop (j+v.length)) (hgq:val (u.drop j) < (g+1)*val v) (hgd:g*val v≤val (u.drop j)+val v):
  (gt o ((j:Int)+(v.length:Int)) - b - c=0∨(gt o ((j:Int)+(v.length:Int)) - b - c= -1∧g≠0))∧(val (u.drop j) - g*val v=val ((o.drop j).take v.length)+1000000000 ^ v.length*(gt o ((j:Int)+(v.length:Int)) - b - c))∧(∀y,val ((o.set (j+v.length) y).drop j)=val ((o.drop j).take v.length)+1000000000 ^ v.length*y):=by
 have hvl:=jZ hv.1
 have hv1:1≤val v:=by
  have:=zV hv (by omega)
  have:=iB (v.length - 1)
  omega
 rw [vD]
 have hA:=iB v.length
 have e0:=iG (u.drop j) v.length (by simp;omega)
 have e1:=uZ u (j+v.length) hj
 have e2:=iG (u.drop (j+1)) v.length (by simp;omega)
 have e3:=iG (o.drop j) v.length (by simp;omega)
 rw [List.drop_drop] at e0 e2 e3
 rw [show j+1+v.length=j+v.length+1 by omega] at e2
 have n1:=aV ((dU.drop (j+1)).take v.length)
 have n2:=aV (dU.drop (j+v.length+1))
 have n3:=aV ((dO.drop j).take v.length)
 have n4:=iC (dO.drop j) v.length
 have n5:=aV (dU.drop j)
 have hH:val (u.drop (j+v.length+1))=0:=by
  have:val (u.drop (j+v.length+1)) < 1:=iV hA (by
   rw [Int.mul_comm,Int.one_mul]
   omega)
  omega
 have hget:o.getD (j+v.length) 0=u.getD (j+v.length) 0:=by
  have:=congrArg (fun l=>l.getD 0 0) hd
  simpa only [dZ,Nat.add_zero] using this
 rw [hget]
 rw [hd] at e3
 rw [hH] at e1
 have hset:∀y,(o.set (j+v.length) y).drop j=(o.drop j).set v.length y:=fun y=>by
  rw [List.drop_set,if_neg (by omega)]
  congr 1
  omega
 have hgo:(o.drop j).getD v.length 0=u.getD (j+v.length) 0:=by rw [dZ,hget]
 have hvs:∀y,val ((o.set (j+v.length) y).drop j)=val (o.drop j)+1000000000 ^ v.length*(y - u.getD (j+v.length) 0):=fun y=>by rw [hset,uW _ _ _ (by simp;omega),hgo]
 generalize (1000000000:Int) ^ v.length=A at*
 generalize hud:u.getD (j+v.length) 0=ud at*
 have hD:val (u.drop j) - g*val v=val ((o.drop j).take v.length)+A*(ud - b - c):=by
  have k1:A*(ud - b - c)=A*ud - A*(b+c):=by grind
  have k2:A*val (u.drop (j+v.length))=A*ud:=by rw [e1];grind
  omega
 have k3:(g+1)*val v=g*val v+val v:=by rw [Int.add_mul,Int.one_mul]
 refine ⟨?_,hD,fun y=>?_⟩
 ·have x1:ud - b - c < 1:=iV hA (by rw [Int.mul_comm,Int.one_mul];omega)
  have x2: -2 < ud - b - c:=iV hA (by rw [Int.mul_comm (ud - b - c)];omega)
  by_cases hx:ud - b - c=0
  ·exact .inl hx
  ·refine .inr ⟨by omega,?_⟩
   rintro rfl
   have hm1:ud - b - c= -1:=by omega
   rw [hm1] at hD
   simp at hD
   omega
 ·rw [hvs]
  have k2:A*val (u.drop (j+v.length))=A*ud:=by rw [e1];grind
  have k4:A*(y - ud)=A*y - A*ud:=Int.mul_sub _ _ _
  omega
theorem aPN {n:Nat} (hn:1≤(gr n).length):∃bt:Nat,gt (gr n) (((gr n).length:Int) - 1)=(bt:Int)∧1≤bt∧bt < 1000000000:=by
 have hbt:=(dF n).gt (((gr n).length:Int) - 1)
 have htop:=vQ n
 unfold Top at htop
 rw [yG (by omega)] at htop
 exact ⟨(gt (gr n) (((gr n).length:Int) - 1)).toNat,by omega,by omega,by omega⟩
theorem xP {o u v:List Int} {j i:Nat} {g b c b2 y:Int} (dO:Dig o) (hvl:val ((o.drop j).take i)+g*val (v.take i)=val ((u.drop j).take i)+1000000000 ^ i*(b+c)) (hij:j+i < o.length) (htk:o.take j=u.take j) (hdr:o.drop (j+i)=u.drop (j+i))
  (hy:y=gt o ((i:Int)+(j:Int)) - b - (g*gt v i+c) % 1000000000+1000000000*b2) (hyr:0≤y∧y < 1000000000):
  Dig (st o ((i:Int)+(j:Int)) y)∧(st o ((i:Int)+(j:Int)) y).take j=u.take j∧(st o ((i:Int)+(j:Int)) y).drop (j+(i+1))=u.drop (j+(i+1))∧val (((st o ((i:Int)+(j:Int)) y).drop j).take (i+1))+g*val (v.take (i+1))=val ((u.drop j).take (i+1))+1000000000 ^ (i+1)*(b2+(g*gt v i+c) / 1000000000):=by
 have hget:o.getD (j+i) 0=u.getD (j+i) 0:=by
  have:=congrArg (fun l=>l.getD 0 0) hdr
  simpa only [dZ,Nat.add_zero] using this
 rw [vD,gtD,Nat.add_comm i j,hget] at hy
 have hm:=aEZ (o:=o) (U:=u) (v:=v) (d':=y) (b':=b2) hvl hij hdr rfl hy
 rw [jC,Nat.add_comm i j,gtD]
 refine ⟨dO.set _ hyr,?_,hm.2,hm.1⟩
 rw [List.take_set_of_le (by omega)]
 exact htk
theorem xU {u o qs v u0:List Int} {j:Nat} {g:Int} (hval:val u+1000000000 ^ (j+1)*(val v*val (qs.drop (j+1)))=val u0) (hj:j < u.length) (hjo:j < o.length) (hjq:j < qs.length) (htk:o.take j=u.take j) (hD:val (o.drop j)=val (u.drop j) - g*val v):
  val o+1000000000 ^ j*(val v*val ((st qs (j:Int) g).drop j))=val u0:=by
 have e1:=iG o j (by omega)
 have e2:=iG u j (by omega)
 rw [htk] at e1
 rw [qQ,drop_set _ _ _ hjq]
 simp only [val,Int.pow_succ] at hval ⊢
 rw [hD] at e1
 generalize (1000000000:Int) ^ j=A at*
 grind
theorem aAZ {o2 o1 v u:List Int} {j i:Nat} {c2 c3 y:Int} (dO:Dig o2) (hv:val ((o2.drop j).take i)+1000000000 ^ i*c2=val ((o1.drop j).take i)+val (v.take i)) (hij:j+i < o2.length) (htk:o2.take j=u.take j) (hdr:o2.drop (j+i)=o1.drop (j+i))
  (hy:y=gt o2 ((i:Int)+(j:Int))+gt v i+c2 - 1000000000*c3) (hyr:0≤y∧y < 1000000000):
  Dig (st o2 ((i:Int)+(j:Int)) y)∧(st o2 ((i:Int)+(j:Int)) y).take j=u.take j∧(st o2 ((i:Int)+(j:Int)) y).drop (j+(i+1))=o1.drop (j+(i+1))∧val (((st o2 ((i:Int)+(j:Int)) y).drop j).take (i+1))+1000000000 ^ (i+1)*c3=val ((o1.drop j).take (i+1))+val (v.take (i+1)):=by
 have hget:o2.getD (j+i) 0=o1.getD (j+i) 0:=by
  have:=congrArg (fun l=>l.getD 0 0) hdr
  simpa only [dZ,Nat.add_zero] using this
 rw [vD,gtD,Nat.add_comm i j,hget] at hy
 rw [jC,Nat.add_comm i j]
 have e1:(o2.set (j+i) y).drop j=(o2.drop j).set i y:=by
  rw [List.drop_set,if_neg (by omega)]
  congr 1
  omega
 have hl:i < (o2.drop j).length:=by simp;omega
 refine ⟨dO.set _ hyr,by rw [List.take_set_of_le (by omega)];exact htk,?_,?_⟩
 ·have e:((o2.set (j+i) y).drop (j+(i+1)))=o2.drop (j+i+1):=by
   rw [←Nat.add_assoc,List.drop_set,if_pos (by omega)]
  rw [e,←Nat.add_assoc]
  have h1:o2.drop (j+i+1)=(o2.drop (j+i)).drop 1:=by rw [List.drop_drop]
  have h2:o1.drop (j+i+1)=(o1.drop (j+i)).drop 1:=by rw [List.drop_drop]
  rw [h1,h2,hdr]
 ·rw [e1,dV _ i y hl,val_append,aW (o1.drop j),aW v,dZ]
  simp only [List.length_take,Nat.min_eq_left (Nat.le_of_lt hl),val,Int.pow_succ]
  generalize (1000000000:Int) ^ i=A at*
  generalize v.getD i 0=x at*
  generalize o1.getD (j+i) 0=z at*
  generalize val ((o2.drop j).take i)=z1 at*
  generalize val ((o1.drop j).take i)=z2 at*
  generalize val (v.take i)=z3 at*
  clear e1 hl hdr hij
  subst hy
  grind
theorem aGF {o o1 o2 v:List Int} {j:Nat} {c2 T g:Int} (dO:Dig o) (dO2:Dig o2) (hv:Can v) (hj:j+v.length < o2.length) (hol:o.length=o2.length) (h1:o1=o.set (j+v.length) 999999999)
  (h:val ((o2.drop j).take v.length)+1000000000 ^ v.length*c2=val ((o1.drop j).take v.length)+val v) (hc:0≤c2∧c2≤1) (hdr:o2.drop (j+v.length)=o1.drop (j+v.length))
  (hD:T - g*val v=val ((o.drop j).take v.length)+1000000000 ^ v.length*(-1)) (hset:∀y,val ((o.set (j+v.length) y).drop j)=val ((o.drop j).take v.length)+1000000000 ^ v.length*y) (hhi:g*val v≤T+val v):
  c2=1∧gt o2 ((j:Int)+(v.length:Int))=999999999∧val ((o2.set (j+v.length) 0).drop j)=T - (g - 1)*val v∧T - (g - 1)*val v < val v∧0≤T - (g - 1)*val v:=by
 have hA:=iB v.length
 have n4:=iC (dO2.drop j) v.length
 have n3:=aV ((dO2.drop j).take v.length)
 have n5:=iC (dO.drop j) v.length
 have kg:(g - 1)*val v=g*val v - val v:=by rw [Int.sub_mul,Int.one_mul]
 have e1:(o1.drop j).take v.length=(o.drop j).take v.length:=by
  rw [h1,List.drop_set,if_neg (by omega),show j+v.length - j=v.length by omega,List.take_set_of_le (Nat.le_refl _)]
 have hget:o2.getD (j+v.length) 0=o1.getD (j+v.length) 0:=by
  have:=congrArg (fun l=>l.getD 0 0) hdr
  simpa only [dZ,Nat.add_zero] using this
 have hg1:o1.getD (j+v.length) 0=999999999:=by
  rw [h1]
  simp [List.getD,List.getElem?_set_self (show j+v.length < o.length by omega)]
 have e2:=iG (o2.drop j) v.length (by simp;omega)
 have e3:=iG (o1.drop j) v.length (by rw [h1];simp;omega)
 rw [List.drop_drop] at e2 e3
 have e4:=hset 999999999
 rw [←h1] at e4
 have hvs:val ((o2.set (j+v.length) 0).drop j)=val (o2.drop j)+1000000000 ^ v.length*(0 - 999999999):=by
  have hs:(o2.set (j+v.length) 0).drop j=(o2.drop j).set v.length 0:=by
   rw [List.drop_set,if_neg (by omega),show j+v.length - j=v.length by omega]
  have hgo:(o2.drop j).getD v.length 0=999999999:=by rw [dZ,hget,hg1]
  rw [hs,uW _ _ _ (by simp;omega),hgo]
 rw [e1] at h e3
 rw [hdr] at e2
 rw [vD,hget,hg1]
 generalize (1000000000:Int) ^ v.length=A at*
 have hc1:c2=1:=by
  rcases Int.lt_or_le c2 1 with hlt|hge
  ·have:c2=0:=by omega
   subst this
   omega
  ·omega
 subst hc1
 exact ⟨rfl,rfl,by omega,by omega,by omega⟩
theorem aFH {u v:List Int} (dU:Dig u) (hl:v.length≤u.length) (hlt:val u < val v) (hv:val v < 1000000000 ^ v.length):val (u.take v.length)=val u:=by
 have e:=iG u v.length hl
 have n1:=aV (dU.take v.length)
 have n2:=aV (dU.drop v.length)
 have hA:=iB v.length
 have:val (u.drop v.length) < 1:=iV hA (by rw [Int.mul_comm,Int.one_mul];omega)
 have h0:val (u.drop v.length)=0:=by omega
 rw [h0] at e
 omega
theorem aJQ {u qs:List Int} {m n f:Nat} (dU:Dig u) (dQ:Dig qs) (h:val u+((n*f:Nat):Int)*val qs=((m*f:Nat):Int)) (hlt:val u < ((n*f:Nat):Int)) (hf:0 < f) (hn:0 < n*f):
  val u=(((m % n)*f:Nat):Int)∧val qs=((m / n:Nat):Int)∧True:=by
 have n1:=aV dU
 have n2:=aV dQ
 obtain ⟨a,ha⟩:∃a:Nat,val u=(a:Int):=⟨(val u).toNat,by omega⟩
 obtain ⟨b,hb⟩:∃b:Nat,val qs=(b:Int):=⟨(val qs).toNat,by omega⟩
 rw [ha,hb] at h
 rw [ha] at hlt
 have h':a+n*f*b=m*f:=by exact_mod_cast h
 have hlt':a < n*f:=by exact_mod_cast hlt
 have hq:m*f / (n*f)=b:=by rw [←h',Nat.add_mul_div_left _ _ hn,Nat.div_eq_of_lt hlt',Nat.zero_add]
 have hr:m*f % (n*f)=a:=by rw [←h',Nat.add_mul_mod_self_left,Nat.mod_eq_of_lt hlt']
 rw [Nat.mul_div_mul_right _ _ hf] at hq
 rw [Nat.mul_mod_mul_right] at hr
 exact ⟨by rw [ha,hr],by rw [hb,hq],trivial⟩
theorem cut0 (b c:Nat):aCU (some ⟨b,0,none⟩) c 0 1=some ⟨b,0,none⟩:=by
 unfold aCU
 split <;>simp [Addr.add]
section
variable {X:List Nat} {w0:World} {M0:List Ent} {I0:List aO}
set_option pp.maxSteps 300000 in
set_option pp.deepTerms true in
theorem aMS {p q:Option Addr} {m n cp cq:Nat} (hm:(gr m).length≤50000000000) (hn:2≤(gr n).length) (hle:n≤m) (hp:aN p (recs eG (gr m))∈I0) (hq:aN q (recs eG (gr n))∈I0):
  CD Try.prog 91 [.slice p (gr m).length cp, .slice q (gr n).length cq] X w0 M0 I0 (fun v M I=>M0=M∧∃p1 c1 p2 c2,uE p1 (m / n) c1∧uE p2 (m % n) c2∧v= .tuple #[.slice p1 (gr (m / n)).length c1, .slice p2 (gr (m % n)).length c2]∧I=aN p1 (recs eG (gr (m / n)))::aN p2 (recs eG (gr (m % n)))::I0):=by
 have hnm:(gr n).length≤(gr m).length:=jF hle
 obtain ⟨bt,hgt,hbt⟩:=aPN (n:=n) (by omega)
 have da:=dF m
 have db:=dF n
 generalize ha:gr m=a at*
 generalize hb:gr n=b at*
 have hT1:=fun (M0:List Ent) (I0:List aO) (b1:Nat) (f:Nat) (hf:0 < f) (hf2:f < 1000000000) (h:aN p (recs eG a)∈I0) (h2:aN (some ⟨b1,0,none⟩) (recs eG [(f:Int)])∈I0)=>xG (X:=X) (w0:=w0) (M0:=M0) (I0:=I0) (p:=p) (q:=some ⟨b1,0,none⟩) (m:=m) (n:=f) (cp:=cp) (cq:=1) (by rw [ha];omega) (by rw [qK hf hf2];simp) (by rw [ha];exact h) (by rw [qK hf hf2];exact h2)
 have hT2:=fun (M0:List Ent) (I0:List aO) (b1:Nat) (f:Nat) (hf:0 < f) (hf2:f < 1000000000) (h:aN q (recs eG b)∈I0) (h2:aN (some ⟨b1,0,none⟩) (recs eG [(f:Int)])∈I0)=>xG (X:=X) (w0:=w0) (M0:=M0) (I0:=I0) (p:=q) (q:=some ⟨b1,0,none⟩) (m:=n) (n:=f) (cp:=cq) (cq:=1) (by rw [hb];omega) (by rw [qK hf hf2];simp) (by rw [hb];exact h) (by rw [qK hf hf2];exact h2)
 rw [ha] at hT1
 rw [hb] at hT2
 refine aX Try.func91 rfl Try.ntmps91 rfl ?_
 repeat refine gQ ?_
 rw [hgt]
 repeat refine gQ ?_
 obtain ⟨f,hf1,hf2,ef⟩:=aHN (bt:=bt) hbt
 rw [ef]
 clear ef
 replace hT1:=fun M0 I0 b1=>hT1 M0 I0 b1 f hf1 hf2
 replace hT2:=fun M0 I0 b1=>hT2 M0 I0 b1 f hf1 hf2
 rw [qK hf1 hf2] at hT1 hT2
 have hlu:=tF (m:=m) hf1 hf2
 have hlv:=tF (m:=n) hf1 hf2
 have hluv:(gr (n*f)).length≤(gr (m*f)).length:=jF (Nat.mul_le_mul_right _ hle)
 rw [ha] at hlu
 rw [hb] at hlv
 have du:=dF (m*f)
 have dv:=dF (n*f)
 have vu:=dR (m*f)
 have vv:=dR (n*f)
 have tv:=vQ (n*f)
 generalize hu0:gr (m*f)=u0 at*
 generalize hv0:gr (n*f)=v at*
 repeat refine gQ ?_
 refine uU (cs:=recs eG [(f:Int)]) ([.int .u32 (f:Int)]) rfl (fun b1=>?_)
 refine aF uJ ?_
 (refine dS rfl (hT1 _ _ b1 aH aH) ?_;rintro _ _ _ ⟨bu,cu,rfl,hcu,rfl,rfl⟩;refine cK ?_)
 repeat refine gQ ?_
 refine uU (cs:=recs eG [(f:Int)]) ([.int .u32 (f:Int)]) rfl (fun b2=>?_)
 refine aF uJ ?_
 (refine dS rfl (hT2 _ _ b2 aH aH) ?_;rintro _ _ _ ⟨bv,cv,rfl,hcv,rfl,rfl⟩;refine cK ?_)
 repeat refine gQ ?_
 refine uU (cs:=recs eG [(0:Int)]) ([.int .u32 0]) rfl (fun b3=>?_)
 (refine uS (ys:=[(0:Int)]) 2 rfl rfl rfl ?_ (by decide) rfl (by omega) (by omega) rfl rfl ?_;(· first|exact Src.blk aH|exact Src.row aH|exact Src.imm aH (by first|assumption|exact .inl (Ok.mk _ _)));intro a2 c2;refine cK ?_)
 have hl0:(u0++[(0:Int)]).length=u0.length+1:=by simp
 repeat refine gQ ?_
 (refine iW (u0.length+1 - v.length) rfl rfl (by omega) (by omega) (by omega) (by omega) (lT _ _) rfl rfl ?_;intro bq;refine ⟨okK,?_⟩)
 repeat refine gQ ?_
 refine TD_w (M':= .row a2 (u0++[(0:Int)]).length c2 (recs eG (u0++[(0:Int)])) 113 1:: .blk bq (recs eG (List.replicate (u0.length+1 - v.length) 0)) 113:: .row (some ⟨bv,0,none⟩) v.length cv (recs eG v) 113 1::M0) (I':=I0) aJ aI ?_
 refine aGQ (fun _ h _=>absurd h (by omega)) (fun bU tl e hc2=>?_)
 subst e
 refine aGY (M':= .blk bU (recs eG (u0++[(0:Int)])++tl) 113:: .blk bq (recs eG (List.replicate (u0.length+1 - v.length) 0)) 113::M0) (I':=aN (some ⟨bv,0,none⟩) (recs eG v)::I0) (fun w hw=>hw.freezeR uJ) ?_
 clear hT1 hT2 hp hq
 obtain ⟨L,hL⟩:∃L,(u0++[(0:Int)]).length=L:=⟨_,rfl⟩
 rw [hL] at hl0 hc2 ⊢
 have hin:=aFF (v:=v) ⟨dv,tv⟩ (by omega) du hluv
 refine aU [4,6,7,8,9] rfl (fun k G M I=>∃(j:Nat) (c:Int) (u qs:List Int),j≤u0.length+1 - v.length∧k=j∧c=(j:Int) - 1∧u.length=L∧qs.length=u0.length+1 - v.length∧Dig u∧Dig qs∧val u+1000000000 ^ j*(val v*val (qs.drop j))=val u0∧val (u.drop j) < val v∧G=[(10, .int .i64 c)]∧M= .blk bU (recs eG u++tl) 113:: .blk bq (recs eG qs) 113::M0∧I=aN (some ⟨bv,0,none⟩) (recs eG v)::I0) (u0.length+1 - v.length) _ _ _ aT aJ aI (⟨u0.length+1 - v.length,_,_,_,Nat.le_refl _,rfl,by omega,hL,by simp,Dig.snoc du (by omega),Dig.zeros _,by rw [List.drop_of_length_le (by simp),val_append];simp [val],hin,rfl,rfl,rfl⟩) ?_
 rintro k G M I ⟨j,c,u,qs,hj,rfl,hcj,hul,hql,dU,dQ,hval,hlt,rfl,rfl,rfl⟩
 by_cases hj0:0≤c
 ·obtain ⟨j,rfl⟩:∃j,k=j+1:=⟨k - 1,by omega⟩
  obtain rfl:c=(j:Int):=by omega
  repeat refine gQ ?_
  have hk:=aIN dU ⟨dv,tv⟩ (by omega) hlt (by omega)
  obtain ⟨t2,ht2⟩:∃t2,gt u ((j:Int)+(v.length:Int))=t2:=⟨_,rfl⟩
  obtain ⟨t1,ht1⟩:∃t1,gt u ((j:Int)+(v.length:Int) - 1)=t1:=⟨_,rfl⟩
  obtain ⟨t0,ht0⟩:∃t0,gt u ((j:Int)+(v.length:Int) - 2)=t0:=⟨_,rfl⟩
  obtain ⟨v1,hv1⟩:∃v1,gt v ((v.length:Int) - 1)=v1:=⟨_,rfl⟩
  obtain ⟨v2,hv2⟩:∃v2,gt v ((v.length:Int) - 2)=v2:=⟨_,rfl⟩
  rw [ht2,ht1,ht0,hv1,hv2] at hk
  have k0:=hk.d0
  have k1:=hk.d1
  have k2:=hk.d2
  have k3:=hk.e1
  have k4:=hk.e0
  (repeat refine aL ?_);refine dW [0,1,2,3,7,8,9,10,11,12,13,14,4,5,6,15,16] [0,1,1,0,1,1,1,1,1,1,1,1,0,0,0,0,0] mixed (by kernel_rfl) ?_
  repeat refine gQ ?_
  rw [ht1]
  repeat refine gQ ?_
  (refine dS rfl (CD.lend [aN (some ⟨bU,0,none⟩) (recs eG u)] (fun w hw=>Mem.lendBT (b:=bU) (tl:=tl) (e:=113) aH hw hw.imm0) (fun W=>(aEB (X:=[]) (w0:=W) (M0:=[]) (I0:=[aN (some ⟨bU,0,none⟩) (recs eG u)]) (l:=u) (n:=L) (c:=c2) (i:=(j:Int)+v.length) hul.symm (by omega) aH).mono (fun _ _ _ h=>h.2.2))) ?_;rintro _ _ _ ⟨rfl,rfl,rfl⟩;refine cK ?_)
  rw [ht2]
  repeat refine gQ ?_
  (repeat refine aL ?_);refine dW [0,1,2,3,4,5,6,7,8,9,10,11,12,13,14,15,16,17] [0,0,0,0,0,0,0,0,0,0,0,0,0,0,0,0,0,0] mixed (by kernel_rfl) ?_
  repeat (first|(refine fG ?_;first|refine fC rfl rfl rfl ?_|(refine fU rfl rfl ?_;refine dM rfl rfl rfl okK ?_)|refine fF rfl rfl (by omega) ?_|refine fE rfl rfl (by omega) ?_)|(refine bD ?_;refine aC rfl (fun _=>bV rfl) rfl rfl ?_)|refine aC rfl (fun _=>aM rfl) rfl rfl ?_|(refine fV ?_;first|refine aC rfl (fun _=>aR rfl rfl w_) rfl rfl ?_|refine aC rfl (fun _=>aS rfl rfl w_) rfl rfl ?_|refine aC rfl (fun _=>cZ rfl rfl w_) rfl rfl ?_|refine aC rfl (fun _=>dB rfl rfl (by omega) q_) rfl rfl ?_|refine aC rfl (fun _=>dA rfl rfl (by omega) rfl) rfl rfl ?_|refine aC rfl (fun _=>bW rfl rfl) rfl rfl ?_|refine aC rfl (fun _=>dK rfl rfl) rfl rfl ?_|refine aC rfl (fun _=>dI rfl rfl) rfl rfl ?_)|(refine bD ?_;first|refine aC rfl (fun _=>bY rfl w_) rfl rfl ?_)|(refine fQ ?_;first|refine aC rfl (fun _=>bM rfl w_) rfl rfl ?_)|(refine fO ?_;first|refine aC rfl (fun _=>aQ rfl) rfl rfl ?_|refine aC rfl (fun _=>bS rfl rfl) rfl rfl ?_|refine aC rfl (fun _=>bT rfl rfl) rfl rfl ?_|refine aC rfl (fun _=>bX rfl rfl rfl) rfl rfl ?_)|(refine fP ?_;first|refine fB rfl (by decide) rfl rfl ?_|refine iN rfl (by decide) rfl rfl ?_)|(refine fJ ?_;first|refine aC rfl (fun _=>bH rfl) rfl rfl ?_)|(refine fH ?_;first|refine iR rfl rfl gP rfl rfl ?_|refine iP nY rfl rfl gP aH iX rfl rfl ?_|refine iO nY rfl rfl gP aH iX rfl rfl ?_|refine aC rfl (fun _=>bA rfl rfl gP) rfl rfl ?_)|(refine fT ?_;first|refine iU nY rfl aH nA rfl rfl ?_|refine iT nY rfl aH nA rfl rfl ?_|refine iA nY rfl aH nA rfl rfl ?_|refine fD nY rfl aH nA rfl rfl ?_|refine jN nY rfl aH gJ dE rfl rfl ?_|refine jX nY rfl aH gJ dE rfl rfl ?_|refine jS nY rfl aH gJ dE rfl rfl ?_|refine gY nY rfl aH gJ dE rfl rfl ?_)|(refine fK ?_;first|refine aC rfl (fun _=>bC rfl rfl) rfl rfl ?_|refine aC rfl (fun _=>bB rfl) rfl rfl ?_)|(refine gT ?_;first|refine lZ rfl rfl rfl mH stC rfl rfl ⟨okK,?_⟩|refine iE rfl rfl dE rQ mH qW rfl rfl ⟨okK,?_⟩))
  rw [hv1]
  repeat (first|(refine fG ?_;first|refine fC rfl rfl rfl ?_|(refine fU rfl rfl ?_;refine dM rfl rfl rfl okK ?_)|refine fF rfl rfl (by omega) ?_|refine fE rfl rfl (by omega) ?_)|(refine bD ?_;refine aC rfl (fun _=>bV rfl) rfl rfl ?_)|refine aC rfl (fun _=>aM rfl) rfl rfl ?_|(refine fV ?_;first|refine aC rfl (fun _=>aR rfl rfl w_) rfl rfl ?_|refine aC rfl (fun _=>aS rfl rfl w_) rfl rfl ?_|refine aC rfl (fun _=>cZ rfl rfl w_) rfl rfl ?_|refine aC rfl (fun _=>dB rfl rfl (by omega) q_) rfl rfl ?_|refine aC rfl (fun _=>dA rfl rfl (by omega) rfl) rfl rfl ?_|refine aC rfl (fun _=>bW rfl rfl) rfl rfl ?_|refine aC rfl (fun _=>dK rfl rfl) rfl rfl ?_|refine aC rfl (fun _=>dI rfl rfl) rfl rfl ?_)|(refine bD ?_;first|refine aC rfl (fun _=>bY rfl w_) rfl rfl ?_)|(refine fQ ?_;first|refine aC rfl (fun _=>bM rfl w_) rfl rfl ?_)|(refine fO ?_;first|refine aC rfl (fun _=>aQ rfl) rfl rfl ?_|refine aC rfl (fun _=>bS rfl rfl) rfl rfl ?_|refine aC rfl (fun _=>bT rfl rfl) rfl rfl ?_|refine aC rfl (fun _=>bX rfl rfl rfl) rfl rfl ?_)|(refine fP ?_;first|refine fB rfl (by decide) rfl rfl ?_|refine iN rfl (by decide) rfl rfl ?_)|(refine fJ ?_;first|refine aC rfl (fun _=>bH rfl) rfl rfl ?_)|(refine fH ?_;first|refine iR rfl rfl gP rfl rfl ?_|refine iP nY rfl rfl gP aH iX rfl rfl ?_|refine iO nY rfl rfl gP aH iX rfl rfl ?_|refine aC rfl (fun _=>bA rfl rfl gP) rfl rfl ?_)|(refine fT ?_;first|refine iU nY rfl aH nA rfl rfl ?_|refine iT nY rfl aH nA rfl rfl ?_|refine iA nY rfl aH nA rfl rfl ?_|refine fD nY rfl aH nA rfl rfl ?_|refine jN nY rfl aH gJ dE rfl rfl ?_|refine jX nY rfl aH gJ dE rfl rfl ?_|refine jS nY rfl aH gJ dE rfl rfl ?_|refine gY nY rfl aH gJ dE rfl rfl ?_)|(refine fK ?_;first|refine aC rfl (fun _=>bC rfl rfl) rfl rfl ?_|refine aC rfl (fun _=>bB rfl) rfl rfl ?_)|(refine gT ?_;first|refine lZ rfl rfl rfl mH stC rfl rfl ⟨okK,?_⟩|refine iE rfl rfl dE rQ mH qW rfl rfl ⟨okK,?_⟩))
  refine gG ?_
  refine eT ?_
  have hz0:0≤t2*1000000000+t1:=by omega
  rw [Int.tdiv_eq_ediv_of_nonneg hz0,Int.tmod_eq_emod_of_nonneg hz0]
  obtain ⟨g0,hg0⟩:∃g0,(t2*1000000000+t1) / v1=g0:=⟨_,rfl⟩
  obtain ⟨r0,hr0⟩:∃r0,(t2*1000000000+t1) % v1=r0:=⟨_,rfl⟩
  have hgr0:g0*v1+r0=t2*1000000000+t1:=by rw [←hg0,←hr0,Int.mul_comm];exact Int.mul_ediv_add_emod _ _
  have hr1:0≤r0∧r0 < v1:=by rw [←hr0];exact ⟨Int.emod_nonneg _ (by omega),Int.emod_lt_of_pos _ (by omega)⟩
  have hg1:0≤g0:=by rw [←hg0];exact Int.ediv_nonneg hz0 (by omega)
  rw [hg0,hr0]
  refine zC (fun G M I=>∃g:Int,(0≤g∧g < 1000000000)∧GeQ (val (u.drop j)) (val v) g∧g*val v≤val (u.drop j)+val v∧G=[(4, .slice (some ⟨bq,0,none⟩) (u0.length+1 - v.length) (u0.length+1 - v.length)),(6, .int .u32 f),(7, .slice (some ⟨bU,0,none⟩) L c2),(8, .slice (some ⟨bv,0,none⟩) v.length cv),(9, .int .i64 v.length),(10, .int .i64 j),(12, .int .u64 g)]∧M= .blk bU (recs eG u++tl) 113:: .blk bq (recs eG qs) 113::M0∧I=aN (some ⟨bv,0,none⟩) (recs eG v)::I0) ?_ ?_
  ·refine dN ?_
   refine aU [4,6,7,8,9,10] rfl (fun k G M I=>∃(g r:Int),k=(1000000000 - r).toNat∧g*v1+r=t2*1000000000+t1∧GeQ (val (u.drop j)) (val v) g∧(0≤r∧r < 1000000000)∧0≤g∧G=[(12, .int .u64 g),(13, .int .u64 r)]∧M= .blk bU (recs eG u++tl) 113:: .blk bq (recs eG qs) 113::M0∧I=aN (some ⟨bv,0,none⟩) (recs eG v)::I0) ((1000000000 - r0).toNat) _ _ _ aT aJ aI (⟨g0,r0,rfl,hgr0,hk.start hgr0 hr1.2,by omega,hg1,rfl,rfl,rfl⟩) ?_
   rintro k G M I ⟨g,r,rfl,hgr,hgq,hr,hg,rfl,rfl,rfl⟩
   have hg2:=knu_g hk hgr hr.1 hg
   have e1:(g - 1)*v1=g*v1 - v1:=by rw [Int.sub_mul,Int.one_mul]
   have hp0:0≤g*v2:=Int.mul_nonneg hg (by omega)
   have hp1:g*v2≤2000000000*999999999:=Int.mul_le_mul (by omega) (by omega) (by omega) (by omega)
   have hless:=hk.less hgr hgq
   have hB1:=aOI (g:=g - 1) (r:=r+v1) hk (by omega)
   have hdone1:=hk.done (g:=g - 1) (r:=r+v1) (by omega)
   have hdone:=hk.done hgr hg
   have hgne:r*1000000000+t0 < g*v2→1≤g:=fun h=>by
    rcases Int.lt_or_le 0 g with h1|h1
    ·omega
    ·have:g=0:=by omega
     subst this
     simp at h
     omega
   by_cases hgB:1000000000≤g
   ·(repeat refine aL ?_);refine dW [0,1,2,3,4,5,6,7,8,9,10,11,12,13,14,15,16,17,18,19,20,21,22,23] [0,0,0,0,0,0,0,0,0,0,0,0,0,0,0,0,0,0,0,0,0,0,0,0] mixed (by kernel_rfl) ?_
    repeat' (first|refine gQ ?_|refine bG rfl (fun h=>?_) (fun h=>?_)|refine bI rfl rfl (fun h=>?_) (fun h=>?_)|fail)
    ·refine jQ _ _ _ aT aJ aI ⟨g - 1,⟨by omega,hB1 (by omega)⟩,hless (.inl hgB),hdone1 (by omega) (hB1 (by omega)) (.inl (by omega)),rfl,rfl,rfl⟩
    ·rw [hv1]
     refine aK ((1000000000 - (r+v1)).toNat) _ _ _ (by first|omega|(simp only [List.length_append,List.length_cons,List.length_nil];omega)) aT aJ aI (⟨g - 1,r+v1,rfl,by omega,hless (.inl hgB),by omega,by omega,rfl,rfl,rfl⟩)
   ·by_cases hc:r*1000000000+t0 < g*v2
    ·have hg1:=hgne hc
     (repeat refine aL ?_);refine dW [0,1,2,3,4,5,6,7,8,9,10,11,12,13,14,15,16,17,18,19,20,21,22,23] [0,0,0,0,0,0,0,0,0,0,0,0,0,0,0,0,0,0,0,0,0,0,0,0] mixed (by kernel_rfl) ?_
     repeat refine gQ ?_
     rw [hv2]
     repeat' (first|refine gQ ?_|refine bG rfl (fun h=>?_) (fun h=>?_)|refine bI rfl rfl (fun h=>?_) (fun h=>?_)|fail)
     ·refine jQ _ _ _ aT aJ aI ⟨g - 1,⟨by omega,hB1 (by omega)⟩,hless (.inr hc),hdone1 (by omega) (hB1 (by omega)) (.inl (by omega)),rfl,rfl,rfl⟩
     ·rw [hv1]
      refine aK ((1000000000 - (r+v1)).toNat) _ _ _ (by first|omega|(simp only [List.length_append,List.length_cons,List.length_nil];omega)) aT aJ aI (⟨g - 1,r+v1,rfl,by omega,hless (.inr hc),by omega,by omega,rfl,rfl,rfl⟩)
    ·(repeat refine aL ?_);refine dW [0,1,2,3,4,5,6,7,8,9,10,11,12,13,14,15,16,17,18,19,20,21,22,23] [0,0,0,0,0,0,0,0,0,0,0,0,0,0,0,0,0,0,0,0,0,0,0,0] mixed (by kernel_rfl) ?_
     repeat refine gQ ?_
     rw [hv2]
     repeat refine gQ ?_
     refine jQ _ _ _ aT aJ aI ⟨g,⟨by omega,by omega⟩,hgq,hdone (by omega) (.inr (by omega)),rfl,rfl,rfl⟩
  ·rintro G M I ⟨g,hg,hgq,hgd,rfl,rfl,rfl⟩
   repeat refine gQ ?_
   refine aU [4,6,7,8,9,10,12,136] rfl (fun k G M I=>∃(i:Nat) (o:List Int) (b c:Int),k=v.length - i∧i≤v.length∧o.length=L∧Dig o∧(0≤b∧b≤1)∧(0≤c∧c < 1000000000)∧o.take j=u.take j∧o.drop (j+i)=u.drop (j+i)∧val ((o.drop j).take i)+g*val (v.take i)=val ((u.drop j).take i)+1000000000 ^ i*(b+c)∧G=[(14, .int .i64 b),(15, .int .u64 c),(137, .int .i64 i)]∧M= .blk bU (recs eG o++tl) 113:: .blk bq (recs eG qs) 113::M0∧I=aN (some ⟨bv,0,none⟩) (recs eG v)::I0) (v.length) _ _ _ aT aJ aI (⟨0,u,0,0,rfl,by omega,hul,dU,by omega,by omega,rfl,rfl,by simp [val],rfl,rfl,rfl⟩) ?_
   rintro k G M I ⟨i,o,b',c,rfl,hi,hol,dO,hb',hc,htk,hdr,hvl,rfl,rfl,rfl⟩
   by_cases hin':i < v.length
   ·have d2:=dv.gt i
    have d3:=dO.gt ((i:Int)+(j:Int))
    have d4:=xV hg d2 (o:=0) (by omega) hc
    rw [Int.zero_add] at d4
    have e1:(g*gt v i+c).tmod 1000000000=(g*gt v i+c) % 1000000000:=Int.tmod_eq_emod_of_nonneg d4.2.1.1
    have e2:(g*gt v i+c).tdiv 1000000000=(g*gt v i+c) / 1000000000:=Int.tdiv_eq_ediv_of_nonneg d4.2.1.1
    have hij:j+i < o.length:=by omega
    repeat' (first|refine gQ ?_|refine bG rfl (fun h=>?_) (fun h=>?_)|refine bI rfl rfl (fun h=>?_) (fun h=>?_)|fail)
    ·have hs:=xP (y:=gt o ((i:Int)+(j:Int)) - b' - (g*gt v i+c) % 1000000000+1000000000) (b2:=1) dO hvl hij htk hdr (by omega) (by omega)
     rw [e1,e2]
     refine aK (v.length - (i+1)) _ _ _ (by first|omega|(simp only [List.length_append,List.length_cons,List.length_nil];omega)) aT aJ aI (⟨i+1,_,1,_,rfl,by omega,by rw [aY];exact hol,hs.1,by omega,d4.2.2,hs.2.1,hs.2.2.1,hs.2.2.2,rfl,rfl,rfl⟩)
    ·have hs:=xP (y:=gt o ((i:Int)+(j:Int)) - b' - (g*gt v i+c) % 1000000000) (b2:=0) dO hvl hij htk hdr (by omega) (by omega)
     rw [e1,e2]
     refine aK (v.length - (i+1)) _ _ _ (by first|omega|(simp only [List.length_append,List.length_cons,List.length_nil];omega)) aT aJ aI (⟨i+1,_,0,_,rfl,by omega,by rw [aY];exact hol,hs.1,by omega,d4.2.2,hs.2.1,hs.2.2.1,hs.2.2.2,rfl,rfl,rfl⟩)
   ·obtain rfl:i=v.length:=by omega
    have d3:=dO.gt ((j:Int)+(v.length:Int))
    rw [List.take_length] at hvl
    obtain ⟨hx,hD,hset⟩:=aHB dU dO ⟨dv,tv⟩ (by omega) (by omega) (by omega) hlt hvl hdr hgq hgd
    have hj1:j < u.length:=by omega
    have hj2:j < qs.length:=by omega
    have kg:(g+1)*val v=g*val v+val v:=by rw [Int.add_mul,Int.one_mul]
    have hgq':val (u.drop j) < (g+1)*val v:=hgq
    have htk2:∀y,(st o ((j:Int)+(v.length:Int)) y).take j=u.take j:=fun y=>by rw [jC,List.take_set_of_le (by omega)];exact htk
    have hnn:=aV ((dO.drop j).take v.length)
    repeat' (first|refine gQ ?_|refine bG rfl (fun h=>?_) (fun h=>?_)|refine bI rfl rfl (fun h=>?_) (fun h=>?_)|fail)
    ·have hx1:gt o ((j:Int)+(v.length:Int)) - b' - c= -1:=by omega
     rw [hx1] at hD ⊢
     have h9:(-1:Int)+1000000000=999999999:=rfl
     rw [h9]
     obtain ⟨o1,ho1⟩:∃o1,st o ((j:Int)+(v.length:Int)) 999999999=o1:=⟨_,rfl⟩
     rw [ho1]
     have ho2:o1=o.set (j+v.length) 999999999:=by rw [←ho1,jC]
     have hl1:o1.length=L:=by rw [ho2,List.length_set];exact hol
     have dO1:Dig o1:=by rw [ho2];exact dO.set _ (by omega)
     have htk1:o1.take j=u.take j:=by rw [←ho1];exact htk2 _
     refine aU [4,6,7,8,9,10,12,200] rfl (fun k G M I=>∃(i:Nat) (o2:List Int) (c3:Int),k=v.length - i∧i≤v.length∧o2.length=L∧Dig o2∧(0≤c3∧c3≤1)∧o2.take j=u.take j∧o2.drop (j+i)=o1.drop (j+i)∧val ((o2.drop j).take i)+1000000000 ^ i*c3=val ((o1.drop j).take i)+val (v.take i)∧G=[(20, .int .u32 c3),(201, .int .i64 i)]∧M= .blk bU (recs eG o2++tl) 113:: .blk bq (recs eG qs) 113::M0∧I=aN (some ⟨bv,0,none⟩) (recs eG v)::I0) (v.length) _ _ _ aT aJ aI (⟨0,o1,0,rfl,by omega,hl1,dO1,by omega,htk1,rfl,by simp [val],rfl,rfl,rfl⟩) ?_
     rintro k G M I ⟨i,o2,c3,rfl,hi,hol2,dO2,hc3,htk3,hdr3,hvl3,rfl,rfl,rfl⟩
     by_cases hin3:i < v.length
     ·have f2:=dv.gt i
      have f3:=dO2.gt ((i:Int)+(j:Int))
      have hij3:j+i < o2.length:=by omega
      repeat refine gQ ?_
      (repeat refine aL ?_);refine dW [0,1,2,3,4,5,6,7,8,9,10,11,12,13] [0,0,0,0,0,0,0,0,0,0,0,0,0,0] mixed (by kernel_rfl) ?_
      repeat' (first|refine gQ ?_|refine bG rfl (fun h=>?_) (fun h=>?_)|refine bI rfl rfl (fun h=>?_) (fun h=>?_)|fail)
      ·have hs:=aAZ (y:=gt o2 ((i:Int)+(j:Int))+gt v i+c3 - 1000000000) (c3:=1) dO2 hvl3 hij3 htk3 hdr3 (by omega) (by omega)
       refine aK (v.length - (i+1)) _ _ _ (by first|omega|(simp only [List.length_append,List.length_cons,List.length_nil];omega)) aT aJ aI (⟨i+1,_,1,rfl,by omega,by rw [aY];exact hol2,hs.1,by omega,hs.2.1,hs.2.2.1,hs.2.2.2,rfl,rfl,rfl⟩)
      ·have hs:=aAZ (y:=gt o2 ((i:Int)+(j:Int))+gt v i+c3) (c3:=0) dO2 hvl3 hij3 htk3 hdr3 (by omega) (by omega)
       refine aK (v.length - (i+1)) _ _ _ (by first|omega|(simp only [List.length_append,List.length_cons,List.length_nil];omega)) aT aJ aI (⟨i+1,_,0,rfl,by omega,by rw [aY];exact hol2,hs.1,by omega,hs.2.1,hs.2.2.1,hs.2.2.2,rfl,rfl,rfl⟩)
     ·obtain rfl:i=v.length:=by omega
      rw [List.take_length] at hvl3
      obtain ⟨rfl,hgo,hD3,hlt3,hnn3⟩:=aGF dO dO2 ⟨dv,tv⟩ (by omega) (by omega) ho2 hvl3 hc3 hdr3 hD hset hgd
      have f3:=dO2.gt ((j:Int)+(v.length:Int))
      repeat refine gQ ?_
      have h10:((999999999:Int)+1).tmod 1000000000=0:=by decide
      rw [hgo,h10]
      have hD2:val ((st o2 ((j:Int)+(v.length:Int)) 0).drop j)=val (u.drop j) - (g - 1)*val v:=by rw [jC];exact hD3
      refine aK (j) _ _ _ (by first|omega|(simp only [List.length_append,List.length_cons,List.length_nil];omega)) aT aJ aI (⟨j,_,_,_,by omega,rfl,rfl,by rw [aY];exact hol2,by rw [aY];exact hql,by rw [jC];exact dO2.set _ (by omega),by rw [qQ];exact dQ.set _ (by omega),xU hval hj1 (by rw [aY];omega) hj2 (by rw [jC,List.take_set_of_le (by omega)];exact htk3) hD2,by rw [hD2];exact hlt3,rfl,rfl,rfl⟩)
    ·have hx0:gt o ((j:Int)+(v.length:Int)) - b' - c=0:=by omega
     rw [hx0] at hD ⊢
     have hD2:val ((st o ((j:Int)+(v.length:Int)) 0).drop j)=val (u.drop j) - g*val v:=by rw [jC,hset,hD]
     refine aK (j) _ _ _ (by first|omega|(simp only [List.length_append,List.length_cons,List.length_nil];omega)) aT aJ aI (⟨j,_,_,_,by omega,rfl,rfl,by rw [aY];exact hol,by rw [aY];exact hql,by rw [jC];exact dO.set _ (by omega),by rw [qQ];exact dQ.set _ hg,xU hval hj1 (by rw [aY];omega) hj2 (htk2 0) hD2,by rw [hD2];omega,rfl,rfl,rfl⟩)
 ·obtain rfl:k=0:=by omega
  rw [List.drop_zero,Int.pow_zero,Int.one_mul,vu,vv] at hval
  rw [List.drop_zero] at hlt
  have hn0:0 < n*f:=by
   have:=aV dU
   rw [vv] at hlt
   omega
  obtain ⟨hru,hrq,hrl⟩:=aJQ (m:=m) (n:=n) dU dQ hval (by rw [←vv];exact hlt) hf1 hn0
  have hcq:(gr (m / n)).length≤u0.length+1 - v.length:=by
   rw [←mG (n:=m / n) dQ hrq,←hql]
   exact uV
  replace hrl:(gr ((m % n)*f)).length≤100000000000:=by
   have h1:=(tF (m:=m % n) hf1 hf2).2
   have h2:(gr (m % n)).length≤(gr m).length:=jF (Nat.mod_le _ _)
   rw [ha] at h2
   omega
  have hut:val (u.take v.length)=val u:=aFH dU (by omega) hlt (jZ dv)
  repeat refine gQ ?_
  refine aJO (M':=M0) (I':=aN (some ⟨bU,0,none⟩) (recs eG (u.take v.length))::aN (some ⟨bq,0,none⟩) (recs eG qs)::I0) (fun w hw=>?_) ?_
  ·have h1:=(hw.freezeB (b:=bU) (M':= .blk bq (recs eG qs) 113::M0) uJ).freezeB (b:=bq) (M':=M0) uJ
   have h2:=(h1.sl (a:=some ⟨bU,0,none⟩) (cs:=recs eG u++tl) (by simp)).take v.length
   have e:(recs eG u++tl).take v.length=recs eG (u.take v.length):=by
    rw [List.take_append_of_le_length (by rw [kP,List.length_map];omega),wE]
   rw [e] at h2
   exact (h1.add (φ:=aN (some ⟨bU,0,none⟩) (recs eG (u.take v.length))) ⟨h2⟩).inc aI
  refine aC rfl (fun _=>wZ (e:=113) (sz:=1) 0 v.length v.length rfl (.inl ⟨rfl,rfl⟩) (.inr ⟨_,_,_,rfl,rfl,rfl⟩) (by omega) (by omega) (by omega)) rfl rfl ?_
  rw [cut0 bU c2,Nat.sub_zero]
  repeat refine gQ ?_
  (refine bZ rfl (oI (l:=u.take v.length) (n:=v.length) (c:=c2) (q:=some ⟨bU,0,none⟩) (by rw [List.length_take];omega) (by omega) (by rw [List.length_take];omega) aH) rfl rfl ?_;rintro _ _ _ ⟨rfl,rfl,rfl⟩;refine ⟨okK,?_⟩)
  rw [mG (n:=(m % n)*f) (dU.take v.length) (by rw [hut];exact hru)]
  repeat refine gQ ?_
  (refine dS rfl (zZ (n:=(m % n)*f) (d:=f) hrl ⟨hf1,hf2⟩ aH) ?_;rintro _ _ _ ⟨rfl,p5,c5,hc5,ho5,rfl,rfl⟩;refine cK ?_)
  rw [Nat.mul_div_cancel _ hf1] at hc5
  rw [Nat.mul_div_cancel _ hf1]
  repeat refine gQ ?_
  (refine dS rfl (oI (l:=qs) (n:=u0.length+1 - v.length) (c:=u0.length+1 - v.length) (q:=some ⟨bq,0,none⟩) (by omega) (by omega) (by omega) aH) ?_;rintro _ _ _ ⟨rfl,rfl,rfl⟩;refine cK ?_)
  rw [mG (n:=m / n) dQ hrq]
  repeat refine gQ ?_
  refine eY [4,5] (by first|exact .inl rfl|exact .inr rfl) rfl rfl rfl _ _ aJ aI (⟨rfl,some ⟨bq,0,none⟩,_,p5,c5,⟨hcq, .inl (Ok.mk _ _)⟩,⟨hc5, .inl ho5⟩,rfl,rfl⟩)
end
end Go.Proofs.Ytejbgkajdomgcaa
namespace Go.Proofs.Ytejbgkajdomgcaa
open Go Go.Fx
theorem aMJ {x y:Int} (h:x < y):kL x y= -1:=by unfold kL;rw [if_pos h]
theorem aMO {x y:Int} (h:¬x < y):0≤kL x y∧kL x y≤1:=by unfold kL;rw [if_neg h];split <;>omega
def QrP (a b:Nat) (M0:List Ent) (I0:List aO) (v:Value) (M:List Ent) (I:List aO):Prop:=
 M0=M∧∃p1 c1 p2 c2,uE p1 a c1∧uE p2 b c2∧v= .tuple #[.slice p1 (gr a).length c1, .slice p2 (gr b).length c2]∧I=aN p1 (recs eG (gr a))::aN p2 (recs eG (gr b))::I0
section
variable {X:List Nat} {w0:World} {M0:List Ent} {I0:List aO}
theorem aEJ {p q:Option Addr} {m n cp cq:Nat} (hm:(gr m).length≤50000000000) (hn0:(gr n).length≤50000000000) (hn:0 < n) (hcp:uE p m cp) (hp:aN p (recs eG (gr m))∈I0) (hq:aN q (recs eG (gr n))∈I0):
  CD Try.prog 80 [.slice p (gr m).length cp, .slice q (gr n).length cq] X w0 M0 I0 (QrP (m / n) (m % n) M0 I0):=by
 have hC:=aCN (X:=X) (w0:=w0) (M0:=M0) (I0:=I0) (p:=p) (q:=q) (m:=m) (n:=n) (cp:=cp) (cq:=cq) (by omega) (by omega) hp hq
 have hW1:=uL (X:=X) (w0:=w0) (M0:=M0) (I0:=I0) (q:=p) (n:=m) (c:=cp) (by omega) hp
 have hW2:=uL (X:=X) (w0:=w0) (M0:=M0) (I0:=I0) (q:=q) (n:=n) (c:=cq) (by omega) hq
 by_cases hlt:m < n
 ·have e1:m / n=0:=Nat.div_eq_of_lt hlt
  have e2:m % n=m:=Nat.mod_eq_of_lt hlt
  rw [e1,e2]
  unfold QrP
  simp only [eF]
  rw [aMJ (by omega)] at hC
  have hO:uE p m cp:=hcp
  refine aX Try.func80 rfl Try.ntmps80 rfl ?_
  repeat refine gQ ?_
  (refine dS rfl (hC) ?_;rintro _ _ _ ⟨rfl,rfl,rfl⟩;refine cK ?_)
  repeat refine gQ ?_
  refine rC none ?_
  refine eY [4,5] (by first|exact .inl rfl|exact .inr rfl) rfl rfl rfl _ _ aJ aI (⟨rfl,none,0,p,cp,⟨by rw [eF];simp, .inr ⟨by rw [eF];rfl,rfl⟩⟩,hO,rfl,rfl⟩)
 ·have hcv:=aMO (x:=(m:Int)) (y:=(n:Int)) (by omega)
  generalize kL (m:Int) (n:Int)=cv at*
  have e1:((m:Int)).tdiv (n:Int)=((m / n:Nat):Int):=by rw [Int.tdiv_eq_ediv_of_nonneg (by omega),Int.natCast_ediv]
  have e2:((m:Int)).tmod (n:Int)=((m % n:Nat):Int):=by rw [Int.tmod_eq_emod_of_nonneg (by omega),Int.natCast_emod]
  have hmn:(gr n).length≤(gr m).length:=jF (by omega)
  by_cases hw:(gr m).length≤2
  ·have hw2:(gr n).length≤2:=by omega
   rw [if_pos hw,dX hw] at hW1
   rw [if_pos hw2,dX hw2] at hW2
   have hb:m < 1000000000000000000:=by
    have:=jZ (dF m)
    rw [dR] at this
    have h2:(1000000000:Int) ^ (gr m).length≤1000000000 ^ 2:=kQ hw
    omega
   have hS1:=fun M0 I0=>mZ (X:=X) (w0:=w0) (M0:=M0) (I0:=I0) (n:=m / n) (Nat.le_trans (Nat.div_le_self _ _) (by omega))
   have hS2:=fun M0 I0=>mZ (X:=X) (w0:=w0) (M0:=M0) (I0:=I0) (n:=m % n) (Nat.le_trans (Nat.mod_le _ _) (by omega))
   refine aX Try.func80 rfl Try.ntmps80 rfl ?_
   repeat refine gQ ?_
   (refine dS rfl (hC) ?_;rintro _ _ _ ⟨rfl,rfl,rfl⟩;refine cK ?_)
   repeat refine gQ ?_
   (refine dS rfl (hW1) ?_;rintro _ _ _ ⟨rfl,rfl,rfl⟩;refine cK ?_)
   repeat refine gQ ?_
   (refine dS rfl (hW2) ?_;rintro _ _ _ ⟨rfl,rfl,rfl⟩;refine cK ?_)
   repeat refine gQ ?_
   (repeat refine aL ?_);refine dW [0,1,2,4,5,6,3,7,8,9] [2,2,1,2,2,1,0,0,0,0] mixed (by kernel_rfl) ?_
   repeat refine gQ ?_
   rw [e1,e2]
   (refine dS rfl (hS1 _ _) ?_;rintro _ _ _ ⟨rfl,q1,c1,rfl,ho1,rfl⟩;refine cK ?_)
   repeat refine gQ ?_
   (refine dS rfl (hS2 _ _) ?_;rintro _ _ _ ⟨rfl,q2,c2,rfl,ho2,rfl⟩;refine cK ?_)
   repeat refine gQ ?_
   refine eY [4,5] (by first|exact .inl rfl|exact .inr rfl) rfl rfl rfl _ _ aJ aI (⟨rfl,q1,c1,q2,c2,ho1,ho2,rfl,rfl⟩)
  ·rw [if_neg hw,bQ hw] at hW1
   have hn1:0 < (gr n).length:=List.length_pos_iff.2 (fun e=>by have:=oW.1 e;omega)
   by_cases h1:(gr n).length=1
   ·have hnb:n < 1000000000:=by
     have:=jZ (dF n)
     rw [dR,h1] at this
     omega
    have hgo:=qK hn hnb
    have hS:=fun M0 I0 hq=>zZ (X:=X) (w0:=w0) (M0:=M0) (I0:=I0) (q:=p) (n:=m) (c:=cp) (d:=n) (by omega) ⟨hn,hnb⟩ hq
    have hS2:=fun M0 I0=>mZ (X:=X) (w0:=w0) (M0:=M0) (I0:=I0) (n:=m % n) (Nat.le_trans (Nat.le_of_lt (Nat.mod_lt _ hn)) (by omega))
    have hgt:gt (gr n) 0=(n:Int):=by rw [hgo];rfl
    have hmr:m % n < n:=Nat.mod_lt _ hn
    refine aX Try.func80 rfl Try.ntmps80 rfl ?_
    repeat refine gQ ?_
    (refine dS rfl (hC) ?_;rintro _ _ _ ⟨rfl,rfl,rfl⟩;refine cK ?_)
    repeat refine gQ ?_
    (refine dS rfl (hW1) ?_;rintro _ _ _ ⟨rfl,rfl,rfl⟩;refine cK ?_)
    repeat refine gQ ?_
    (refine dS rfl (hW2) ?_;rintro _ _ _ ⟨rfl,rfl,rfl⟩;refine cK ?_)
    repeat refine gQ ?_
    rw [hgt]
    (refine dS rfl (hS _ _ aH) ?_;rintro _ _ _ ⟨rfl,p1,c1,hc1,ho1,rfl,rfl⟩;refine cK ?_)
    repeat refine gQ ?_
    (refine dS rfl (hS2 _ _) ?_;rintro _ _ _ ⟨rfl,q2,c2,rfl,ho2,rfl⟩;refine cK ?_)
    repeat refine gQ ?_
    refine eY [4,5] (by first|exact .inl rfl|exact .inr rfl) rfl rfl rfl _ _ aJ aI (⟨rfl,p1,c1,q2,c2,⟨hc1, .inl ho1⟩,ho2,rfl,rfl⟩)
   ·have hL:=fun M0 I0 hp hq=>aMS (X:=X) (w0:=w0) (M0:=M0) (I0:=I0) (p:=p) (q:=q) (m:=m) (n:=n) (cp:=cp) (cq:=cq) hm (by omega) (by omega) hp hq
    refine aX Try.func80 rfl Try.ntmps80 rfl ?_
    repeat refine gQ ?_
    (refine dS rfl (hC) ?_;rintro _ _ _ ⟨rfl,rfl,rfl⟩;refine cK ?_)
    repeat refine gQ ?_
    (refine dS rfl (hW1) ?_;rintro _ _ _ ⟨rfl,rfl,rfl⟩;refine cK ?_)
    repeat refine gQ ?_
    (refine dS rfl (hW2) ?_;rintro _ _ _ ⟨rfl,rfl,rfl⟩;refine cK ?_)
    repeat refine gQ ?_
    (refine dS rfl (hL _ _ aH aH) ?_;rintro _ _ _ ⟨rfl,p1,c1,p2,c2,ho1,ho2,rfl,rfl⟩;refine cK ?_)
    repeat refine gQ ?_
    refine eY [4,5] (by first|exact .inl rfl|exact .inr rfl) rfl rfl rfl _ _ aJ aI (⟨rfl,p1,c1,p2,c2,ho1,ho2,rfl,rfl⟩)
end
end Go.Proofs.Ytejbgkajdomgcaa
namespace Go.Proofs.Ytejbgkajdomgcaa
open Go Go.Fx
section
variable {X:List Nat} {w0:World} {M0:List Ent} {I0:List aO}
end
end Go.Proofs.Ytejbgkajdomgcaa
namespace Go.Proofs.Ytejbgkajdomgcaa
open Go Go.Fx
section
variable {X:List Nat} {w0:World} {M0:List Ent} {I0:List aO}
theorem aPJ {u v:Value} {y z:Int} {k0 m:Nat} (hk:k0≤500000000000) (hm:m≤500000000000) (hu:qR u y k0∈I0) (hv:qR v z m∈I0):CD Try.prog 65 [u,v] X w0 M0 I0 (fun v M I=>M0=M∧I=qR v (Int.gcd y z) (k0+m)::I0):=by
 refine nU hu (fun q cq e hc hy=>?_)
 subst e
 refine nU (List.Mem.tail _ hv) (fun q' cq' e hc' hz=>?_)
 subst e
 have hy2:y.natAbs≤2 ^ (k0+m):=Nat.le_trans hy (Nat.pow_le_pow_right (by decide) (by omega))
 have hz2:z.natAbs≤2 ^ (k0+m):=Nat.le_trans hz (Nat.pow_le_pow_right (by decide) (by omega))
 unfold iv
 refine aX Try.func65 rfl Try.ntmps65 rfl ?_
 refine lU ?_
 refine tyX rfl (fun b=>?_)
 refine tyX rfl (fun b2=>?_)
 refine iL (fun b3=>?_)
 repeat refine gQ ?_
 (repeat refine aL ?_);refine kG 3 [0,2,1,3,4,5] [1,1,0,0,0,0] mixed (by kernel_rfl) ?_
 repeat refine gQ ?_
 refine iM rfl (kD (c:=cq) hy (by omega) aH) ?_
 repeat refine gQ ?_
 refine iM rfl (kD (c:=cq') hz (by omega) aH) ?_
 repeat refine gQ ?_
 refine aU [4] rfl (fun k G M I=>∃(a b:Nat) (pa pb:Option Addr) (ca cb:Nat),k=b∧a≤2 ^ (k0+m)∧b≤2 ^ (k0+m)∧uE pa a ca∧uE pb b cb∧Nat.gcd a b=Nat.gcd y.natAbs z.natAbs∧G=[(5, .slice pa (gr a).length ca),(6, .slice pb (gr b).length cb)]∧M= .blk b3 [.bool false, .slice none 0 0] 100::M0∧I=aN pa (recs eG (gr a))::aN pb (recs eG (gr b))::I0) (z.natAbs) _ _ _ aT aJ aI (⟨y.natAbs,z.natAbs,q,q',cq,cq',rfl,hy2,hz2,hc,hc',rfl,rfl,rfl,rfl⟩) ?_
 rintro k G M I ⟨a,b',pa,pb,ca,cb,rfl,ha,hb,oa,ob,hg,rfl,rfl,rfl⟩
 have la:=dJ ha
 have lb:=dJ hb
 have hW1:=fun M0 I0=>uL (X:=X) (w0:=w0) (M0:=M0) (I0:=I0) (q:=pa) (n:=a) (c:=ca) (by omega)
 have hW2:=fun M0 I0=>uL (X:=X) (w0:=w0) (M0:=M0) (I0:=I0) (q:=pb) (n:=k) (c:=cb) (by omega)
 by_cases hk0:k=0
 ·subst hk0
  have hl0:(gr 0).length=0:=by rw [eF];rfl
  rw [Nat.gcd_zero_right] at hg
  have hz:(Int.gcd y z:Int)=sg False a:=by unfold sg;rw [if_neg (fun h=>h),hg];rfl
  repeat refine gQ ?_
  (refine dS rfl (tO (a:=gr a) (by omega) oa.2 aH) ?_;rintro _ _ _ ⟨rfl,q',c',rfl,rfl⟩;refine cK ?_)
  refine qZ (fun w hw=>And.intro (hw.rowLe (List.Mem.head _)) ((hw.rowS (List.Mem.head _)).2.imp id And.right)) (fun hc'=>?_)
  refine kF uJ ?_
  repeat refine gQ ?_
  rw [hz]
  have hMd:=fun M0 I0=>lH (X:=X) (w0:=w0) (M0:=M0) (I0:=I0) (p:=False) (q:=q') (c:=c') (k:=k0+m) (by omega) hc' ha
  simp only [bQ (show ¬False from id)] at hMd
  (refine bZ rfl (hMd _ _ aH) rfl rfl ?_;rintro _ _ _ ⟨rfl,rfl⟩;refine ⟨okK,?_⟩;refine jR (List.Mem.head _) (fun q2 c2 e__ hc2 hz2=>?_);subst e__)
  unfold iv
  repeat refine gQ ?_
  refine kT (cs:=[.bool (B (sg False a < 0)), .slice q2 (gr (sg False a).natAbs).length c2]) (.inl rfl) rfl rfl aH rfl _ _ aJ aI ⟨rfl,rfl⟩
 ·have hlk:0 < (gr k).length:=List.length_pos_iff.2 (fun e=>hk0 (oW.1 e))
  by_cases hw:(gr a).length≤2∧(gr k).length≤2
  ·have hb9:∀t:Nat,(gr t).length≤2→t < 1000000000000000000:=fun t ht=>by
    have:=jZ (dF t)
    rw [dR] at this
    have h2:(1000000000:Int) ^ (gr t).length≤1000000000 ^ 2:=kQ ht
    omega
   have a9:=hb9 a hw.1
   have k9:=hb9 k hw.2
   rw [if_pos hw.1,dX hw.1] at hW1
   rw [if_pos hw.2,dX hw.2] at hW2
   repeat refine gQ ?_
   refine iM rfl (hW1 _ _ aH) ?_
   repeat refine gQ ?_
   refine iM rfl (hW2 _ _ aH) ?_
   repeat refine gQ ?_
   refine aU [4] rfl (fun k G M I=>∃(x x2:Nat),k=x2∧x < 1000000000000000000∧x2 < 1000000000000000000∧x≤2 ^ (k0+m)∧x2≤2 ^ (k0+m)∧Nat.gcd x x2=Nat.gcd y.natAbs z.natAbs∧G=[(7, .int .u64 x),(9, .int .u64 x2)]∧M= .blk b3 [.bool false, .slice none 0 0] 100::M0∧I0=I) (k) _ _ _ aT aJ aI (⟨a,k,rfl,a9,k9,ha,hb,hg,rfl,rfl,rfl⟩) ?_
   rintro k G M I ⟨x,x2,rfl,hx9,hx29,hx,hx2,hxg,rfl,rfl,rfl⟩
   by_cases hx0:k=0
   ·subst hx0
    rw [Nat.gcd_zero_right] at hxg
    have hz:(Int.gcd y z:Int)=sg False x:=by unfold sg;rw [if_neg (fun h=>h),hxg];rfl
    repeat refine gQ ?_
    (refine dS rfl (mZ (n:=x) (by omega)) ?_;rintro _ _ _ ⟨rfl,q',c',rfl,hc',rfl⟩;refine cK ?_)
    rw [hz]
    have hMd:=fun M0 I0=>lH (X:=X) (w0:=w0) (M0:=M0) (I0:=I0) (p:=False) (q:=q') (c:=c') (k:=k0+m) (by have:=dJ hx;omega) hc' hx
    simp only [bQ (show ¬False from id)] at hMd
    (refine bZ rfl (hMd _ _ aH) rfl rfl ?_;rintro _ _ _ ⟨rfl,rfl⟩;refine ⟨okK,?_⟩;refine jR (List.Mem.head _) (fun q2 c2 e__ hc2 hz2=>?_);subst e__)
    unfold iv
    repeat refine gQ ?_
    refine kT (cs:=[.bool (B (sg False x < 0)), .slice q2 (gr (sg False x).natAbs).length c2]) (.inl rfl) rfl rfl aH rfl _ _ aJ aI ⟨rfl,rfl⟩
   ·have e2:((x:Int)).tmod (k:Int)=((x % k:Nat):Int):=by rw [Int.tmod_eq_emod_of_nonneg (by omega),Int.natCast_emod]
    have hmod:=Nat.mod_lt x (show k>0 by omega)
    have hg2:Nat.gcd k (x % k)=Nat.gcd y.natAbs z.natAbs:=by rw [←hxg,Nat.gcd_comm x k,Nat.gcd_rec k x,Nat.gcd_comm]
    repeat refine gQ ?_
    (repeat refine aL ?_);refine dW [0,1,2,3,4,5] [0,0,0,0,0,0] mixed (by kernel_rfl) ?_
    repeat refine gQ ?_
    rw [e2]
    refine aK (x % k) _ _ _ (by first|omega|(simp only [List.length_append,List.length_cons,List.length_nil];omega)) aT aJ aI (⟨k,x % k,rfl,by omega,by omega,hx2,by omega,hg2,rfl,rfl,rfl⟩)
  ·have hO:=fun M0 I0=>aEJ (X:=X) (w0:=w0) (M0:=M0) (I0:=I0) (p:=pa) (q:=pb) (m:=a) (n:=k) (cp:=ca) (cq:=cb) (by omega) (by omega) (by omega) oa
   have hmod:=Nat.mod_lt a (show k>0 by omega)
   have hg2:Nat.gcd k (a % k)=Nat.gcd y.natAbs z.natAbs:=by rw [←hg,Nat.gcd_comm a k,Nat.gcd_rec k a,Nat.gcd_comm]
   by_cases hw1:(gr a).length≤2
   ·have hw2:¬(gr k).length≤2:=fun h=>hw ⟨hw1,h⟩
    rw [if_pos hw1,dX hw1] at hW1
    rw [if_neg hw2,bQ hw2] at hW2
    repeat refine gQ ?_
    refine iM rfl (hW1 _ _ aH) ?_
    repeat refine gQ ?_
    refine iM rfl (hW2 _ _ aH) ?_
    repeat refine gQ ?_
    (refine dS rfl (hO _ _ aH aH) ?_;rintro _ _ _ ⟨rfl,p1,c1,p2,c2,ho1,ho2,rfl,rfl⟩;refine cK ?_)
    repeat refine gQ ?_
    refine aK (a % k) _ _ _ (by first|omega|(simp only [List.length_append,List.length_cons,List.length_nil];omega)) aT aJ aI (⟨k,a % k,pb,p2,cb,c2,rfl,hb,by omega,ob,ho2,hg2,rfl,rfl,rfl⟩)
   ·rw [if_neg hw1,bQ hw1] at hW1
    repeat refine gQ ?_
    refine iM rfl (hW1 _ _ aH) ?_
    repeat refine gQ ?_
    refine iM rfl (hW2 _ _ aH) ?_
    repeat refine gQ ?_
    (refine dS rfl (hO _ _ aH aH) ?_;rintro _ _ _ ⟨rfl,p1,c1,p2,c2,ho1,ho2,rfl,rfl⟩;refine cK ?_)
    repeat refine gQ ?_
    refine aK (a % k) _ _ _ (by first|omega|(simp only [List.length_append,List.length_cons,List.length_nil];omega)) aT aJ aI (⟨k,a % k,pb,p2,cb,c2,rfl,hb,by omega,ob,ho2,hg2,rfl,rfl,rfl⟩)
end
end Go.Proofs.Ytejbgkajdomgcaa
namespace Go.Proofs.Ytejbgkajdomgcaa
open Go Go.Fx
section
variable {X:List Nat} {w0:World} {M0:List Ent} {I0:List aO}
end
end Go.Proofs.Ytejbgkajdomgcaa
