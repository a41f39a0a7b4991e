/- fiducialref01: pair, Gcd fiducialref01: Divide fiducialref02: reduced, Valid, Value, Whole -/
import Derived.Test.YtgpkjcmipiodcaaGreatZwap
import Derived.Test.YtgpkjcmipiodcaaGreatZwam
import Derived.Test.YtgpkjcmipiodcaaGreatZwan
import Derived.Test.YtgpkjcmipiodcaaGreatZwao
import Derived.Test.YtgpkjcmipiodcaaGreatZwag
set_option linter.unusedSimpArgs false
set_option linter.unusedVariables false
set_option maxRecDepth 100000
set_option maxHeartbeats 4000000
namespace Go.Proofs.YtgpkjcmipiodcaaGreat
open Go Go.Fx
theorem aRW {t:Nat} (ht:(gr t).length≤2):t < 1000000000000000000:=by
 have:=jG (bK t)
 rw [bT] at this
 have h2:(1000000000:Int) ^ (gr t).length≤1000000000 ^ 2:=oG ht
 omega
theorem aTI {n:Nat} (h:(gr n).length≤2):gt (gr n) 1*1000000000+gt (gr n) 0=(n:Int):=by
 have hv:=bT n
 match hg:gr n,h with
 |[],_=>rw [hg] at hv;simp [val] at hv;rw [←hv];rfl
 |[a],_=>rw [hg] at hv;simp [val] at hv;rw [←hv];simp [gt]
 |[a,b],_=>rw [hg] at hv;simp [val] at hv;rw [←hv];simp [gt];omega
section
variable {X:List Nat} {w0:World} {M0:List Ent} {I0:List aV}
theorem aON {q:Option Addr} {n c:Nat} (hl:(gr n).length≤2) (hq:aI q (recs eG (gr n))∈I0):
  CD Tryz.prog 165 [.slice q (gr n).length c] X w0 M0 I0 (fun v M I=>M0=M∧I0=I∧v= .int .u64 (n:Int)):=by
 have d0:=(bK n).gt 0
 have d1:=(bK n).gt 1
 rw [←aTI hl]
 refine aZ Tryz.func165 rfl Tryz.ntmps165 rfl ?_
 repeat' (first|refine aW ?_|refine aQ rfl (fun h=>?_) (fun h=>?_)|refine aR rfl rfl (fun h=>?_) (fun h=>?_)|fail)
 refine dP rfl (qP (l:=gr n) (i:=1) rfl (by omega) aA (bK n)) ?_
 repeat' (first|refine aW ?_|refine aQ rfl (fun h=>?_) (fun h=>?_)|refine aR rfl rfl (fun h=>?_) (fun h=>?_)|fail)
 refine dP rfl (qP (l:=gr n) (i:=0) rfl (by omega) aA (bK n)) ?_
 repeat' (first|refine aW ?_|refine aQ rfl (fun h=>?_) (fun h=>?_)|refine aR rfl rfl (fun h=>?_) (fun h=>?_)|fail)
 refine gD rfl rfl (⟨rfl,rfl,rfl⟩)
theorem aOO {u v:Value} {y z:Int} {k0 m:Nat} (hk:k0≤500000000000) (hm:m≤500000000000) (hu:iB u y k0∈I0) (hv:iB v z m∈I0):CD Tryz.prog 116 [u,v] X w0 M0 I0 (fun v M I=>M0=M∧I=iB v (Int.gcd y z) (k0+m)::I0):=by
 refine dC hu (fun q cq e hc hy=>?_)
 subst e
 refine dC (List.Mem.tail _ hv) (fun q' cq' e hc' hz=>?_)
 subst e
 have hy2:y.natAbs≤2 ^ (k0+m):=Nat.le_trans hy (Nat.pow_le_pow_right (by decide) (by omega))
 have hz2:z.natAbs≤2 ^ (k0+m):=Nat.le_trans hz (Nat.pow_le_pow_right (by decide) (by omega))
 have hMd:=fun (a:Nat) (e:(Int.gcd y z:Int)=a) (ha:a≤2 ^ (k0+m)) (q:Option Addr) (l:List Int) (h0:l.length≤1000000000000) (c2:Nat) (h1:l.length≤c2) (h2:Ok q∨(l.length=0∧c2=0)) (h3:Dig l) (h4:val l=(a:Int)) M0 I0=>tZ (X:=X) (w0:=w0) (M0:=M0) (I0:=I0) (p:=False) (n:=a) (q:=q) (l:=l) (c:=c2) (k:=k0+m) h0 h1 h2 h3 h4 ha
 simp only [bF (show ¬False from id)] at hMd
 have hsg:∀a:Nat,sg False a=(a:Int):=fun a=>by unfold sg;rw [if_neg (fun h=>h)]
 unfold iv
 refine aP Tryz.func116 rfl Tryz.ntmps116 rfl ?_
 refine fE ?_
 refine fG rfl (fun b=>?_)
 refine fG rfl (fun b2=>?_)
 refine bG (fun b3=>?_)
 repeat' (first|refine aW ?_|refine aQ rfl (fun h=>?_) (fun h=>?_)|refine aR rfl rfl (fun h=>?_) (fun h=>?_)|fail)
 (repeat refine aJ ?_);refine aO 3 [0,3,1,2,4,5,6,7] [1,1,0,1,0,0,0,0] mixed (by kernel_rfl) ?_
 repeat' (first|refine aW ?_|refine aQ rfl (fun h=>?_) (fun h=>?_)|refine aR rfl rfl (fun h=>?_) (fun h=>?_)|fail)
 (refine aU rfl (lT hy (by omega) hc aA) ?_;rintro _ _ _ ⟨rfl,q3,c3,rfl,hc3,rfl⟩;refine aL ?_)
 repeat' (first|refine aW ?_|refine aQ rfl (fun h=>?_) (fun h=>?_)|refine aR rfl rfl (fun h=>?_) (fun h=>?_)|fail)
 (refine aU rfl (lT hz (by omega) hc' aA) ?_;rintro _ _ _ ⟨rfl,q4,c4,rfl,hc4,rfl⟩;refine aL ?_)
 repeat' (first|refine aW ?_|refine aQ rfl (fun h=>?_) (fun h=>?_)|refine aR rfl rfl (fun h=>?_) (fun h=>?_)|fail)
 refine kS [4] rfl (fun k G M I=>∃(a b:Nat) (pa pb:Option Addr) (ca cb:Nat),k=b∧a≤2 ^ (k0+m)∧b≤2 ^ (k0+m)∧rR pa a ca∧rR pb b cb∧Nat.gcd a b=Nat.gcd y.natAbs z.natAbs∧G=[(5, .slice pa (gr a).length ca),(6, .slice pb (gr b).length cb)]∧M= .blk b3 [.bool false, .slice none 0 0] 38::M0∧I=aI pa (recs eG (gr a))::aI pb (recs eG (gr b))::I0) (z.natAbs) (⟨y.natAbs,z.natAbs,q3,q4,c3,c4,rfl,hy2,hz2,hc3,hc4,rfl,rfl,rfl,rfl⟩) ?_
 rintro k G M I ⟨a,b',pa,pb,ca,cb,rfl,ha,hb,oa,ob,hg,rfl,rfl,rfl⟩
 have la:=dX ha
 have lb:=dX hb
 by_cases hk0:k=0
 ·subst hk0
  have hl0:(gr 0).length=0:=by rw [fO];rfl
  rw [Nat.gcd_zero_right] at hg
  have hz:(Int.gcd y z:Int)=(a:Int):=by rw [Int.gcd_eq_natAbs_gcd_natAbs,hg]
  have hM:=fun M0 I0=>hMd a hz ha pa (gr a) (by omega) ca oa.1 oa.2 (bK a) (bT a) M0 I0
  rw [hsg,←hz] at hM
  repeat' (first|refine aW ?_|refine aQ rfl (fun h=>?_) (fun h=>?_)|refine aR rfl rfl (fun h=>?_) (fun h=>?_)|fail)
  (refine aU rfl (hM _ _ aA) ?_;rintro _ _ _ ⟨rfl,rfl⟩;refine aL ?_;refine aX (List.Mem.head _) (fun q2 c2 e__ hc2 hz2=>?_);subst e__)
  unfold iv
  repeat' (first|refine aW ?_|refine aQ rfl (fun h=>?_) (fun h=>?_)|refine aR rfl rfl (fun h=>?_) (fun h=>?_)|fail)
  refine bA (cs:=[.bool (B ((Int.gcd y z:Int) < 0)), .slice q2 (gr (Int.gcd y z:Int).natAbs).length c2]) (.inl rfl) rfl rfl aA rfl _ _ aG aF ⟨rfl,rfl⟩
 ·have hlk:0 < (gr k).length:=List.length_pos_iff.2 (fun e=>hk0 (nD.1 e))
  by_cases hw:(gr a).length≤2∧(gr k).length≤2
  ·have a9:=aRW hw.1
   have k9:=aRW hw.2
   have hP1:=fun M0 I0=>aON (X:=X) (w0:=w0) (M0:=M0) (I0:=I0) (q:=pa) (n:=a) (c:=ca) hw.1
   have hP2:=fun M0 I0=>aON (X:=X) (w0:=w0) (M0:=M0) (I0:=I0) (q:=pb) (n:=k) (c:=cb) hw.2
   repeat' (first|refine aW ?_|refine aQ rfl (fun h=>?_) (fun h=>?_)|refine aR rfl rfl (fun h=>?_) (fun h=>?_)|fail)
   refine dP rfl (hP1 _ _ aA) ?_
   repeat' (first|refine aW ?_|refine aQ rfl (fun h=>?_) (fun h=>?_)|refine aR rfl rfl (fun h=>?_) (fun h=>?_)|fail)
   refine dP rfl (hP2 _ _ aA) ?_
   clear hlk la lb oa ob
   repeat' (first|refine aW ?_|refine aQ rfl (fun h=>?_) (fun h=>?_)|refine aR rfl rfl (fun h=>?_) (fun h=>?_)|fail)
   refine eO [4] rfl (fun k G M I=>∃(x x2:Nat) (xi xi2:Int),k=x2∧xi=x∧xi2=x2∧x < 1000000000000000000∧x2 < 1000000000000000000∧x≤2 ^ (k0+m)∧x2≤2 ^ (k0+m)∧Nat.gcd x x2=Nat.gcd y.natAbs z.natAbs∧G=[(9, .int .u64 xi),(10, .int .u64 xi2)]∧M= .blk b3 [.bool false, .slice none 0 0] 38::M0∧I0=I) (k) _ _ _ dS aG aF (⟨a,k,_,_,rfl,rfl,rfl,a9,k9,ha,hb,hg,rfl,rfl,rfl⟩) ?_
   rintro k G M I ⟨x,x2,xi,xi2,rfl,hxi,hxi2,hx9,hx29,hx,hx2,hxg,rfl,rfl,rfl⟩
   by_cases hx0:k=0
   ·subst hx0
    rw [Nat.gcd_zero_right] at hxg
    have hz:(Int.gcd y z:Int)=(x:Int):=by rw [Int.gcd_eq_natAbs_gcd_natAbs,hxg]
    have e1:=aDY (s:=xi) (by omega)
    have e2:=aDJ (s:=xi) (by omega)
    obtain ⟨s,hs⟩:∃s,s=xi % 1000000000:=⟨_,rfl⟩
    obtain ⟨t,ht⟩:∃t,t=xi / 1000000000:=⟨_,rfl⟩
    have hst:(0≤s∧s < 1000000000)∧(0≤t∧t < 1000000000)∧s+1000000000*t=x:=by omega
    rw [←hs] at e1
    rw [←ht] at e2
    have hd2:Dig [s,t]:=by rw [Dig.cons,Dig.cons];exact ⟨hst.1,hst.2.1,Dig.nil⟩
    have hv2:val [s,t]=(x:Int):=by simp [val];omega
    have hM:=fun b4 M0 I0=>hMd x hz hx (some ⟨b4,0,none⟩) [s,t] (by simp) 2 (by simp) (.inl (Ok.mk _ _)) hd2 hv2 M0 I0
    rw [hsg,←hz] at hM
    repeat' (first|refine aW ?_|refine aQ rfl (fun h=>?_) (fun h=>?_)|refine aR rfl rfl (fun h=>?_) (fun h=>?_)|fail)
    rw [e1]
    repeat' (first|refine aW ?_|refine aQ rfl (fun h=>?_) (fun h=>?_)|refine aR rfl rfl (fun h=>?_) (fun h=>?_)|fail)
    rw [e2]
    repeat' (first|refine aW ?_|refine aQ rfl (fun h=>?_) (fun h=>?_)|refine aR rfl rfl (fun h=>?_) (fun h=>?_)|fail)
    refine lL (cs:=recs eG [s,t]) ([.int .u32 s, .int .u32 t]) rfl (fun b4=>?_)
    refine aC uB ?_
    (refine aU rfl (hM b4 _ _ aA) ?_;rintro _ _ _ ⟨rfl,rfl⟩;refine aL ?_;refine aX (List.Mem.head _) (fun q2 c2 e__ hc2 hz2=>?_);subst e__)
    unfold iv
    repeat' (first|refine aW ?_|refine aQ rfl (fun h=>?_) (fun h=>?_)|refine aR rfl rfl (fun h=>?_) (fun h=>?_)|fail)
    refine bA (cs:=[.bool (B ((Int.gcd y z:Int) < 0)), .slice q2 (gr (Int.gcd y z:Int).natAbs).length c2]) (.inl rfl) rfl rfl aA rfl _ _ aG aF ⟨rfl,rfl⟩
   ·have e2:xi.tmod xi2=((x % k:Nat):Int):=by rw [hxi,hxi2,Int.tmod_eq_emod_of_nonneg (by omega),Int.natCast_emod]
    have hmod:=Nat.mod_lt x (show k>0 by omega)
    have hg2:Nat.gcd k (x % k)=Nat.gcd y.natAbs z.natAbs:=by rw [←hxg,Nat.gcd_comm x k,Nat.gcd_rec k x,Nat.gcd_comm]
    obtain ⟨r,hr⟩:∃r,r=x % k:=⟨_,rfl⟩
    rw [←hr] at e2 hmod hg2
    clear hr
    repeat' (first|refine aW ?_|refine aQ rfl (fun h=>?_) (fun h=>?_)|refine aR rfl rfl (fun h=>?_) (fun h=>?_)|fail)
    (repeat refine aJ ?_);refine gG [0,1,2,3,4,5] [0,0,0,0,0,0] mixed (by kernel_rfl) ?_
    repeat' (first|refine aW ?_|refine aQ rfl (fun h=>?_) (fun h=>?_)|refine aR rfl rfl (fun h=>?_) (fun h=>?_)|fail)
    rw [e2]
    refine bY (r) _ _ _ (by first|omega|(simp only [List.length_append,List.length_cons,List.length_nil];omega)) dS aG aF (⟨k,r,xi2,_,rfl,hxi2,rfl,by omega,by omega,hx2,by omega,hg2,rfl,rfl,rfl⟩)
  ·have hO:=fun M0 I0=>aJN (X:=X) (w0:=w0) (M0:=M0) (I0:=I0) (p:=pa) (q:=pb) (m:=a) (n:=k) (cp:=ca) (cq:=cb) (by omega) (by omega) (by omega) oa
   have hmod:=Nat.mod_lt a (show k>0 by omega)
   have hg2:Nat.gcd k (a % k)=Nat.gcd y.natAbs z.natAbs:=by rw [←hg,Nat.gcd_comm a k,Nat.gcd_rec k a,Nat.gcd_comm]
   obtain ⟨r,hr⟩:∃r,r=a % k:=⟨_,rfl⟩
   obtain ⟨qq,hqq⟩:∃r,r=a / k:=⟨_,rfl⟩
   rw [←hr,←hqq] at hO
   rw [←hr] at hmod hg2
   clear hr hqq
   repeat' (first|refine aW ?_|refine aQ rfl (fun h=>?_) (fun h=>?_)|refine aR rfl rfl (fun h=>?_) (fun h=>?_)|fail)
   all_goals
    (refine aU rfl (hO _ _ aA aA) ?_;rintro _ _ _ ⟨rfl,p1,c1,p2,c2,ho1,ho2,rfl,rfl⟩;refine aL ?_)
    repeat' (first|refine aW ?_|refine aQ rfl (fun h=>?_) (fun h=>?_)|refine aR rfl rfl (fun h=>?_) (fun h=>?_)|fail)
    refine iC (r) (⟨k,r,pb,p2,cb,c2,rfl,hb,by omega,ob,ho2,hg2,rfl,rfl,rfl⟩)
end
theorem aQO {y z:Int} (hz:z≠0):((y < 0↔z < 0)∨y.natAbs % z.natAbs=0→sg (¬(y < 0↔z < 0)) (y.natAbs / z.natAbs)=y.fdiv z)∧(¬(y < 0↔z < 0)→y.natAbs % z.natAbs≠0→sg (¬(y < 0↔z < 0)) (y.natAbs / z.natAbs) - 1=y.fdiv z):=by
 have h:=aAC (y:=y) hz
 refine ⟨fun h1=>by rw [(h.2 h1).1];rfl,fun h1 h2=>?_⟩
 rw [(h.1 h1 h2).1]
 unfold sg
 rw [if_pos h1];omega
theorem aHP (p:Prop) [Decidable p] (n:Nat):(if p then -(n:Int) else (n:Int)).natAbs=n:=by split <;>omega
theorem aYN {y z:Int} (hz:z≠0):(y.fdiv z).natAbs≤y.natAbs:=by
 have h:=aAC (y:=y) hz
 have hz1:0 < z.natAbs:=by omega
 have hab:=Nat.div_add_mod y.natAbs z.natAbs
 have hbQ:y.natAbs / z.natAbs≤z.natAbs*(y.natAbs / z.natAbs):=Nat.le_mul_of_pos_left _ hz1
 by_cases h1:(y < 0↔z < 0)∨y.natAbs % z.natAbs=0
 ·rw [(h.2 h1).1,aHP];exact Nat.div_le_self _ _
 ·have h2:y.natAbs % z.natAbs≠0:=fun h'=>h1 (.inr h')
  rw [(h.1 (fun h'=>h1 (.inl h')) h2).1]
  generalize y.natAbs / z.natAbs=Q at*
  generalize y.natAbs % z.natAbs=R at*
  generalize z.natAbs*Q=p at*
  clear h h1
  omega
theorem aYJ {y z:Int} (hz:z≠0):(y.fmod z).natAbs≤z.natAbs:=by
 have h:=aAC (y:=y) hz
 have hz1:0 < z.natAbs:=by omega
 have hlt:=Nat.mod_lt y.natAbs hz1
 by_cases h1:(y < 0↔z < 0)∨y.natAbs % z.natAbs=0
 ·rw [(h.2 h1).2,aHP];omega
 ·rw [(h.1 (fun h'=>h1 (.inl h')) (fun h'=>h1 (.inr h'))).2,aHP];omega
theorem aYD (y z:Int):y - (y.fdiv z)*z=y.fmod z:=by rw [Int.fmod_def,Int.mul_comm]
section
variable {X:List Nat} {w0:World} {M0:List Ent} {I0:List aV}
theorem aDQ {u v:Value} {y z:Int} {k m:Nat} (hk:k≤300000000000) (hm:m≤300000000000) (hz0:z≠0) (hu:iB u y k∈I0) (hv:iB v z m∈I0):
  CD Tryz.prog 215 [u,v] X w0 M0 I0 (DvP (y.fdiv z) (y.fmod z) k m M0 I0):=by
 refine dC hu (fun q cq e hc hy=>?_)
 subst e
 refine dC (List.Mem.tail _ hv) (fun q' cq' e hc' hz=>?_)
 subst e
 have hly:=dX hy
 have hlz:=dX hz
 have hlz1:¬(gr z.natAbs).length=0:=fun e=>by have:=nD.1 (List.eq_nil_of_length_eq_zero e);omega
 have hr0:(gr (y.natAbs % z.natAbs)).length=0↔y.natAbs % z.natAbs=0:=by rw [List.length_eq_zero_iff,nD]
 have hqb:y.natAbs / z.natAbs≤2 ^ k:=xV hy
 have hlq:=dX hqb
 have hdv:=aQO (y:=y) hz0
 have hfl:(y.fdiv z).natAbs≤2 ^ k:=Nat.le_trans (aYN hz0) hy
 have hml:(y.fmod z).natAbs≤2 ^ m:=Nat.le_trans (aYJ hz0) hz
 have hO:=fun (p1 p2:Option Addr) (c1 c2:Nat) (h1:rR p1 y.natAbs c1) M0 I0=>aJN (X:=X) (w0:=w0) (M0:=M0) (I0:=I0) (p:=p1) (q:=p2) (m:=y.natAbs) (n:=z.natAbs) (cp:=c1) (cq:=c2) (by omega) (by omega) (by omega) h1
 have hV1:=fun M0 I0=>lT (X:=X) (w0:=w0) (M0:=M0) (I0:=I0) (q:=q) (c:=cq) hy (by omega) hc
 have hV2:=fun M0 I0=>lT (X:=X) (w0:=w0) (M0:=M0) (I0:=I0) (q:=q') (c:=cq') hz (by omega) hc'
 have hMd:=fun (q:Option Addr) (c2:Nat) (h1:rR q (y.natAbs / z.natAbs) c2) M0 I0=>tZ (X:=X) (w0:=w0) (M0:=M0) (I0:=I0) (p:=¬(y < 0↔z < 0)) (n:=y.natAbs / z.natAbs) (q:=q) (l:=gr (y.natAbs / z.natAbs)) (c:=c2) (k:=k) (by omega) h1.1 h1.2 (bK _) (bT _) hqb
 have hMu:=fun u v M0 I0=>aCM (X:=X) (w0:=w0) (M0:=M0) (I0:=I0) (u:=u) (v:=v) (y:=y.fdiv z) (z:=z) (k0:=k) (m0:=m) (by omega)
 have hSb:=fun u v M0 I0=>aHG (X:=X) (w0:=w0) (M0:=M0) (I0:=I0) (u:=u) (v:=v) (y:=y) (z:=y.fdiv z*z) (k:=k) (m:=k+m) (c:=k+(k+m)+1) (by omega) (by omega) (by omega) (aGR _ _)
 have hSo:=fun u v M0 I0=>aHG (X:=X) (w0:=w0) (M0:=M0) (I0:=I0) (u:=u) (v:=v) (y:=sg (¬(y < 0↔z < 0)) (y.natAbs / z.natAbs)) (z:=1) (k:=k) (m:=0) (c:=k+0+1) (by omega) (by omega) (by omega) (aGR _ _)
 rw [aYD] at hSb
 obtain ⟨s0,hs0⟩:∃s,s=sg (¬(y < 0↔z < 0)) (y.natAbs / z.natAbs):=⟨_,rfl⟩
 rw [←hs0] at hMd hSo hdv
 clear hs0
 unfold iv
 by_cases hA:¬(y < 0↔z < 0)∧¬(gr (y.natAbs % z.natAbs)).length=0
 ·obtain ⟨hA1,hA2⟩:=hA
  have e1:=hdv.2 hA1 (fun h=>hA2 (hr0.2 h))
  rw [e1] at hSo
  clear hdv hr0 hqb
  obtain ⟨fd,hfd⟩:∃s,s=y.fdiv z:=⟨_,rfl⟩
  obtain ⟨fm,hfm⟩:∃s,s=y.fmod z:=⟨_,rfl⟩
  obtain ⟨Q,hQ⟩:∃s,s=y.natAbs / z.natAbs:=⟨_,rfl⟩
  obtain ⟨R,hR⟩:∃s,s=y.natAbs % z.natAbs:=⟨_,rfl⟩
  rw [←hfd] at hMu hSb hSo hfl ⊢
  rw [←hfm] at hSb hml ⊢
  rw [←hQ] at hO hMd hlq
  rw [←hR] at hO hA2
  clear hfd hfm hQ hR e1
  refine aP Tryz.func215 rfl Tryz.ntmps215 rfl ?_
  refine fE ?_
  refine fG rfl (fun b=>?_)
  refine fG rfl (fun b2=>?_)
  refine bG (fun b3=>?_)
  refine bG (fun b4=>?_)
  repeat' (first|refine aW ?_|refine aQ rfl (fun h=>?_) (fun h=>?_)|refine aR rfl rfl (fun h=>?_) (fun h=>?_)|fail)
  (repeat refine aJ ?_);refine aO 2 [0,2,1,3,4,5] [1,2,0,0,0,0] mixed (by kernel_rfl) ?_
  repeat' (first|refine aW ?_|refine aQ rfl (fun h=>?_) (fun h=>?_)|refine aR rfl rfl (fun h=>?_) (fun h=>?_)|fail)
  (refine aU rfl (hV1 _ _ aA) ?_;rintro _ _ _ ⟨rfl,q3,c3,rfl,hc3,rfl⟩;refine aL ?_)
  repeat' (first|refine aW ?_|refine aQ rfl (fun h=>?_) (fun h=>?_)|refine aR rfl rfl (fun h=>?_) (fun h=>?_)|fail)
  (refine aU rfl (hV2 _ _ aA) ?_;rintro _ _ _ ⟨rfl,q4,c4,rfl,hc4,rfl⟩;refine aL ?_)
  repeat' (first|refine aW ?_|refine aQ rfl (fun h=>?_) (fun h=>?_)|refine aR rfl rfl (fun h=>?_) (fun h=>?_)|fail)
  (refine aU rfl (hO q3 q4 c3 c4 hc3 _ _ aA aA) ?_;rintro _ _ _ ⟨rfl,p1,c1,p2,c2,ho1,ho2,rfl,rfl⟩;refine aL ?_)
  repeat' (first|refine aW ?_|refine aQ rfl (fun h=>?_) (fun h=>?_)|refine aR rfl rfl (fun h=>?_) (fun h=>?_)|fail)
  (refine aU rfl (hMd p1 c1 ho1 _ _ aA) ?_;rintro _ _ _ ⟨rfl,rfl⟩;refine aL ?_;refine aX (List.Mem.head _) (fun q5 c5 e__ hc5 hz5=>?_);subst e__)
  unfold iv
  repeat' (first|refine aW ?_|refine aQ rfl (fun h=>?_) (fun h=>?_)|refine aR rfl rfl (fun h=>?_) (fun h=>?_)|fail)
  refine bG (fun b5=>?_)
  repeat' (first|refine aW ?_|refine aQ rfl (fun h=>?_) (fun h=>?_)|refine aR rfl rfl (fun h=>?_) (fun h=>?_)|fail)
  (repeat refine aJ ?_);refine aO 2 [0,1,2,3] [1,0,0,0] mixed (by kernel_rfl) ?_
  repeat' (first|refine aW ?_|refine aQ rfl (fun h=>?_) (fun h=>?_)|refine aR rfl rfl (fun h=>?_) (fun h=>?_)|fail)
  (refine aU rfl (aUE (x:=1) (by decide)) ?_;rintro _ _ _ ⟨rfl,rfl⟩;refine aL ?_;refine aX (List.Mem.head _) (fun q6 c6 e__ hc6 hz6=>?_);subst e__)
  unfold iv
  refine oI (k2:=0) (z:=1) (List.Mem.tail _ (List.Mem.head _)) (by decide) ?_
  (refine aU rfl (hSo _ _ _ _ aA aA) ?_;rintro _ _ _ ⟨rfl,rfl⟩;refine aL ?_;refine aX (List.Mem.head _) (fun q7 c7 e__ hc7 hz7=>?_);subst e__)
  unfold iv
  refine oI (k2:=k) (z:=fd) (List.Mem.tail _ (List.Mem.head _)) hfl ?_
  repeat' (first|refine aW ?_|refine aQ rfl (fun h=>?_) (fun h=>?_)|refine aR rfl rfl (fun h=>?_) (fun h=>?_)|fail)
  (repeat refine aJ ?_);refine vT (.blk b5 [.bool (B (fd < 0)), .slice q7 (gr fd.natAbs).length c7] 38:: .blk b2 [.bool (B (z < 0)), .slice q4 (gr z.natAbs).length c4] 38:: .blk b [.bool (B (y < 0)), .slice q3 (gr y.natAbs).length c3] 38::M0) (iB (.agg #[.bool (B (fd < 0)), .slice q7 (gr fd.natAbs).length c7]) fd k::I0) [0,1,2,3,4,5,6,7,8] [2,2,2,2,0,0,0,0,0] mixed ?_
  repeat' (first|refine aW ?_|refine aQ rfl (fun h=>?_) (fun h=>?_)|refine aR rfl rfl (fun h=>?_) (fun h=>?_)|fail)
  refine xM (q:=q3) (c:=c3) (z:=y) (k:=k) aA hc3 hy ?_
  refine xM (q:=q4) (c:=c4) (z:=z) (k:=m) aA hc4 hz ?_
  unfold iv
  (refine aU rfl (hMu _ _ _ _ aA aA) ?_;rintro _ _ _ ⟨rfl,rfl⟩;refine aL ?_;refine aX (List.Mem.head _) (fun q8 c8 e__ hc8 hz8=>?_);subst e__)
  unfold iv
  (refine aU rfl (hSb _ _ _ _ aA aA) ?_;rintro _ _ _ ⟨rfl,rfl⟩;refine aL ?_;refine aX (List.Mem.head _) (fun q9 c9 e__ hc9 hz9=>?_);subst e__)
  unfold iv
  refine oI (k2:=m) (z:=fm) (List.Mem.tail _ (List.Mem.head _)) hml ?_
  repeat' (first|refine aW ?_|refine aQ rfl (fun h=>?_) (fun h=>?_)|refine aR rfl rfl (fun h=>?_) (fun h=>?_)|fail)
  refine dI (rs:=[.cell 4 38, .cell 5 38, .tmp 6]) (.inl rfl) rfl (.cellN inferInstance rfl aA rfl (.cellN inferInstance rfl aA rfl (.tmp rfl .nil))) rfl M0 (iB (.agg #[.bool (B (fm < 0)), .slice q9 (gr fm.natAbs).length c9]) fm m::iB (.agg #[.bool (B (fd < 0)), .slice q7 (gr fd.natAbs).length c7]) fd k::I0) aG aF ⟨rfl,_,_,rfl,rfl⟩
 ·have hA':(y < 0↔z < 0)∨y.natAbs % z.natAbs=0:=by
   rcases Classical.em (y < 0↔z < 0) with h|h
   ·exact .inl h
   ·exact .inr (hr0.1 (Classical.byContradiction fun h'=>hA ⟨h,h'⟩))
  have e1:=hdv.1 hA'
  subst e1
  clear hdv hr0 hqb hSo
  obtain ⟨fd,hfd⟩:∃s,s=y.fdiv z:=⟨_,rfl⟩
  obtain ⟨fm,hfm⟩:∃s,s=y.fmod z:=⟨_,rfl⟩
  obtain ⟨Q,hQ⟩:∃s,s=y.natAbs / z.natAbs:=⟨_,rfl⟩
  obtain ⟨R,hR⟩:∃s,s=y.natAbs % z.natAbs:=⟨_,rfl⟩
  rw [←hfd] at hMu hSb hMd hfl ⊢
  rw [←hfm] at hSb hml ⊢
  rw [←hQ] at hO hMd hlq
  rw [←hR] at hO hA hA'
  clear hfd hfm hQ hR hA'
  refine aP Tryz.func215 rfl Tryz.ntmps215 rfl ?_
  refine fE ?_
  refine fG rfl (fun b=>?_)
  refine fG rfl (fun b2=>?_)
  refine bG (fun b3=>?_)
  refine bG (fun b4=>?_)
  repeat' (first|refine aW ?_|refine aQ rfl (fun h=>?_) (fun h=>?_)|refine aR rfl rfl (fun h=>?_) (fun h=>?_)|fail)
  (repeat refine aJ ?_);refine aO 2 [0,2,1,3,4,5] [1,2,0,0,0,0] mixed (by kernel_rfl) ?_
  repeat' (first|refine aW ?_|refine aQ rfl (fun h=>?_) (fun h=>?_)|refine aR rfl rfl (fun h=>?_) (fun h=>?_)|fail)
  (refine aU rfl (hV1 _ _ aA) ?_;rintro _ _ _ ⟨rfl,q3,c3,rfl,hc3,rfl⟩;refine aL ?_)
  repeat' (first|refine aW ?_|refine aQ rfl (fun h=>?_) (fun h=>?_)|refine aR rfl rfl (fun h=>?_) (fun h=>?_)|fail)
  (refine aU rfl (hV2 _ _ aA) ?_;rintro _ _ _ ⟨rfl,q4,c4,rfl,hc4,rfl⟩;refine aL ?_)
  repeat' (first|refine aW ?_|refine aQ rfl (fun h=>?_) (fun h=>?_)|refine aR rfl rfl (fun h=>?_) (fun h=>?_)|fail)
  (refine aU rfl (hO q3 q4 c3 c4 hc3 _ _ aA aA) ?_;rintro _ _ _ ⟨rfl,p1,c1,p2,c2,ho1,ho2,rfl,rfl⟩;refine aL ?_)
  repeat' (first|refine aW ?_|refine aQ rfl (fun h=>?_) (fun h=>?_)|refine aR rfl rfl (fun h=>?_) (fun h=>?_)|fail)
  (refine aU rfl (hMd p1 c1 ho1 _ _ aA) ?_;rintro _ _ _ ⟨rfl,rfl⟩;refine aL ?_;refine aX (List.Mem.head _) (fun q5 c5 e__ hc5 hz5=>?_);subst e__)
  unfold iv
  repeat' (first|refine aW ?_|refine aQ rfl (fun h=>?_) (fun h=>?_)|refine aR rfl rfl (fun h=>?_) (fun h=>?_)|fail)
  refine bG (fun b5=>?_)
  repeat' (first|refine aW ?_|refine aQ rfl (fun h=>?_) (fun h=>?_)|refine aR rfl rfl (fun h=>?_) (fun h=>?_)|fail)
  all_goals
   ((repeat refine aJ ?_);refine vT (.blk b5 [.bool (B (fd < 0)), .slice q5 (gr fd.natAbs).length c5] 38:: .blk b2 [.bool (B (z < 0)), .slice q4 (gr z.natAbs).length c4] 38:: .blk b [.bool (B (y < 0)), .slice q3 (gr y.natAbs).length c3] 38::M0) (iB (.agg #[.bool (B (fd < 0)), .slice q5 (gr fd.natAbs).length c5]) fd k::I0) [0,1,2,3,4,5,6,7,8] [2,2,2,2,0,0,0,0,0] mixed ?_)
   repeat' (first|refine aW ?_|refine aQ rfl (fun h=>?_) (fun h=>?_)|refine aR rfl rfl (fun h=>?_) (fun h=>?_)|fail)
   refine xM (q:=q3) (c:=c3) (z:=y) (k:=k) aA hc3 hy ?_
   refine xM (q:=q4) (c:=c4) (z:=z) (k:=m) aA hc4 hz ?_
   unfold iv
   (refine aU rfl (hMu _ _ _ _ aA aA) ?_;rintro _ _ _ ⟨rfl,rfl⟩;refine aL ?_;refine aX (List.Mem.head _) (fun q8 c8 e__ hc8 hz8=>?_);subst e__)
   unfold iv
   (refine aU rfl (hSb _ _ _ _ aA aA) ?_;rintro _ _ _ ⟨rfl,rfl⟩;refine aL ?_;refine aX (List.Mem.head _) (fun q9 c9 e__ hc9 hz9=>?_);subst e__)
   unfold iv
   refine oI (k2:=m) (z:=fm) (List.Mem.tail _ (List.Mem.head _)) hml ?_
   repeat' (first|refine aW ?_|refine aQ rfl (fun h=>?_) (fun h=>?_)|refine aR rfl rfl (fun h=>?_) (fun h=>?_)|fail)
   refine dI (rs:=[.cell 4 38, .cell 5 38, .tmp 6]) (.inl rfl) rfl (.cellN inferInstance rfl aA rfl (.cellN inferInstance rfl aA rfl (.tmp rfl .nil))) rfl M0 (iB (.agg #[.bool (B (fm < 0)), .slice q9 (gr fm.natAbs).length c9]) fm m::iB (.agg #[.bool (B (fd < 0)), .slice q5 (gr fd.natAbs).length c5]) fd k::I0) aG aF ⟨rfl,_,_,rfl,rfl⟩
end
end Go.Proofs.YtgpkjcmipiodcaaGreat
namespace Go.Proofs.YtgpkjcmipiodcaaGreat
open Go Go.Fx
section
variable {X:List Nat} {w0:World} {M0:List Ent} {I0:List aV}
theorem aIT {u v:Value} {n d:Int} {k:Nat} (hk:k≤150000000000) (hd0:d≠0) (hu:iB u n k∈I0) (hv:iB v d k∈I0):
  CD Tryz.prog 208 [u,v] X w0 M0 I0 (RQ (Rat.divInt n d) k M0 I0):=by
 have hS:=fun M0 I0=>yV (X:=X) (w0:=w0) (M0:=M0) (I0:=I0) (u:=v) (z:=d) (k:=k) (by omega)
 refine dC hu (fun q cq e hc hy=>?_)
 subst e
 refine dC (List.Mem.tail _ hv) (fun q' cq' e hc' hz=>?_)
 subst e
 obtain ⟨r,hr⟩:∃r,r=Rat.divInt n d:=⟨_,rfl⟩
 obtain ⟨g0,hg0⟩:∃g:Int,g=(Int.gcd n d:Int):=⟨_,rfl⟩
 obtain ⟨g,hg⟩:∃g:Int,g=if d < 0 then -g0 else g0:=⟨_,rfl⟩
 obtain ⟨e1,e2,e3⟩:=aOP (n:=n) (d:=d) (g:=g) hd0 (by rw [hg,hg0])
 rw [←hr] at e1 e2 ⊢
 have hD1:=fun u v M0 I0 h1 h2=>aDQ (X:=X) (w0:=w0) (M0:=M0) (I0:=I0) (u:=u) (v:=v) (y:=n) (z:=g) (k:=k) (m:=k+k) (by omega) (by omega) e3 h1 h2
 have hD2:=fun u v M0 I0 h1 h2=>aDQ (X:=X) (w0:=w0) (M0:=M0) (I0:=I0) (u:=u) (v:=v) (y:=d) (z:=g) (k:=k) (m:=k+k) (by omega) (by omega) e3 h1 h2
 rw [e1] at hD1
 rw [e2] at hD2
 obtain ⟨f1,hf1⟩:∃f:Int,f=n.fmod g:=⟨_,rfl⟩
 obtain ⟨f2,hf2⟩:∃f:Int,f=d.fmod g:=⟨_,rfl⟩
 rw [←hf1] at hD1
 rw [←hf2] at hD2
 have hN:=fun u M0 I0=>aGY (X:=X) (w0:=w0) (M0:=M0) (I0:=I0) (u:=u) (z:=g0) (k:=k+k) (by omega)
 have hG:=fun u v M0 I0=>aOO (X:=X) (w0:=w0) (M0:=M0) (I0:=I0) (u:=u) (v:=v) (y:=n) (z:=d) (k0:=k) (m:=k) (by omega) (by omega)
 rw [←hg0] at hG
 clear e1 e2 hf1 hf2 hg0 hr
 by_cases hneg:d < 0
 ·have hs:d.sign= -1:=Int.sign_eq_neg_one_of_neg hneg
  rw [hs] at hS
  rw [if_pos hneg] at hg
  rw [←hg] at hN
  clear hg hneg
  unfold iv at*
  refine aP Tryz.func208 rfl Tryz.ntmps208 rfl ?_
  refine fE ?_
  refine fG rfl (fun b=>?_)
  refine fG rfl (fun b2=>?_)
  refine bG (fun b4=>?_)
  repeat refine aW ?_
  (refine aU rfl (hG _ _ _ _ aA aA) ?_;rintro _ _ _ ⟨rfl,rfl⟩;refine aL ?_;refine aX (List.Mem.head _) (fun q3 c3 e__ hc3 hz3=>?_);subst e__)
  unfold iv
  repeat refine aW ?_
  refine bG (fun b5=>?_)
  repeat refine aW ?_
  refine dP rfl (hS _ _ aA) ?_
  repeat refine aW ?_
  (refine aU rfl (hN _ _ _ aA) ?_;rintro _ _ _ ⟨rfl,rfl⟩;refine aL ?_;refine aX (List.Mem.head _) (fun q6 c6 e__ hc6 hz6=>?_);subst e__)
  unfold iv
  repeat refine aW ?_
  (refine aU rfl (hD1 _ _ _ _ aA aA) ?_;rintro _ _ _ ⟨rfl,v1,v2,rfl,rfl⟩;refine aL ?_)
  refine aX (u:=v1) aA (fun q7 c7 e7 hc7 hz7=>?_)
  subst e7
  refine aX (u:=v2) aA (fun q8 c8 e8 hc8 hz8=>?_)
  subst e8
  unfold iv
  repeat refine aW ?_
  refine bG (fun b6=>?_)
  refine bG (fun b7=>?_)
  repeat refine aW ?_
  (refine aU rfl (hD2 _ _ _ _ aA aA) ?_;rintro _ _ _ ⟨rfl,v3,v4,rfl,rfl⟩;refine aL ?_)
  refine aX (u:=v3) aA (fun q9 c9 e9 hc9 hz9=>?_)
  subst e9
  refine aX (u:=v4) aA (fun q10 c10 e10 hc10 hz10=>?_)
  subst e10
  unfold iv
  repeat refine aW ?_
  refine bG (fun b8=>?_)
  refine bG (fun b9=>?_)
  repeat refine aW ?_
  (refine aD rfl (fun _=>aK (pvs:=([vI q7 c7 r.num,vI q9 c9 r.den]).zipIdx.map (fun p=>(p.2,p.1))) (cells:=eR ⟨r,q7,c7,q9,c9⟩) rfl rfl) rfl rfl ?_)
  repeat refine aW ?_
  refine mM (q:=r) (k:=k) (p1:=q7) (c1:=c7) (p2:=q9) (c2:=c9) aA aA (Nat.le_refl _) (Nat.le_refl _) ?_
  refine bA (cs:=eR ⟨r,q7,c7,q9,c9⟩) (.inl rfl) rfl rfl aA rfl M0 (cK ⟨r,q7,c7,q9,c9⟩ k::I0) aG aF ⟨rfl,⟨r,q7,c7,q9,c9⟩,rfl,rfl,rfl⟩
 ·have hs:d.sign=1:=Int.sign_eq_one_of_pos (by omega)
  rw [hs] at hS
  rw [if_neg hneg] at hg
  rw [←hg] at hG
  clear hg hneg hN
  unfold iv at*
  refine aP Tryz.func208 rfl Tryz.ntmps208 rfl ?_
  refine fE ?_
  refine fG rfl (fun b=>?_)
  refine fG rfl (fun b2=>?_)
  refine bG (fun b4=>?_)
  repeat refine aW ?_
  (refine aU rfl (hG _ _ _ _ aA aA) ?_;rintro _ _ _ ⟨rfl,rfl⟩;refine aL ?_;refine aX (List.Mem.head _) (fun q3 c3 e__ hc3 hz3=>?_);subst e__)
  unfold iv
  repeat refine aW ?_
  refine bG (fun b5=>?_)
  repeat refine aW ?_
  refine dP rfl (hS _ _ aA) ?_
  repeat refine aW ?_
  (refine aU rfl (hD1 _ _ _ _ aA aA) ?_;rintro _ _ _ ⟨rfl,v1,v2,rfl,rfl⟩;refine aL ?_)
  refine aX (u:=v1) aA (fun q7 c7 e7 hc7 hz7=>?_)
  subst e7
  refine aX (u:=v2) aA (fun q8 c8 e8 hc8 hz8=>?_)
  subst e8
  unfold iv
  repeat refine aW ?_
  refine bG (fun b6=>?_)
  refine bG (fun b7=>?_)
  repeat refine aW ?_
  (refine aU rfl (hD2 _ _ _ _ aA aA) ?_;rintro _ _ _ ⟨rfl,v3,v4,rfl,rfl⟩;refine aL ?_)
  refine aX (u:=v3) aA (fun q9 c9 e9 hc9 hz9=>?_)
  subst e9
  refine aX (u:=v4) aA (fun q10 c10 e10 hc10 hz10=>?_)
  subst e10
  unfold iv
  repeat refine aW ?_
  refine bG (fun b8=>?_)
  refine bG (fun b9=>?_)
  repeat refine aW ?_
  (refine aD rfl (fun _=>aK (pvs:=([vI q7 c7 r.num,vI q9 c9 r.den]).zipIdx.map (fun p=>(p.2,p.1))) (cells:=eR ⟨r,q7,c7,q9,c9⟩) rfl rfl) rfl rfl ?_)
  repeat refine aW ?_
  refine mM (q:=r) (k:=k) (p1:=q7) (c1:=c7) (p2:=q9) (c2:=c9) aA aA (Nat.le_refl _) (Nat.le_refl _) ?_
  refine bA (cs:=eR ⟨r,q7,c7,q9,c9⟩) (.inl rfl) rfl rfl aA rfl M0 (cK ⟨r,q7,c7,q9,c9⟩ k::I0) aG aF ⟨rfl,⟨r,q7,c7,q9,c9⟩,rfl,rfl,rfl⟩
theorem aAZ {x:Int} (hx: -9223372036854775808≤x∧x≤9223372036854775807):CD Tryz.prog 58 [.int .i64 x] X w0 M0 I0 (fun v M I=>M0=M∧I=iB v x 63::I0):=by
 refine aZ Tryz.func58 rfl Tryz.ntmps58 rfl ?_
 refine fE ?_
 refine bG (fun b2=>?_)
 repeat refine aW ?_
 (refine aU rfl (aUE hx) ?_;rintro _ _ _ ⟨rfl,rfl⟩;refine aL ?_;refine aX (List.Mem.head _) (fun q3 c3 e__ hc3 hz3=>?_);subst e__)
 unfold iv
 repeat refine aW ?_
 refine bA (cs:=[.bool (B (x < 0)), .slice q3 (gr x.natAbs).length c3]) (.inl rfl) rfl rfl aA rfl _ _ aG aF ⟨rfl,rfl⟩
theorem aKB {u:Value} {z:Int} {k:Nat} (hk:k≤1000000000000) (hu:iB u z k∈I0):
  CD Tryz.prog 113 [u] X w0 M0 I0 (fun v M I=>M0=M∧I0=I∧v= .bool true):=by
 refine CD.post (K:=fun v M I=>M0=M∧(∃q,aI q (recs eG (gr z.natAbs))::I0=I)∧v= .bool true) (dC hu (fun q c e hc hz=>?_)) (fun v M I w h hw=>?_)
 case refine_2=>
  obtain ⟨e1,⟨q,e2⟩,e3⟩:=h
  subst e1;subst e2
  exact ⟨_,_,⟨rfl,rfl,e3⟩,hw.inc (Inc.wk Inc.refl)⟩
 subst e
 have hl:=gL hz hk
 refine (aFO (neg:=B (z < 0)) (gs:=gr z.natAbs) (by omega) (List.Mem.head _)).mono (fun v M I h=>⟨h.1,⟨q,h.2.1⟩,?_⟩)
 rw [h.2.2]
 exact congrArg Value.bool (cB (aBE z))
theorem yF {e:RE} {k:Nat} (hk:k≤100000000000) (he:Hv I0 (cK e k)):
  CD Tryz.prog 53 [rv e] X w0 M0 I0 (fun v M I=>M0=M∧I0=I∧v= .bool true):=by
 refine CD.post (K:=fun v M I=>M0=M∧iB (vI e.p1 e.c1 e.q.num) e.q.num k::iB (vI e.p2 e.c2 e.q.den) e.q.den k::I0=I∧v= .bool true) (aDB he ?_) (fun v M I w h hw=>?_)
 case refine_2=>
  obtain ⟨e1,e2,e3⟩:=h
  subst e1;subst e2
  exact ⟨_,_,⟨rfl,rfl,e3⟩,hw.inc (Inc.wk (Inc.wk Inc.refl))⟩
 have hV1:=fun M0 I0 h=>aKB (X:=X) (w0:=w0) (M0:=M0) (I0:=I0) (u:=vI e.p1 e.c1 e.q.num) (z:=e.q.num) (k:=k) (by omega) h
 have hV2:=fun M0 I0 h=>aKB (X:=X) (w0:=w0) (M0:=M0) (I0:=I0) (u:=vI e.p2 e.c2 e.q.den) (z:=e.q.den) (k:=k) (by omega) h
 have hS:=fun M0 I0=>yV (X:=X) (w0:=w0) (M0:=M0) (I0:=I0) (u:=vI e.p2 e.c2 e.q.den) (z:=e.q.den) (k:=k) (by omega)
 have hs:((e.q.den:Int)).sign=1:=Int.sign_eq_one_of_pos (by have:=e.q.den_nz;omega)
 rw [hs] at hS
 have hG:=fun M0 I0=>aOO (X:=X) (w0:=w0) (M0:=M0) (I0:=I0) (u:=vI e.p1 e.c1 e.q.num) (v:=vI e.p2 e.c2 e.q.den) (y:=e.q.num) (z:=e.q.den) (k0:=k) (m:=k) (by omega) (by omega)
 rw [aNE] at hG
 have hC:=fun u v M0 I0=>aJO (X:=X) (w0:=w0) (M0:=M0) (I0:=I0) (u:=u) (v:=v) (y:=1) (z:=1) (k:=k+k) (m:=63) (by omega) (by omega)
 have hc:fP 1 1=0:=by decide
 rw [hc] at hC
 refine aZ Tryz.func53 rfl Tryz.ntmps53 rfl ?_
 refine fE ?_
 refine fG rfl (fun b=>?_)
 repeat refine aW ?_
 refine dP rfl (hV1 _ _ aA) ?_
 repeat refine aW ?_
 refine dP rfl (hV2 _ _ aA) ?_
 repeat refine aW ?_
 refine dP rfl (hS _ _ aA) ?_
 repeat refine aW ?_
 (refine aU rfl (hG _ _ aA aA) ?_;rintro _ _ _ ⟨rfl,rfl⟩;refine aL ?_)
 repeat refine aW ?_
 (refine aU rfl (aAZ (x:=1) (by decide)) ?_;rintro _ _ _ ⟨rfl,rfl⟩;refine aL ?_)
 refine dP rfl (hC _ _ _ _ aA aA) ?_
 repeat refine aW ?_
 refine aH (by first|exact .inl rfl|exact .inr rfl) rfl rfl _ _ aG aF (⟨rfl,rfl,congrArg Value.bool (cB (by decide))⟩)
theorem uX {e:RE} {k:Nat} (hk:k≤100000000000) (he:Hv I0 (cK e k)):
  CD Tryz.prog 166 [rv e] X w0 M0 I0 (fun v M I=>M0=M∧I0=I∧v=rv e):=by
 refine aZ Tryz.func166 rfl Tryz.ntmps166 rfl ?_
 refine fE ?_
 refine fG rfl (fun b=>?_)
 refine bG (fun b2=>?_)
 repeat refine aW ?_
 refine dP rfl (yF hk he) ?_
 repeat refine aW ?_
 refine bA (cs:=eR e) (.inl rfl) rfl rfl aA rfl M0 I0 aG aF ⟨rfl,rfl,rfl⟩
theorem aLC {x:Int} (hx: -9223372036854775808≤x∧x≤9223372036854775807) {k:Nat} (hk:x.natAbs≤2 ^ k):
  CD Tryz.prog 23 [.int .i64 x] X w0 M0 I0 (RQ (x:Rat) k M0 I0):=by
 have hn:((x:Rat)).num=x:=Rat.num_intCast x
 have hd:(((x:Rat)).den:Int)=1:=by rw [Rat.den_intCast];rfl
 have h1:(1:Int).natAbs≤2 ^ k:=Nat.one_le_two_pow
 obtain ⟨q,hq⟩:∃q:Rat,q=(x:Rat):=⟨_,rfl⟩
 rw [←hq] at hn hd ⊢
 refine aZ Tryz.func23 rfl Tryz.ntmps23 rfl ?_
 refine fE ?_
 refine bG (fun b2=>?_)
 repeat refine aW ?_
 (refine aU rfl (aAZ hx) ?_;rintro _ _ _ ⟨rfl,rfl⟩;refine aL ?_;refine aX (List.Mem.head _) (fun q3 c3 e__ hc3 hz3=>?_);subst e__)
 unfold iv
 refine oI (k2:=k) (z:=x) (List.Mem.tail _ (List.Mem.head _)) hk ?_
 (refine aU rfl (aAZ (x:=1) (by decide)) ?_;rintro _ _ _ ⟨rfl,rfl⟩;refine aL ?_;refine aX (List.Mem.head _) (fun q4 c4 e__ hc4 hz4=>?_);subst e__)
 unfold iv
 refine oI (k2:=k) (z:=1) (List.Mem.tail _ (List.Mem.head _)) h1 ?_
 rw [←hn,←hd]
 (refine aD rfl (fun _=>aK (pvs:=([vI q3 c3 q.num,vI q4 c4 q.den]).zipIdx.map (fun p=>(p.2,p.1))) (cells:=eR ⟨q,q3,c3,q4,c4⟩) rfl rfl) rfl rfl ?_)
 repeat refine aW ?_
 refine mM (q:=q) (k:=k) (p1:=q3) (c1:=c3) (p2:=q4) (c2:=c4) aA aA (Nat.le_refl _) (Nat.le_refl _) ?_
 refine bA (cs:=eR ⟨q,q3,c3,q4,c4⟩) (.inl rfl) rfl rfl aA rfl M0 (cK ⟨q,q3,c3,q4,c4⟩ k::I0) aG aF ⟨rfl,⟨q,q3,c3,q4,c4⟩,rfl,rfl,rfl⟩
theorem aQI {e:RE} {k:Nat} (hk:k≤100000000000) (he:Hv I0 (cK e k)):
  CD Tryz.prog 117 [rv e] X w0 M0 I0 (fun v M I=>M0=M∧I0=I∧v= .int .i64 e.q.num.sign):=by
 refine aZ Tryz.func117 rfl Tryz.ntmps117 rfl ?_
 refine fE ?_
 refine fG rfl (fun b=>?_)
 repeat refine aW ?_
 refine dP rfl (uX hk he) ?_
 refine aD rfl (fun _=>dJ rfl) rfl rfl ?_
 refine jK (e:=e) (k:=k) he ?_
 refine dP rfl (yV (z:=e.q.num) (k:=k) (by omega) aA) ?_
 repeat refine aW ?_
 refine gD rfl rfl (⟨rfl,rfl,rfl⟩)
theorem aUV {e:RE} {k:Nat} (hk:k≤100000000000) (he:Hv I0 (cK e k)):
  CD Tryz.prog 168 [rv e] X w0 M0 I0 (RQ (-e.q) k M0 I0):=by
 have hN:=fun M0 I0=>aGY (X:=X) (w0:=w0) (M0:=M0) (I0:=I0) (u:=vI e.p1 e.c1 e.q.num) (z:=e.q.num) (k:=k) (by omega)
 rw [←Rat.neg_num] at hN
 have hd:((e.q.den:Int))=((-e.q).den:Int):=by rw [Rat.neg_den]
 refine aZ Tryz.func168 rfl Tryz.ntmps168 rfl ?_
 refine fE ?_
 refine fG rfl (fun b=>?_)
 refine bG (fun b2=>?_)
 repeat refine aW ?_
 refine dP rfl (uX hk he) ?_
 refine jK (e:=e) (k:=k) he ?_
 refine bG (fun b3=>?_)
 repeat refine aW ?_
 (repeat refine aJ ?_);refine aO 1 [0,1,3,4,2,5,6] [1,0,1,1,0,0,0] mixed (by kernel_rfl) ?_
 repeat refine aW ?_
 (refine aU rfl (hN _ _ aA) ?_;rintro _ _ _ ⟨rfl,rfl⟩;refine aL ?_;refine aX (List.Mem.head _) (fun q3 c3 e__ hc3 hz3=>?_);subst e__)
 unfold iv
 rw [hd]
 (refine aD rfl (fun _=>aK (pvs:=([vI q3 c3 (-e.q).num,vI e.p2 e.c2 (-e.q).den]).zipIdx.map (fun p=>(p.2,p.1))) (cells:=eR ⟨-e.q,q3,c3,e.p2,e.c2⟩) rfl rfl) rfl rfl ?_)
 repeat refine aW ?_
 refine mM (q:= -e.q) (k:=k) (p1:=q3) (c1:=c3) (p2:=e.p2) (c2:=e.c2) aA aA (Nat.le_refl _) (Nat.le_refl _) ?_
 refine bA (cs:=eR ⟨-e.q,q3,c3,e.p2,e.c2⟩) (.inl rfl) rfl rfl aA rfl M0 (cK ⟨-e.q,q3,c3,e.p2,e.c2⟩ k::I0) aG aF ⟨rfl,⟨-e.q,q3,c3,e.p2,e.c2⟩,rfl,rfl,rfl⟩
end
end Go.Proofs.YtgpkjcmipiodcaaGreat
namespace Go.Proofs.YtgpkjcmipiodcaaGreat
open Go Go.Fx
theorem aKI {n d:Int} (hd:0 < d):(Rat.divInt n d).num.sign=n.sign:=by
 obtain ⟨m,hm,h1,h2,h3,h4⟩:=xZ (n:=n) (d:=d) (by omega)
 have hm0:0 < m:=by
  rcases Int.lt_trichotomy m 0 with h|h|h
  ·have:=h4.1 h;omega
  ·exact absurd h hm
  ·exact h
 have:n.sign=((Rat.divInt n d).num*m).sign:=congrArg Int.sign h1
 rw [this,Int.sign_mul,Int.sign_eq_one_of_pos hm0,Int.mul_one]
theorem aTW (p q:Rat):(p - q).num.sign=aDX p q:=by
 rw [Rat.sub_eq_add_neg,uT,aKI (by rw [Rat.neg_den];exact Int.mul_pos (zP p) (zP q)),Rat.neg_num,Rat.neg_den,Int.neg_mul,←Int.sub_eq_add_neg,aNO]
 rfl
section
variable {X:List Nat} {w0:World} {M0:List Ent} {I0:List aV}
theorem aVC {a b:RE} {k m:Nat} (hk:k+m+1≤100000000000) (ha:Hv I0 (cK a k)) (hb:Hv I0 (cK b m)):
  CD Tryz.prog 167 [rv a,rv b] X w0 M0 I0 (RQ (a.q+b.q) (k+m+1) M0 I0):=by
 have hM1:=fun u v M0 I0=>aCM (X:=X) (w0:=w0) (M0:=M0) (I0:=I0) (u:=u) (v:=v) (y:=a.q.num) (z:=b.q.den) (k0:=k) (m0:=m) (by omega)
 have hM2:=fun u v M0 I0=>aCM (X:=X) (w0:=w0) (M0:=M0) (I0:=I0) (u:=u) (v:=v) (y:=b.q.num) (z:=a.q.den) (k0:=m) (m0:=k) (by omega)
 have hM3:=fun u v M0 I0=>aCM (X:=X) (w0:=w0) (M0:=M0) (I0:=I0) (u:=u) (v:=v) (y:=a.q.den) (z:=b.q.den) (k0:=k) (m0:=m) (by omega)
 have hA:=fun u v M0 I0=>aNH (X:=X) (w0:=w0) (M0:=M0) (I0:=I0) (u:=u) (v:=v) (y:=a.q.num*b.q.den) (z:=b.q.num*a.q.den) (k:=k+m) (m:=m+k) (c:=k+m+1) (by omega) (by omega) (by omega) (aNI k m)
 have hR:=fun u v M0 I0=>aIT (X:=X) (w0:=w0) (M0:=M0) (I0:=I0) (u:=u) (v:=v) (n:=a.q.num*b.q.den+b.q.num*a.q.den) (d:=a.q.den*b.q.den) (k:=k+m+1) (by omega) (yD _ _)
 rw [←uT] at hR
 refine aP Tryz.func167 rfl Tryz.ntmps167 rfl ?_
 refine fE ?_
 refine fG rfl (fun b1=>?_)
 refine fG rfl (fun b2=>?_)
 refine bG (fun b3=>?_)
 repeat refine aW ?_
 refine dP rfl (uX (k:=k) (by omega) ha) ?_
 refine bG (fun b4=>?_)
 repeat refine aW ?_
 refine dP rfl (uX (k:=m) (by omega) hb) ?_
 refine bG (fun b5=>?_)
 refine jK (e:=a) (k:=k) ha ?_
 refine jK (e:=b) (k:=m) hb.cons.cons ?_
 repeat refine aW ?_
 (repeat refine aJ ?_);refine vT (.blk b5 (eR b) 40:: .blk b4 (eR a) 40::M0) (I0) [0,1,2,3,5,6,7,8,11,12,13,14,4,9,10,15,16,17] [5,4,5,4,5,4,5,4,5,4,5,4,0,0,0,0,0,0] mixed ?_
 repeat refine aW ?_
 (refine aU rfl (hM1 _ _ _ _ aA aA) ?_;rintro _ _ _ ⟨rfl,rfl⟩;refine aL ?_)
 (refine aU rfl (hM2 _ _ _ _ aA aA) ?_;rintro _ _ _ ⟨rfl,rfl⟩;refine aL ?_)
 (refine aU rfl (hA _ _ _ _ aA aA) ?_;rintro _ _ _ ⟨rfl,rfl⟩;refine aL ?_)
 (refine aU rfl (hM3 _ _ _ _ aA aA) ?_;rintro _ _ _ ⟨rfl,rfl⟩;refine aL ?_)
 refine aED (k2:=k+m+1) (List.Mem.head _) (by omega) ?_
 refine iG rfl (hR _ _ _ _ aA aA) (fun e he=>?_)
 repeat refine aW ?_
 refine bA (cs:=eR e) (.inl rfl) rfl rfl aA rfl M0 (cK e (k+m+1)::I0) aG aF ⟨rfl,e,rfl,he,rfl⟩
theorem aRY {a b:RE} {k m:Nat} (hk:k+m+1≤100000000000) (ha:Hv I0 (cK a k)) (hb:Hv I0 (cK b m)):
  CD Tryz.prog 118 [rv a,rv b] X w0 M0 I0 (RQ (a.q - b.q) (k+m+1) M0 I0):=by
 refine aP Tryz.func118 rfl Tryz.ntmps118 rfl ?_
 refine fE ?_
 refine fG rfl (fun b1=>?_)
 refine fG rfl (fun b2=>?_)
 refine bG (fun b3=>?_)
 repeat refine aW ?_
 (repeat refine aJ ?_);refine aO 1 [0,1,2,3,4] [1,1,0,0,0] mixed (by kernel_rfl) ?_
 repeat refine aW ?_
 refine iG rfl (aUV (k:=m) (by omega) hb) (fun y hy=>?_)
 rw [Rat.sub_eq_add_neg,←hy]
 refine iG rfl (aVC hk ha.cons (Hv.mem (List.Mem.head _))) (fun e he=>?_)
 repeat refine aW ?_
 refine bA (cs:=eR e) (.inl rfl) rfl rfl aA rfl M0 (cK e (k+m+1)::I0) aG aF ⟨rfl,e,rfl,he,rfl⟩
theorem aHI {a b:RE} {k m:Nat} (hk:k+m+1≤100000000000) (ha:Hv I0 (cK a k)) (hb:Hv I0 (cK b m)):
  CD Tryz.prog 54 [rv a,rv b] X w0 M0 I0 (fun v M I=>M0=M∧I0=I∧v= .int .i64 (aDX a.q b.q)):=by
 refine aP Tryz.func54 rfl Tryz.ntmps54 rfl ?_
 refine fE ?_
 refine fG rfl (fun b1=>?_)
 refine fG rfl (fun b2=>?_)
 repeat refine aW ?_
 refine iG rfl (aRY hk ha hb) (fun e he=>?_)
 refine dP rfl (aQI (k:=k+m+1) (by omega) (Hv.mem (List.Mem.head _))) ?_
 repeat refine aW ?_
 refine aH (by first|exact .inl rfl|exact .inr rfl) rfl rfl _ _ aG aF (⟨rfl,rfl,by rw [he,aTW]⟩)
theorem aKQ {a b:RE} {k m:Nat} (hk:k+m+1≤100000000000) (ha:Hv I0 (cK a k)) (hb:Hv I0 (cK b m)):
  CD Tryz.prog 16 [rv a,rv b] X w0 M0 I0 (fun v M I=>M0=M∧I0=I∧v= .bool (B (a.q=b.q))):=by
 refine aP Tryz.func16 rfl Tryz.ntmps16 rfl ?_
 refine fE ?_
 refine fG rfl (fun b1=>?_)
 refine fG rfl (fun b2=>?_)
 repeat refine aW ?_
 refine dP rfl (yF (k:=k) (by omega) ha) ?_
 repeat refine aW ?_
 refine dP rfl (yF (k:=m) (by omega) hb) ?_
 repeat refine aW ?_
 refine dP rfl (aHI hk ha hb) ?_
 repeat refine aW ?_
 refine gD rfl rfl (⟨rfl,rfl,congrArg Value.bool (gU vF)⟩)
end
end Go.Proofs.YtgpkjcmipiodcaaGreat
namespace Go.Proofs.YtgpkjcmipiodcaaGreat
open Go Go.Fx
structure RW where
 n1:Bool
 p1:Option Addr
 g1:List Int
 c1:Nat
 n2:Bool
 p2:Option Addr
 g2:List Int
 c2:Nat
instance:Inhabited RW:=⟨⟨false,none,[],0,false,none,[],0⟩⟩
abbrev eW (r:RW):List Value:=[.bool r.n1, .slice r.p1 r.g1.length r.c1, .bool r.n2, .slice r.p2 r.g2.length r.c2]
abbrev wv (r:RW):Value:= .agg #[.bool r.n1, .slice r.p1 r.g1.length r.c1, .bool r.n2, .slice r.p2 r.g2.length r.c2]
instance:Sized eW 4:=⟨fun _=>rfl⟩
instance:Ones eW:=⟨fun m u hu=>by
 simp only [eW,List.mem_cons,List.not_mem_nil,or_false] at hu
 rcases hu with rfl|rfl|rfl|rfl <;>rfl⟩
abbrev Cap (p:Option Addr) (n c:Nat):Prop:=n≤c∧(Ok p∨(n=0∧c=0))
structure RW.Fit (r:RW):Prop where
 u1:∀x∈r.g1,0≤x
 u2:∀x∈r.g2,0≤x
 l1:(r.g1.length:Int)≤9223372036854775807
 l2:(r.g2.length:Int)≤9223372036854775807
 k1:Cap r.p1 r.g1.length r.c1
 k2:Cap r.p2 r.g2.length r.c2
structure IsW (r:RW) (X:List Nat) (w:World):Prop where
 fit:r.Fit
 s1:Sl X w r.p1 (recs eG r.g1)
 s2:Sl X w r.p2 (recs eG r.g2)
abbrev isW (r:RW):aV:=IsW r
instance (r:RW):Fx.Good (IsW r):=⟨fun X Y w w' h he hY=>⟨h.fit,Sl.carry h.s1 he hY,Sl.carry h.s2 he hY⟩⟩
def zI (n:Bool) (g:List Int):Int:=if n=true then -val g else val g
theorem aMX {n:Bool} {g:List Int} (h:uN n g) (hu:∀x∈g,0≤x):B (zI n g < 0)=n∧gr (zI n g).natAbs=g:=by
 rcases h with ⟨rfl,rfl⟩|⟨h1,h2,h3⟩
 ·exact ⟨bF (by simp [zI,val]),by simp [zI,val,fO]⟩
 ·have hd:Dig g:=fun x hx=>⟨hu x hx,by
   have:¬1000000000≤x:=fun e=>h3 ⟨x,hx,e⟩
   omega⟩
  have hc:Can g:=⟨hd,h2⟩
  have hp:0 < g.length:=by cases g with|nil=>exact absurd rfl h1|cons a l=>simp
  have hv:=aAU hc hp
  have hpp:=jD (g.length - 1)
  have ha:(zI n g).natAbs=(val g).toNat:=by unfold zI;split <;>omega
  refine ⟨?_,by rw [ha];exact (aTX hc).symm⟩
  cases n with
  |true=>exact cB (by simp only [zI,if_pos];omega)
  |false=>exact bF (by simp only [zI];rw [if_neg (by decide)];omega)
theorem aGV (z:Int):zI (B (z < 0)) (gr z.natAbs)=z:=by
 unfold zI
 rw [bT,rZ]
 by_cases h:z < 0
 ·rw [if_pos (by simpa using h)];omega
 ·rw [if_neg (by simpa using h)];omega
theorem aXR (n:Nat):(1000000000:Nat) ^ n≤2 ^ (30*n):=by
 rw [Nat.pow_mul]
 exact Nat.pow_le_pow_left (by decide) n
theorem aWD {z:Int}:z.natAbs≤2 ^ (30*(gr z.natAbs).length):=by
 have h1:=jG (bK z.natAbs)
 rw [bT] at h1
 have h2:=aXR (gr z.natAbs).length
 have h3:((1000000000 ^ (gr z.natAbs).length:Nat):Int)=(1000000000:Int) ^ (gr z.natAbs).length:=by rw [Int.natCast_pow];rfl
 omega
def RW.good (r:RW):Prop:=uN r.n1 r.g1∧uN r.n2 r.g2∧0 < zI r.n2 r.g2∧Int.gcd (zI r.n1 r.g1) (zI r.n2 r.g2)=1
instance (r:RW):Decidable r.good:=by unfold RW.good;exact inferInstance
def RE.raw (e:RE):RW:=⟨B (e.q.num < 0),e.p1,gr e.q.num.natAbs,e.c1,B ((e.q.den:Int) < 0),e.p2,gr (e.q.den:Int).natAbs,e.c2⟩
theorem RE.raw_good (e:RE):e.raw.good:=by
 refine ⟨aBE _,aBE _,?_,?_⟩
 ·show 0 < zI (B ((e.q.den:Int) < 0)) (gr (e.q.den:Int).natAbs)
  rw [aGV];have:=e.q.den_nz;omega
 ·show Int.gcd (zI (B (e.q.num < 0)) (gr e.q.num.natAbs)) (zI (B ((e.q.den:Int) < 0)) (gr (e.q.den:Int).natAbs))=1
  rw [aGV,aGV]
  exact e.q.reduced
theorem RE.fit {e:RE} {k:Nat} {X:List Nat} {w:World} (hk:k≤1000000000000) (h:IsR e k X w):IsW e.raw X w:=by
 obtain ⟨q,c,h1,h2,h3,h4⟩:=h.num.ex
 obtain ⟨q',c',i1,i2,i3,i4⟩:=h.den.ex
 simp only [iv,Value.agg.injEq,Array.mk.injEq,List.cons.injEq,Value.slice.injEq,and_true,true_and] at h1 i1
 obtain ⟨rfl,rfl⟩:=h1
 obtain ⟨rfl,rfl⟩:=i1
 have a1:=gL h3 hk
 have a2:=gL i3 hk
 exact ⟨⟨fun x hx=>(bK _ x hx).1,fun x hx=>(bK _ x hx).1,by show ((gr e.q.num.natAbs).length:Int)≤_;omega,by show ((gr (e.q.den:Int).natAbs).length:Int)≤_;omega,h2,i2⟩,h4,i4⟩
section
variable {X:List Nat} {w0:World} {M0:List Ent} {I0:List aV}
theorem aRS {P:Program} {f:FuncId} {vs:List Value} {K:Value→Prop} {r:RW} (h:Hv I0 (isW r)) (c:r.Fit→CD P f vs X w0 M0 (aI r.p1 (recs eG r.g1)::aI r.p2 (recs eG r.g2)::I0) (fun v M I=>M0=M∧aI r.p1 (recs eG r.g1)::aI r.p2 (recs eG r.g2)::I0=I∧K v)):
  CD P f vs X w0 M0 I0 (fun v M I=>M0=M∧I0=I∧K v):=⟨fun w hw=>by
 have hr:IsW r (muts M0) w:=h.go _ _ (fun ψ hm=>(hw.imm ψ hm).2)
 have hw':=(hw.add (φ:=aI r.p2 (recs eG r.g2)) ⟨hr.s2⟩).add (φ:=aI r.p1 (recs eG r.g1)) ⟨hr.s1⟩
 refine ((c hr.fit).go w hw').mono (fun _ _ h=>?_)
 obtain ⟨_,_,⟨rfl,rfl,h3⟩,hm⟩:=h
 exact ⟨_,_,⟨rfl,rfl,h3⟩,hm.inc (Inc.wk (Inc.wk Inc.refl))⟩⟩
theorem aFL {P:Program} {f:FuncId} {vs:List Value} {K:Value→Prop} {p:Option Addr} {c k:Nat} {z:Int} (hs:aI p (recs eG (gr z.natAbs))∈I0) (hc:Cap p (gr z.natAbs).length c) (hk:30*(gr z.natAbs).length≤k) (h:CD P f vs X w0 M0 (iB (vI p c z) z k::I0) (fun v M I=>M0=M∧iB (vI p c z) z k::I0=I∧K v)):
  CD P f vs X w0 M0 I0 (fun v M I=>M0=M∧I0=I∧K v):=⟨fun w hw=>by
 have hw':=aGO hw hs hc (Nat.le_trans aWD (Nat.pow_le_pow_right (by decide) hk))
 refine (h.go w hw').mono (fun _ _ h=>?_)
 obtain ⟨_,_,⟨rfl,rfl,h3⟩,hm⟩:=h
 exact ⟨_,_,⟨rfl,rfl,h3⟩,hm.inc (Inc.wk Inc.refl)⟩⟩
theorem aXP (n:Nat):(fP (n:Int) 1=0)↔n=1:=by
 unfold fP
 split
 ·omega
 ·split <;>omega
theorem aML {p1 p2:Option Addr} {c1 c2 k:Nat} {y z:Int} (hk:k≤500000000000) (h1:iB (vI p1 c1 y) y k∈I0) (h2:iB (vI p2 c2 z) z k∈I0):
  CD Tryz.prog 77 [.agg #[.bool (B (y < 0)), .slice p1 (gr y.natAbs).length c1, .bool (B (z < 0)), .slice p2 (gr z.natAbs).length c2]] X w0 M0 I0 (fun v M I=>M0=M∧I0=I∧v= .bool (B (0 < z∧Int.gcd y z=1))):=by
 have hV1:=fun M0 I0 h=>tX (X:=X) (w0:=w0) (M0:=M0) (I0:=I0) (u:=vI p1 c1 y) (z:=y) (k:=k) (by omega) h
 have hV2:=fun M0 I0 h=>tX (X:=X) (w0:=w0) (M0:=M0) (I0:=I0) (u:=vI p2 c2 z) (z:=z) (k:=k) (by omega) h
 have hS:=fun M0 I0=>oC (X:=X) (w0:=w0) (M0:=M0) (I0:=I0) (u:=vI p2 c2 z) (z:=z) (k:=k) (by omega)
 have hs:z.sign≤0↔¬0 < z:=by rw [←Int.sign_pos_iff];omega
 have hG:=fun M0 I0=>aGT (X:=X) (w0:=w0) (M0:=M0) (I0:=I0) (u:=vI p1 c1 y) (v:=vI p2 c2 z) (y:=y) (z:=z) (k0:=k) (m:=k) (by omega) (by omega)
 generalize hg:Int.gcd y z=g at*
 have hC:=fun u v M0 I0=>yG (X:=X) (w0:=w0) (M0:=M0) (I0:=I0) (u:=u) (v:=v) (y:=g) (z:=1) (k:=k+k) (m:=63) (by omega) (by omega)
 have hc:=aXP g
 generalize fP (g:Int) 1=cv at*
 generalize z.sign=sz at*
 refine aZ Tryz.func77 rfl Tryz.ntmps77 rfl ?_
 refine fE ?_
 refine fG rfl (fun b=>?_)
 repeat refine aW ?_
 refine dP rfl (hV1 _ _ aA) ?_
 repeat refine aW ?_
 refine dP rfl (hV2 _ _ aA) ?_
 repeat refine aW ?_
 refine dP rfl (hS _ _ aA) ?_
 repeat' (first|refine aW ?_|refine aQ rfl (fun h=>?_) (fun h=>?_)|refine aR rfl rfl (fun h=>?_) (fun h=>?_)|fail)
 ·refine aH (by first|exact .inl rfl|exact .inr rfl) rfl rfl _ _ aG aF (⟨rfl,rfl,congrArg Value.bool (bF (fun e=>hs.1 (by assumption) e.1)).symm⟩)
 (refine aU rfl (hG _ _ aA aA) ?_;rintro _ _ _ ⟨rfl,rfl⟩;refine aL ?_)
 repeat refine aW ?_
 (refine aU rfl (aEC (x:=1) (by decide)) ?_;rintro _ _ _ ⟨rfl,rfl⟩;refine aL ?_)
 refine dP rfl (hC _ _ _ _ aA aA) ?_
 repeat refine aW ?_
 refine gD rfl rfl (⟨rfl,rfl,congrArg Value.bool (gU ⟨fun e=>⟨by omega,hc.1 e⟩,fun e=>hc.2 e.2⟩)⟩)
theorem aOR {r:RW} (hl:r.g1.length≤1000000000∧r.g2.length≤1000000000) (h:Hv I0 (isW r)):
  CD Tryz.prog 77 [wv r] X w0 M0 I0 (fun v M I=>M0=M∧I0=I∧v= .bool (B r.good)):=by
 refine aRS h (fun hf=>?_)
 obtain ⟨n1,p1,g1,c1,n2,p2,g2,c2⟩:=r
 simp only at hl
 by_cases k1:uN n1 g1
 ·by_cases k2:uN n2 g2
  ·obtain ⟨a1,a2⟩:=aMX k1 hf.u1
   obtain ⟨b1,b2⟩:=aMX k2 hf.u2
   have hg:(RW.mk n1 p1 g1 c1 n2 p2 g2 c2).good↔(0 < zI n2 g2∧Int.gcd (zI n1 g1) (zI n2 g2)=1):=⟨fun h=>h.2.2,fun h=>⟨k1,k2,h⟩⟩
   rw [gU hg]
   generalize zI n1 g1=y at*
   generalize zI n2 g2=z at*
   subst a1;subst a2;subst b1;subst b2
   refine aFL (p:=p1) (c:=c1) (z:=y) (k:=30000000000) (List.Mem.head _) hf.k1 (by omega) ?_
   refine aFL (p:=p2) (c:=c2) (z:=z) (k:=30000000000) (List.Mem.tail _ (List.Mem.tail _ (List.Mem.head _))) hf.k2 (by omega) ?_
   exact aML (by omega) (List.Mem.tail _ (List.Mem.head _)) (List.Mem.head _)
  ·have hg:¬(RW.mk n1 p1 g1 c1 n2 p2 g2 c2).good:=fun h=>k2 h.2.1
   rw [bF hg]
   have hV1:=fun M0 I0=>wG (X:=X) (w0:=w0) (M0:=M0) (I0:=I0) (neg:=n1) (q:=p1) (gs:=g1) (c:=c1) hf.l1
   have hV2:=fun M0 I0=>wG (X:=X) (w0:=w0) (M0:=M0) (I0:=I0) (neg:=n2) (q:=p2) (gs:=g2) (c:=c2) hf.l2
   rw [cB k1] at hV1
   rw [bF k2] at hV2
   refine aZ Tryz.func77 rfl Tryz.ntmps77 rfl ?_
   refine fE ?_
   refine fG rfl (fun b=>?_)
   repeat refine aW ?_
   refine dP rfl (hV1 _ _ aA) ?_
   repeat refine aW ?_
   refine dP rfl (hV2 _ _ aA) ?_
   repeat refine aW ?_
   refine gD rfl rfl (⟨rfl,rfl,rfl⟩)
 ·have hg:¬(RW.mk n1 p1 g1 c1 n2 p2 g2 c2).good:=fun h=>k1 h.1
  rw [bF hg]
  have hV1:=fun M0 I0=>wG (X:=X) (w0:=w0) (M0:=M0) (I0:=I0) (neg:=n1) (q:=p1) (gs:=g1) (c:=c1) hf.l1
  rw [bF k1] at hV1
  refine aZ Tryz.func77 rfl Tryz.ntmps77 rfl ?_
  refine fE ?_
  refine fG rfl (fun b=>?_)
  repeat refine aW ?_
  refine dP rfl (hV1 _ _ aA) ?_
  repeat refine aW ?_
  refine gD rfl rfl (⟨rfl,rfl,rfl⟩)
end
end Go.Proofs.YtgpkjcmipiodcaaGreat
namespace Go.Fx
section
variable {P:Program} {ops:Array Oper} {Q:Exit→Act→World→Prop} {Cs Cs':Nat→World→Prop}
end
section
variable {P:Program} {n:Nat} {Q:Exit→Act→World→Prop} {G:Env} {X:List Nat} {w0:World} {M M1 M2:List Ent} {I I1 I2:List aV} {l:List Oper}
end
section
variable {P:Program} {n:Nat} {ops l:List Oper} {Q:Exit→Act→World→Prop} {m:Mode} {G:Env} {ty:TypeId} {pos:String} {af:Array Edge} {g:Option (Nat × Bool)} {X:List Nat} {w0:World} {M M':List Ent} {I:List aV}
/- a store into a row that may still grow -/
end
theorem tT {P:Program} {ops:Array Oper} {Q1 Q2:Exit→Act→World→Prop} (h:∀a w,Q1 .normal a w→Q2 .normal a w):∀(r:List Oper) (m:Mode) (a:Act) (w:World),wpM P ops Q1 m r a w→wpM P ops Q2 m r a w
 |[],_,a,w,hh=>h a w hh
 |o::r,m,a,w,hh=>⟨fun hw=>(hh.1 hw).imp (fun ⟨h1,v,h2,h3⟩=>⟨h1,v,h2,tT h r _ _ _ h3⟩) (fun ⟨h1,h2⟩=>⟨h1,Oper.wp_mono (fun a w ⟨x,y⟩=>⟨x,tT h r _ _ _ y⟩) h2⟩),fun hw=>⟨(hh.2 hw).1,tT h r _ _ _ (hh.2 hw).2⟩⟩
section
variable {P:Program} {n:Nat} {ops l:List Oper} {Q Q' Q1 Q2:Exit→Act→World→Prop} {m:Mode} {G:Env} {X:List Nat} {w0:World} {M M':List Ent} {I:List aV}
/- a cut from within a region that a test follows -/
theorem aHH {c y:Code} (J:Env→List Ent→List aV→Prop) (h:RD P n ops (Then (c.wp P (Then (aPQ n J X w0) Q1)) Q2) m l G X w0 M I) (k:∀G' M' I',J G' M' I'→TD P n y Q' G' X w0 M' I'):RD P n ops (Then (c.wp P (Then (y.wp P Q') Q1)) Q2) m l G X w0 M I:=
 ⟨fun w hw=>⟨fun a ha=>tT (fun a w q=>by
  unfold Then at q ⊢
  refine Code.wp_mono (fun e a w q=>?_) q
  cases e <;>first|exact q|(obtain ⟨G',⟨M',I',hJ,hm⟩,hh⟩:=q;exact ((k G' M' I' hJ).go w hm).go a hh)) l m a w ((h.go w hw).go a ha)⟩⟩
end
end Go.Fx
