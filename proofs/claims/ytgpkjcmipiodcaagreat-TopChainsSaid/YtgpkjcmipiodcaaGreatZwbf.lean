/- crs: Between. -/
import Derived.Test.YtgpkjcmipiodcaaGreatZwbe
import Derived.Test.YtgpkjcmipiodcaaGreatZwan
import Derived.Test.YtgpkjcmipiodcaaGreatZwaz
import Derived.Test.YtgpkjcmipiodcaaGreatZway
import Derived.Test.YtgpkjcmipiodcaaGreatZwbc
set_option linter.unusedSimpArgs false
set_option linter.unusedVariables false
set_option maxRecDepth 100000
set_option maxHeartbeats 4000000
namespace Go.Proofs.YtgpkjcmipiodcaaGreat
open Go Go.Fx
def arrL (b i:Nat) (f:TE):RL:=⟨some ⟨b,0+(i:Int).toNat*12,none⟩,3,[f.x,f.y,f.z]⟩
theorem Hv.arrL {I:List aV} {fs:List TE} {b i k:Nat} (h:aI (some ⟨b,0,none⟩) (recs eT fs)∈I) (hi:i < fs.length) (ht:Hv I (gN (gt fs (i:Int)) k)):Hv I (lK (arrL b i (gt fs (i:Int))) k):=⟨fun X w hw=>⟨by
 have h1:=((hw _ h:SlI _ _ X w).go).drop ((i:Int).toNat*12)
 have h2:=h1.take 12
 rw [aJM (enc:=eT) ⟨by omega,by omega⟩] at h2
 simp only [Option.map,add_lit] at h2
 exact h2,fun e he=>by
 have h1:=ht.go X w hw
 have he:e∈[(gt fs (i:Int)).x,(gt fs (i:Int)).y,(gt fs (i:Int)).z]:=he
 simp only [List.mem_cons,List.not_mem_nil,or_false] at he
 rcases he with rfl|rfl|rfl
 ·exact h1.x
 ·exact h1.y
 ·exact h1.z,⟨Nat.le_refl 3, .inl (Ok.mk _ _)⟩⟩⟩
theorem bi3 {a b c:TE} {i:Int} (h:0≤i∧i < 3):0≤i∧i < ([a,b,c]:List TE).length:=h
theorem StAts.se2 {x:SE} {r:TE}:StAts (pX x) 8 (eT r) (pX ⟨x.s,x.q,r⟩):=⟨rfl,by show 8+12≤20;omega⟩
def BtwQ (q:Qn) (s:V3) (M0:List Ent) (I0:List aV) (v:Value) (M:List Ent) (I:List aV):Prop:=M0=M∧((v= .tuple #[.agg zSE.toArray, .int .i64 13]∧I0=I)∨(∃x:SE,v= .tuple #[sev x, .int .i64 0]∧x.s.q=Qn.nR q∧x.t.v=s∧I=gM x 1554 2068::I0))
section
variable {X:List Nat} {w0:World} {M0 M1:List Ent} {I0:List aV}
theorem aVF {a:MX} {k0:Nat} (hk:k0≤100000) (h:dt 3 (at2 a.q)≠0) (da:a.fit 3 3) (ha:pW a k0∈I0):CD Tryz.prog 47 [mv a] X w0 M0 I0 (XQc (zU 3 a.q) 3 3 (4*(4*(4*k0+1)+1)+1) M0 I0):=by
 have hb:kb k0 3=4*(4*(4*k0+1)+1)+1:=rfl
 have:=aHC (X:=X) (w0:=w0) (M0:=M0) (I0:=I0) (a:=a) (n:=3) (k0:=k0) (by omega) (by omega) da ha
 simp only [if_neg h,hb] at this
 exact this
theorem aIJ {q:Qn} {s:V3} {f0 f1 f2 t0 t1 t2:TE} (hz:q.nz) (hf:q.fit) (e0:t0.v=(q.app f0.v).add s) (e1:t1.v=(q.app f1.v).add s) (e2:t2.v=(q.app f2.v).add s)
  (h0:gN f0 64∈I0) (h1:gN f1 64∈I0) (h2:gN f2 64∈I0) (h3:gN t0 64∈I0) (h4:gN t1 64∈I0) (h5:gN t2 64∈I0):
  CD Tryz.prog 15 [.agg (recs eT [f0,f1,f2]).toArray, .agg (recs eT [t0,t1,t2]).toArray] X w0 M0 I0 (BtwQ q s M0 I0):=by
 have hn:=Qn.nR_nz hz
 refine aP Tryz.func15 rfl Tryz.ntmps15 rfl ?_
 refine fE ?_
 refine fG rfl (fun b2=>?_)
 refine aC (cs:=recs eT [f0,f1,f2]) .here ?_
 refine fG rfl (fun b3=>?_)
 refine aC (cs:=recs eT [t0,t1,t2]) .here ?_
 refine bG (fun b4=>?_)
 repeat refine aB ?_
 refine kS [2,3,4] rfl (fun k G M I=>∃i:Nat,i≤3∧k=3 - i∧G=[(23, .int .i64 (i:Int))]∧M= .blk b4 zSE 48::M0∧aI (some ⟨b3,0,none⟩) (recs eT [t0,t1,t2])::aI (some ⟨b2,0,none⟩) (recs eT [f0,f1,f2])::I0=I) (3) (⟨0,by omega,rfl,rfl,rfl,rfl⟩) ?_
 rintro kk G M I ⟨i,hi,rfl,rfl,rfl,rfl⟩
 by_cases hi3:i < 3
 ·have hfl:([f0,f1,f2]:List TE).length=3:=rfl
  have htl:([t0,t1,t2]:List TE).length=3:=rfl
  refine bD (φ:=gN (gt [f0,f1,f2] (i:Int)) 64) (by
   obtain rfl|rfl|rfl:i=0∨i=1∨i=2:=by omega
   ·exact Hv.mem (φ:=gN f0 64) aA
   ·exact Hv.mem (φ:=gN f1 64) aA
   ·exact Hv.mem (φ:=gN f2 64) aA) ?_
  refine bD (φ:=gN (gt [t0,t1,t2] (i:Int)) 64) (by
   obtain rfl|rfl|rfl:i=0∨i=1∨i=2:=by omega
   ·exact Hv.mem (φ:=gN t0 64) aA
   ·exact Hv.mem (φ:=gN t1 64) aA
   ·exact Hv.mem (φ:=gN t2 64) aA) ?_
  refine bD (φ:=lK (arrL b2 i (gt [f0,f1,f2] (i:Int))) 64) (Hv.arrL (fs:=[f0,f1,f2]) aA (by omega) (Hv.mem aA)) ?_
  refine bD (φ:=lK (arrL b3 i (gt [t0,t1,t2] (i:Int))) 64) (Hv.arrL (fs:=[t0,t1,t2]) aA (by omega) (Hv.mem aA)) ?_
  repeat refine aB ?_
  (repeat refine aJ ?_);refine aO 2 [0,1,2,3,4,5,6,7,8] [2,2,1,2,2,1,0,0,0] mixed (by kernel_rfl) ?_
  repeat refine aB ?_
  (refine aD rfl (fun _=>eF rfl) rfl rfl ?_)
  repeat refine aB ?_
  (refine aD rfl (fun _=>eF rfl) rfl rfl ?_)
  refine lL (cs:=recs eL [(arrL b2 i (gt [f0,f1,f2] (i:Int))),(arrL b3 i (gt [t0,t1,t2] (i:Int)))]) ([lv (arrL b2 i (gt [f0,f1,f2] (i:Int))),lv (arrL b3 i (gt [t0,t1,t2] (i:Int)))]) rfl (fun b32=>?_)
  refine fH (φ:=vP [(arrL b2 i (gt [f0,f1,f2] (i:Int))),(arrL b3 i (gt [t0,t1,t2] (i:Int)))] 64) (Hv.allL2 (Hv.mem aA) (Hv.mem aA)) ?_
  refine jC (mm:=2) 1 .here rfl (by omega) ?_
  refine aMH (rows:=[(arrL b2 i (gt [f0,f1,f2] (i:Int))),(arrL b3 i (gt [t0,t1,t2] (i:Int)))]) (k:=64) aA ?_
  (refine aS rfl (aBD (m:=⟨some ⟨b32,0,none⟩,2,[(arrL b2 i (gt [f0,f1,f2] (i:Int))),(arrL b3 i (gt [t0,t1,t2] (i:Int)))]⟩) (kb:=64) (n:=2) (by omega) rfl (by decide) (fun r hr=>by
   have hr:r∈[(arrL b2 i (gt [f0,f1,f2] (i:Int))),(arrL b3 i (gt [t0,t1,t2] (i:Int)))]:=hr
   simp only [List.mem_cons,List.not_mem_nil,or_false] at hr
   rcases hr with rfl|rfl
   ·show 3≤100;omega
   ·show 3≤100;omega) (Hv.mem aA)) rfl rfl ?_;rintro _ _ _ ⟨rfl,rfl,rfl⟩;refine aL ?_)
  repeat refine aB ?_
  refine iC (3 - (i+1)) (⟨i+1,by omega,rfl,rfl,rfl,rfl⟩)
 obtain rfl:i=3:=by omega
 repeat refine aB ?_
 refine kH (fun G M I=>∃(b7 b8:Nat) (u v:TE),u.v=f1.v.sub f0.v∧v.v=f2.v.sub f0.v∧G=[(2, .pointer (some ⟨b2,0,none⟩)),(3, .pointer (some ⟨b3,0,none⟩)),(4, .pointer (some ⟨b4,0,none⟩)),(7, .pointer (some ⟨b7,0,none⟩)),(8, .pointer (some ⟨b8,0,none⟩))]∧M= .blk b7 (eT u) 45:: .blk b8 (eT v) 45:: .blk b4 zSE 48::M0∧gN v 129::gN u 129::aI (some ⟨b3,0,none⟩) (recs eT [t0,t1,t2])::aI (some ⟨b2,0,none⟩) (recs eT [f0,f1,f2])::I0=I) ?_ ?_
 ·((repeat refine aJ ?_);refine lG (M0) (aI (some ⟨b2,0,none⟩) (recs eT [f0,f1,f2])::I0) mixed ?_)
  refine dH (fuel:=6) (listed':=#[true,true,true,true,false,true,true,true,true,false,false,false,false,false]) [0,1,2,3,5,6,7,8] [4,3,4,3,5,4,5,4] aG aF (by kernel_rfl) (by kernel_rfl) rfl rfl ?_
  repeat refine aB ?_
  (apply bL;exact gQ;exact rfl;exact aA;exact (AtsZ.v0 (enc:=eT) (ms:=[f0,f1,f2]) (i:=1) (bi3 (by decide)));exact rfl;exact rfl)
  repeat refine aB ?_
  (apply bL;exact gQ;exact rfl;exact aA;exact (AtsZ.v0 (enc:=eT) (ms:=[f0,f1,f2]) (i:=0) (bi3 (by decide)));exact rfl;exact rfl)
  repeat refine aB ?_
  (apply bL;exact gQ;exact rfl;exact aA;exact (AtsZ.v0 (enc:=eT) (ms:=[f0,f1,f2]) (i:=2) (bi3 (by decide)));exact rfl;exact rfl)
  repeat refine aB ?_
  (apply bL;exact gQ;exact rfl;exact aA;exact (AtsZ.v0 (enc:=eT) (ms:=[f0,f1,f2]) (i:=0) (bi3 (by decide)));exact rfl;exact rfl)
  repeat refine aB ?_
  refine fC (fuel:=5) (i:=4) (j:=10) (m:=11) (by kernel_rfl) ?_ ?_ ?_
  ·(refine aU rfl (dD (a:=f1) (b:=f0) (ka:=64) (kb:=64) (K:=129) (by decide) (by decide) rfl (Hv.mem aA) (Hv.mem aA)) ?_;rintro _ _ _ ⟨rfl,u,rfl,hu,rfl⟩;refine aL ?_)
   refine aT ?_
   repeat refine aB ?_
   refine fC (fuel:=4) (i:=9) (j:=10) (m:=11) (by kernel_rfl) ?_ ?_ ?_
   ·(refine aU rfl (dD (a:=f2) (b:=f0) (ka:=64) (kb:=64) (K:=129) (by decide) (by decide) rfl (Hv.mem aA) (Hv.mem aA)) ?_;rintro _ _ _ ⟨rfl,v,rfl,hv,rfl⟩;refine aL ?_)
    refine aT ?_
    repeat refine aB ?_
    refine aN (fuel:=3) (i:=10) (j:=11) (by kernel_rfl) ?_ ?_
    ·refine bG (fun b7=>?_)
     refine aT ?_
     refine aM [11,12,13] [0,0,0] aG aF (by kernel_rfl) (by kernel_rfl) rfl rfl ?_
     repeat refine aB ?_
     refine bG (fun b8=>?_)
     repeat refine aB ?_
     refine mR ⟨b7,b8,u,v,hu,hv,rfl,rfl,rfl⟩
    ·refine bG (fun b8=>?_)
     refine aT ?_
     refine aM [10,12,13] [0,0,0] aG aF (by kernel_rfl) (by kernel_rfl) rfl rfl ?_
     repeat refine aB ?_
     refine bG (fun b7=>?_)
     repeat refine aB ?_
     refine mR ⟨b7,b8,u,v,hu,hv,rfl,rfl,rfl⟩
   ·refine bG (fun b7=>?_)
    refine aT ?_
    repeat refine aB ?_
    refine aN (fuel:=3) (i:=9) (j:=11) (by kernel_rfl) ?_ ?_
    ·(refine aU rfl (dD (a:=f2) (b:=f0) (ka:=64) (kb:=64) (K:=129) (by decide) (by decide) rfl (Hv.mem aA) (Hv.mem aA)) ?_;rintro _ _ _ ⟨rfl,v,rfl,hv,rfl⟩;refine aL ?_)
     refine aT ?_
     refine aM [11,12,13] [0,0,0] aG aF (by kernel_rfl) (by kernel_rfl) rfl rfl ?_
     repeat refine aB ?_
     refine bG (fun b8=>?_)
     repeat refine aB ?_
     refine mR ⟨b7,b8,u,v,hu,hv,rfl,rfl,rfl⟩
    ·refine bG (fun b8=>?_)
     refine aT ?_
     refine aM [9,12,13] [0,0,0] aG aF (by kernel_rfl) (by kernel_rfl) rfl rfl ?_
     repeat refine aB ?_
     (refine aU rfl (dD (a:=f2) (b:=f0) (ka:=64) (kb:=64) (K:=129) (by decide) (by decide) rfl (Hv.mem aA) (Hv.mem aA)) ?_;rintro _ _ _ ⟨rfl,v,rfl,hv,rfl⟩;refine aL ?_)
     repeat refine aB ?_
     refine mR ⟨b7,b8,u,v,hu,hv,rfl,rfl,rfl⟩
   ·refine bG (fun b8=>?_)
    refine aT ?_
    repeat refine aB ?_
    refine aN (fuel:=3) (i:=9) (j:=10) (by kernel_rfl) ?_ ?_
    ·(refine aU rfl (dD (a:=f2) (b:=f0) (ka:=64) (kb:=64) (K:=129) (by decide) (by decide) rfl (Hv.mem aA) (Hv.mem aA)) ?_;rintro _ _ _ ⟨rfl,v,rfl,hv,rfl⟩;refine aL ?_)
     refine aT ?_
     refine aM [10,12,13] [0,0,0] aG aF (by kernel_rfl) (by kernel_rfl) rfl rfl ?_
     repeat refine aB ?_
     refine bG (fun b7=>?_)
     repeat refine aB ?_
     refine mR ⟨b7,b8,u,v,hu,hv,rfl,rfl,rfl⟩
    ·refine bG (fun b7=>?_)
     refine aT ?_
     refine aM [9,12,13] [0,0,0] aG aF (by kernel_rfl) (by kernel_rfl) rfl rfl ?_
     repeat refine aB ?_
     (refine aU rfl (dD (a:=f2) (b:=f0) (ka:=64) (kb:=64) (K:=129) (by decide) (by decide) rfl (Hv.mem aA) (Hv.mem aA)) ?_;rintro _ _ _ ⟨rfl,v,rfl,hv,rfl⟩;refine aL ?_)
     repeat refine aB ?_
     refine mR ⟨b7,b8,u,v,hu,hv,rfl,rfl,rfl⟩
  ·refine bG (fun b7=>?_)
   refine aT ?_
   repeat refine aB ?_
   refine aN (fuel:=4) (i:=4) (j:=11) (by kernel_rfl) ?_ ?_
   ·(refine aU rfl (dD (a:=f1) (b:=f0) (ka:=64) (kb:=64) (K:=129) (by decide) (by decide) rfl (Hv.mem aA) (Hv.mem aA)) ?_;rintro _ _ _ ⟨rfl,u,rfl,hu,rfl⟩;refine aL ?_)
    refine aT ?_
    repeat refine aB ?_
    refine aN (fuel:=3) (i:=9) (j:=11) (by kernel_rfl) ?_ ?_
    ·(refine aU rfl (dD (a:=f2) (b:=f0) (ka:=64) (kb:=64) (K:=129) (by decide) (by decide) rfl (Hv.mem aA) (Hv.mem aA)) ?_;rintro _ _ _ ⟨rfl,v,rfl,hv,rfl⟩;refine aL ?_)
     refine aT ?_
     refine aM [11,12,13] [0,0,0] aG aF (by kernel_rfl) (by kernel_rfl) rfl rfl ?_
     repeat refine aB ?_
     refine bG (fun b8=>?_)
     repeat refine aB ?_
     refine mR ⟨b7,b8,u,v,hu,hv,rfl,rfl,rfl⟩
    ·refine bG (fun b8=>?_)
     refine aT ?_
     refine aM [9,12,13] [0,0,0] aG aF (by kernel_rfl) (by kernel_rfl) rfl rfl ?_
     repeat refine aB ?_
     (refine aU rfl (dD (a:=f2) (b:=f0) (ka:=64) (kb:=64) (K:=129) (by decide) (by decide) rfl (Hv.mem aA) (Hv.mem aA)) ?_;rintro _ _ _ ⟨rfl,v,rfl,hv,rfl⟩;refine aL ?_)
     repeat refine aB ?_
     refine mR ⟨b7,b8,u,v,hu,hv,rfl,rfl,rfl⟩
   ·refine bG (fun b8=>?_)
    refine aT ?_
    refine aM [4,9,12,13] [0,0,0,0] aG aF (by kernel_rfl) (by kernel_rfl) rfl rfl ?_
    repeat refine aB ?_
    (refine aU rfl (dD (a:=f1) (b:=f0) (ka:=64) (kb:=64) (K:=129) (by decide) (by decide) rfl (Hv.mem aA) (Hv.mem aA)) ?_;rintro _ _ _ ⟨rfl,u,rfl,hu,rfl⟩;refine aL ?_)
    repeat refine aB ?_
    (refine aU rfl (dD (a:=f2) (b:=f0) (ka:=64) (kb:=64) (K:=129) (by decide) (by decide) rfl (Hv.mem aA) (Hv.mem aA)) ?_;rintro _ _ _ ⟨rfl,v,rfl,hv,rfl⟩;refine aL ?_)
    repeat refine aB ?_
    refine mR ⟨b7,b8,u,v,hu,hv,rfl,rfl,rfl⟩
  ·refine bG (fun b8=>?_)
   refine aT ?_
   repeat refine aB ?_
   refine aN (fuel:=4) (i:=4) (j:=10) (by kernel_rfl) ?_ ?_
   ·(refine aU rfl (dD (a:=f1) (b:=f0) (ka:=64) (kb:=64) (K:=129) (by decide) (by decide) rfl (Hv.mem aA) (Hv.mem aA)) ?_;rintro _ _ _ ⟨rfl,u,rfl,hu,rfl⟩;refine aL ?_)
    refine aT ?_
    repeat refine aB ?_
    refine aN (fuel:=3) (i:=9) (j:=10) (by kernel_rfl) ?_ ?_
    ·(refine aU rfl (dD (a:=f2) (b:=f0) (ka:=64) (kb:=64) (K:=129) (by decide) (by decide) rfl (Hv.mem aA) (Hv.mem aA)) ?_;rintro _ _ _ ⟨rfl,v,rfl,hv,rfl⟩;refine aL ?_)
     refine aT ?_
     refine aM [10,12,13] [0,0,0] aG aF (by kernel_rfl) (by kernel_rfl) rfl rfl ?_
     repeat refine aB ?_
     refine bG (fun b7=>?_)
     repeat refine aB ?_
     refine mR ⟨b7,b8,u,v,hu,hv,rfl,rfl,rfl⟩
    ·refine bG (fun b7=>?_)
     refine aT ?_
     refine aM [9,12,13] [0,0,0] aG aF (by kernel_rfl) (by kernel_rfl) rfl rfl ?_
     repeat refine aB ?_
     (refine aU rfl (dD (a:=f2) (b:=f0) (ka:=64) (kb:=64) (K:=129) (by decide) (by decide) rfl (Hv.mem aA) (Hv.mem aA)) ?_;rintro _ _ _ ⟨rfl,v,rfl,hv,rfl⟩;refine aL ?_)
     repeat refine aB ?_
     refine mR ⟨b7,b8,u,v,hu,hv,rfl,rfl,rfl⟩
   ·refine bG (fun b7=>?_)
    refine aT ?_
    refine aM [4,9,12,13] [0,0,0,0] aG aF (by kernel_rfl) (by kernel_rfl) rfl rfl ?_
    repeat refine aB ?_
    (refine aU rfl (dD (a:=f1) (b:=f0) (ka:=64) (kb:=64) (K:=129) (by decide) (by decide) rfl (Hv.mem aA) (Hv.mem aA)) ?_;rintro _ _ _ ⟨rfl,u,rfl,hu,rfl⟩;refine aL ?_)
    repeat refine aB ?_
    (refine aU rfl (dD (a:=f2) (b:=f0) (ka:=64) (kb:=64) (K:=129) (by decide) (by decide) rfl (Hv.mem aA) (Hv.mem aA)) ?_;rintro _ _ _ ⟨rfl,v,rfl,hv,rfl⟩;refine aL ?_)
    repeat refine aB ?_
    refine mR ⟨b7,b8,u,v,hu,hv,rfl,rfl,rfl⟩
 rintro G M I ⟨b7,b8,u,v,hu,hv,rfl,rfl,rfl⟩
 refine mQ (fun _ hw=>hw.freezeB (cs:=eT u) .here) ?_
 refine mQ (fun _ hw=>hw.freezeB (cs:=eT v) .here) ?_
 repeat refine aB ?_
 (refine aU rfl (aFP (a:=u) (b:=v) (ka:=129) (kb:=129) (K:=517) (by decide) (by decide) rfl (Hv.mem aA) (Hv.mem aA)) ?_;rintro _ _ _ ⟨rfl,w,rfl,hw,rfl⟩;refine aL ?_)
 refine bG (fun b9=>?_)
 repeat refine aB ?_
 refine iG rfl (qJ (a:=w) (b:=w) (k:=517) (m:=517) (by decide) (Hv.mem aA) (Hv.mem aA)) (fun d hd=>?_)
 refine dP rfl (kV (e:=d) (k:=3*(517+517+1)) (by decide) (Hv.mem aA)) ?_
 rw [hw] at hd
 by_cases hw0:(u.v.crs v.v).dot (u.v.crs v.v)=0
 ·rw [show d.q.num.sign=0 by rw [hd,hw0];rfl]
  repeat refine aB ?_
  (refine aD rfl (fun _=>aK (pvs:=([]).zipIdx.map (fun p=>(p.2,p.1))) (cells:=zSE) rfl rfl) rfl rfl ?_)
  repeat refine aB ?_
  refine dI (rs:=[.cell 4 48, .tmp 5]) (vs:=[.agg zSE.toArray, .int .i64 13]) (.inl rfl) rfl (.cellN (cs:=zSE) inferInstance rfl aA rfl (.tmp rfl .nil)) rfl M0 I0 aG aF ⟨rfl, .inl ⟨rfl,rfl⟩⟩
 have hsg:d.q.num.sign≠0:=fun h=>hw0 (by rw [←hd];exact Rat.num_eq_zero.1 (Int.sign_eq_zero_iff_zero.1 h))
 generalize d.q.num.sign=sg at hsg
 have hu0:=bBA hw0
 repeat refine aB ?_
 refine kH (fun G M I=>∃(b10 b11:Nat) (x y:TE),x.v=t1.v.sub t0.v∧y.v=t2.v.sub t0.v∧G=[(2, .pointer (some ⟨b2,0,none⟩)),(3, .pointer (some ⟨b3,0,none⟩)),(4, .pointer (some ⟨b4,0,none⟩)),(7, .pointer (some ⟨b7,0,none⟩)),(8, .pointer (some ⟨b8,0,none⟩)),(10, .pointer (some ⟨b10,0,none⟩)),(11, .pointer (some ⟨b11,0,none⟩))]∧M= .blk b10 (eT x) 45:: .blk b11 (eT y) 45:: .blk b4 zSE 48::M0∧gN y 129::gN x 129::aI (some ⟨b8,0,none⟩) (eT v)::aI (some ⟨b7,0,none⟩) (eT u)::gN v 129::gN u 129::aI (some ⟨b3,0,none⟩) (recs eT [t0,t1,t2])::aI (some ⟨b2,0,none⟩) (recs eT [f0,f1,f2])::I0=I) ?_ ?_
 ·((repeat refine aJ ?_);refine lG (M0) (aI (some ⟨b3,0,none⟩) (recs eT [t0,t1,t2])::I0) mixed ?_)
  refine dH (fuel:=6) (listed':=#[true,true,true,true,false,true,true,true,true,false,false,false,false,false]) [0,1,2,3,5,6,7,8] [4,3,4,3,5,4,5,4] aG aF (by kernel_rfl) (by kernel_rfl) rfl rfl ?_
  repeat refine aB ?_
  (apply bL;exact gQ;exact rfl;exact aA;exact (AtsZ.v0 (enc:=eT) (ms:=[t0,t1,t2]) (i:=1) (bi3 (by decide)));exact rfl;exact rfl)
  repeat refine aB ?_
  (apply bL;exact gQ;exact rfl;exact aA;exact (AtsZ.v0 (enc:=eT) (ms:=[t0,t1,t2]) (i:=0) (bi3 (by decide)));exact rfl;exact rfl)
  repeat refine aB ?_
  (apply bL;exact gQ;exact rfl;exact aA;exact (AtsZ.v0 (enc:=eT) (ms:=[t0,t1,t2]) (i:=2) (bi3 (by decide)));exact rfl;exact rfl)
  repeat refine aB ?_
  (apply bL;exact gQ;exact rfl;exact aA;exact (AtsZ.v0 (enc:=eT) (ms:=[t0,t1,t2]) (i:=0) (bi3 (by decide)));exact rfl;exact rfl)
  repeat refine aB ?_
  refine fC (fuel:=5) (i:=4) (j:=10) (m:=11) (by kernel_rfl) ?_ ?_ ?_
  ·(refine aU rfl (dD (a:=t1) (b:=t0) (ka:=64) (kb:=64) (K:=129) (by decide) (by decide) rfl (Hv.mem aA) (Hv.mem aA)) ?_;rintro _ _ _ ⟨rfl,x,rfl,hx,rfl⟩;refine aL ?_)
   refine aT ?_
   repeat refine aB ?_
   refine fC (fuel:=4) (i:=9) (j:=10) (m:=11) (by kernel_rfl) ?_ ?_ ?_
   ·(refine aU rfl (dD (a:=t2) (b:=t0) (ka:=64) (kb:=64) (K:=129) (by decide) (by decide) rfl (Hv.mem aA) (Hv.mem aA)) ?_;rintro _ _ _ ⟨rfl,y,rfl,hy,rfl⟩;refine aL ?_)
    refine aT ?_
    repeat refine aB ?_
    refine aN (fuel:=3) (i:=10) (j:=11) (by kernel_rfl) ?_ ?_
    ·refine bG (fun b10=>?_)
     refine aT ?_
     refine aM [11,12,13] [0,0,0] aG aF (by kernel_rfl) (by kernel_rfl) rfl rfl ?_
     repeat refine aB ?_
     refine bG (fun b11=>?_)
     repeat refine aB ?_
     refine mR ⟨b10,b11,x,y,hx,hy,rfl,rfl,rfl⟩
    ·refine bG (fun b11=>?_)
     refine aT ?_
     refine aM [10,12,13] [0,0,0] aG aF (by kernel_rfl) (by kernel_rfl) rfl rfl ?_
     repeat refine aB ?_
     refine bG (fun b10=>?_)
     repeat refine aB ?_
     refine mR ⟨b10,b11,x,y,hx,hy,rfl,rfl,rfl⟩
   ·refine bG (fun b10=>?_)
    refine aT ?_
    repeat refine aB ?_
    refine aN (fuel:=3) (i:=9) (j:=11) (by kernel_rfl) ?_ ?_
    ·(refine aU rfl (dD (a:=t2) (b:=t0) (ka:=64) (kb:=64) (K:=129) (by decide) (by decide) rfl (Hv.mem aA) (Hv.mem aA)) ?_;rintro _ _ _ ⟨rfl,y,rfl,hy,rfl⟩;refine aL ?_)
     refine aT ?_
     refine aM [11,12,13] [0,0,0] aG aF (by kernel_rfl) (by kernel_rfl) rfl rfl ?_
     repeat refine aB ?_
     refine bG (fun b11=>?_)
     repeat refine aB ?_
     refine mR ⟨b10,b11,x,y,hx,hy,rfl,rfl,rfl⟩
    ·refine bG (fun b11=>?_)
     refine aT ?_
     refine aM [9,12,13] [0,0,0] aG aF (by kernel_rfl) (by kernel_rfl) rfl rfl ?_
     repeat refine aB ?_
     (refine aU rfl (dD (a:=t2) (b:=t0) (ka:=64) (kb:=64) (K:=129) (by decide) (by decide) rfl (Hv.mem aA) (Hv.mem aA)) ?_;rintro _ _ _ ⟨rfl,y,rfl,hy,rfl⟩;refine aL ?_)
     repeat refine aB ?_
     refine mR ⟨b10,b11,x,y,hx,hy,rfl,rfl,rfl⟩
   ·refine bG (fun b11=>?_)
    refine aT ?_
    repeat refine aB ?_
    refine aN (fuel:=3) (i:=9) (j:=10) (by kernel_rfl) ?_ ?_
    ·(refine aU rfl (dD (a:=t2) (b:=t0) (ka:=64) (kb:=64) (K:=129) (by decide) (by decide) rfl (Hv.mem aA) (Hv.mem aA)) ?_;rintro _ _ _ ⟨rfl,y,rfl,hy,rfl⟩;refine aL ?_)
     refine aT ?_
     refine aM [10,12,13] [0,0,0] aG aF (by kernel_rfl) (by kernel_rfl) rfl rfl ?_
     repeat refine aB ?_
     refine bG (fun b10=>?_)
     repeat refine aB ?_
     refine mR ⟨b10,b11,x,y,hx,hy,rfl,rfl,rfl⟩
    ·refine bG (fun b10=>?_)
     refine aT ?_
     refine aM [9,12,13] [0,0,0] aG aF (by kernel_rfl) (by kernel_rfl) rfl rfl ?_
     repeat refine aB ?_
     (refine aU rfl (dD (a:=t2) (b:=t0) (ka:=64) (kb:=64) (K:=129) (by decide) (by decide) rfl (Hv.mem aA) (Hv.mem aA)) ?_;rintro _ _ _ ⟨rfl,y,rfl,hy,rfl⟩;refine aL ?_)
     repeat refine aB ?_
     refine mR ⟨b10,b11,x,y,hx,hy,rfl,rfl,rfl⟩
  ·refine bG (fun b10=>?_)
   refine aT ?_
   repeat refine aB ?_
   refine aN (fuel:=4) (i:=4) (j:=11) (by kernel_rfl) ?_ ?_
   ·(refine aU rfl (dD (a:=t1) (b:=t0) (ka:=64) (kb:=64) (K:=129) (by decide) (by decide) rfl (Hv.mem aA) (Hv.mem aA)) ?_;rintro _ _ _ ⟨rfl,x,rfl,hx,rfl⟩;refine aL ?_)
    refine aT ?_
    repeat refine aB ?_
    refine aN (fuel:=3) (i:=9) (j:=11) (by kernel_rfl) ?_ ?_
    ·(refine aU rfl (dD (a:=t2) (b:=t0) (ka:=64) (kb:=64) (K:=129) (by decide) (by decide) rfl (Hv.mem aA) (Hv.mem aA)) ?_;rintro _ _ _ ⟨rfl,y,rfl,hy,rfl⟩;refine aL ?_)
     refine aT ?_
     refine aM [11,12,13] [0,0,0] aG aF (by kernel_rfl) (by kernel_rfl) rfl rfl ?_
     repeat refine aB ?_
     refine bG (fun b11=>?_)
     repeat refine aB ?_
     refine mR ⟨b10,b11,x,y,hx,hy,rfl,rfl,rfl⟩
    ·refine bG (fun b11=>?_)
     refine aT ?_
     refine aM [9,12,13] [0,0,0] aG aF (by kernel_rfl) (by kernel_rfl) rfl rfl ?_
     repeat refine aB ?_
     (refine aU rfl (dD (a:=t2) (b:=t0) (ka:=64) (kb:=64) (K:=129) (by decide) (by decide) rfl (Hv.mem aA) (Hv.mem aA)) ?_;rintro _ _ _ ⟨rfl,y,rfl,hy,rfl⟩;refine aL ?_)
     repeat refine aB ?_
     refine mR ⟨b10,b11,x,y,hx,hy,rfl,rfl,rfl⟩
   ·refine bG (fun b11=>?_)
    refine aT ?_
    refine aM [4,9,12,13] [0,0,0,0] aG aF (by kernel_rfl) (by kernel_rfl) rfl rfl ?_
    repeat refine aB ?_
    (refine aU rfl (dD (a:=t1) (b:=t0) (ka:=64) (kb:=64) (K:=129) (by decide) (by decide) rfl (Hv.mem aA) (Hv.mem aA)) ?_;rintro _ _ _ ⟨rfl,x,rfl,hx,rfl⟩;refine aL ?_)
    repeat refine aB ?_
    (refine aU rfl (dD (a:=t2) (b:=t0) (ka:=64) (kb:=64) (K:=129) (by decide) (by decide) rfl (Hv.mem aA) (Hv.mem aA)) ?_;rintro _ _ _ ⟨rfl,y,rfl,hy,rfl⟩;refine aL ?_)
    repeat refine aB ?_
    refine mR ⟨b10,b11,x,y,hx,hy,rfl,rfl,rfl⟩
  ·refine bG (fun b11=>?_)
   refine aT ?_
   repeat refine aB ?_
   refine aN (fuel:=4) (i:=4) (j:=10) (by kernel_rfl) ?_ ?_
   ·(refine aU rfl (dD (a:=t1) (b:=t0) (ka:=64) (kb:=64) (K:=129) (by decide) (by decide) rfl (Hv.mem aA) (Hv.mem aA)) ?_;rintro _ _ _ ⟨rfl,x,rfl,hx,rfl⟩;refine aL ?_)
    refine aT ?_
    repeat refine aB ?_
    refine aN (fuel:=3) (i:=9) (j:=10) (by kernel_rfl) ?_ ?_
    ·(refine aU rfl (dD (a:=t2) (b:=t0) (ka:=64) (kb:=64) (K:=129) (by decide) (by decide) rfl (Hv.mem aA) (Hv.mem aA)) ?_;rintro _ _ _ ⟨rfl,y,rfl,hy,rfl⟩;refine aL ?_)
     refine aT ?_
     refine aM [10,12,13] [0,0,0] aG aF (by kernel_rfl) (by kernel_rfl) rfl rfl ?_
     repeat refine aB ?_
     refine bG (fun b10=>?_)
     repeat refine aB ?_
     refine mR ⟨b10,b11,x,y,hx,hy,rfl,rfl,rfl⟩
    ·refine bG (fun b10=>?_)
     refine aT ?_
     refine aM [9,12,13] [0,0,0] aG aF (by kernel_rfl) (by kernel_rfl) rfl rfl ?_
     repeat refine aB ?_
     (refine aU rfl (dD (a:=t2) (b:=t0) (ka:=64) (kb:=64) (K:=129) (by decide) (by decide) rfl (Hv.mem aA) (Hv.mem aA)) ?_;rintro _ _ _ ⟨rfl,y,rfl,hy,rfl⟩;refine aL ?_)
     repeat refine aB ?_
     refine mR ⟨b10,b11,x,y,hx,hy,rfl,rfl,rfl⟩
   ·refine bG (fun b10=>?_)
    refine aT ?_
    refine aM [4,9,12,13] [0,0,0,0] aG aF (by kernel_rfl) (by kernel_rfl) rfl rfl ?_
    repeat refine aB ?_
    (refine aU rfl (dD (a:=t1) (b:=t0) (ka:=64) (kb:=64) (K:=129) (by decide) (by decide) rfl (Hv.mem aA) (Hv.mem aA)) ?_;rintro _ _ _ ⟨rfl,x,rfl,hx,rfl⟩;refine aL ?_)
    repeat refine aB ?_
    (refine aU rfl (dD (a:=t2) (b:=t0) (ka:=64) (kb:=64) (K:=129) (by decide) (by decide) rfl (Hv.mem aA) (Hv.mem aA)) ?_;rintro _ _ _ ⟨rfl,y,rfl,hy,rfl⟩;refine aL ?_)
    repeat refine aB ?_
    refine mR ⟨b10,b11,x,y,hx,hy,rfl,rfl,rfl⟩
 rintro G M I ⟨b10,b11,x,y,hx,hy,rfl,rfl,rfl⟩
 refine mQ (fun _ hw=>hw.freezeB (cs:=eT x) .here) ?_
 refine mQ (fun _ hw=>hw.freezeB (cs:=eT y) .here) ?_
 have hxu:x.v=q.app u.v:=by rw [hx,hu,e1,e0,aHZ];apply V3.ext <;>simp only [V3.sub,V3.add] <;>grind
 have hyv:y.v=q.app v.v:=by rw [hy,hv,e2,e0,aHZ];apply V3.ext <;>simp only [V3.sub,V3.add] <;>grind
 have hxx:x.v.dot x.v=Qn.nR q*Qn.nR q*u.v.dot u.v:=by rw [hxu,aHM]
 have hyy:y.v.dot y.v=Qn.nR q*Qn.nR q*v.v.dot v.v:=by rw [hyv,aHM]
 have hxy:x.v.dot y.v=Qn.nR q*Qn.nR q*u.v.dot v.v:=by rw [hxu,hyv,aHM]
 obtain ⟨nn,hnn,hnp⟩:∃nn:Nat,Qn.nR q=(nn:Rat)∧0 < nn:=by
  have h1:0≤Qn.nrm q:=by
   have a1:=Qn.sq_nonneg q.a
   have a2:=Qn.sq_nonneg q.b
   have a3:=Qn.sq_nonneg q.c
   have a4:=Qn.sq_nonneg q.d
   unfold Qn.nrm
   omega
  have h2:=Qn.nrm_nz.1 hz
  refine ⟨(Qn.nrm q).toNat,?_,by omega⟩
  rw [←Qn.nR_eq]
  have h3:((Qn.nrm q).toNat:Int)=Qn.nrm q:=by omega
  rw [←Rat.intCast_natCast,h3]
 refine aRP (fun G M I=>∃(b12:Nat) (e:RE),e.q=((nn*nn:Nat):Rat)∧G=[(2, .pointer (some ⟨b2,0,none⟩)),(3, .pointer (some ⟨b3,0,none⟩)),(4, .pointer (some ⟨b4,0,none⟩)),(7, .pointer (some ⟨b7,0,none⟩)),(8, .pointer (some ⟨b8,0,none⟩)),(10, .pointer (some ⟨b10,0,none⟩)),(11, .pointer (some ⟨b11,0,none⟩)),(12, .pointer (some ⟨b12,0,none⟩))]∧M= .blk b12 (eR e) 40:: .blk b4 zSE 48::M0∧cK e 1554::aI (some ⟨b11,0,none⟩) (eT y)::aI (some ⟨b10,0,none⟩) (eT x)::gN y 129::gN x 129::aI (some ⟨b8,0,none⟩) (eT v)::aI (some ⟨b7,0,none⟩) (eT u)::gN v 129::gN u 129::aI (some ⟨b3,0,none⟩) (recs eT [t0,t1,t2])::aI (some ⟨b2,0,none⟩) (recs eT [f0,f1,f2])::I0=I) ?_ ?_
 ·((repeat refine aJ ?_);refine lG (M0) (aI (some ⟨b10,0,none⟩) (eT x)::aI (some ⟨b7,0,none⟩) (eT u)::I0) mixed ?_)
  refine dH (fuel:=9) (listed':=#[true,true,false,true,true,false,false,false,false,false,false,false,false]) [0,1,3,4] [3,3,3,3] aG aF (by kernel_rfl) (by kernel_rfl) rfl rfl ?_
  repeat refine aB ?_
  refine aN (fuel:=8) (i:=2) (j:=10) (by kernel_rfl) ?_ ?_
  ·refine iG rfl (qJ (a:=x) (b:=x) (k:=129) (m:=129) (by decide) (Hv.mem aA) (Hv.mem aA)) (fun d1 hd1=>?_)
   refine aT ?_
   repeat refine aB ?_
   refine aN (fuel:=7) (i:=5) (j:=10) (by kernel_rfl) ?_ ?_
   ·refine iG rfl (qJ (a:=u) (b:=u) (k:=129) (m:=129) (by decide) (Hv.mem aA) (Hv.mem aA)) (fun d2 hd2=>?_)
    refine aT ?_
    repeat refine aB ?_
    refine aN (fuel:=6) (i:=6) (j:=10) (by kernel_rfl) ?_ ?_
    ·(refine aS rfl (lI (a:=d1) (b:=d2) (k:=777) (m:=777) (by decide) (by rw [hd2];exact hu0) (Hv.mem aA) (Hv.mem aA)) rfl rfl ?_;rintro _ _ _ ⟨rfl,e,rfl,he,rfl⟩;refine aL ?_)
     refine aT ?_
     refine aM [7,8,9,10,11,12] [1,1,2,0,0,0] aG aF (by kernel_rfl) (by kernel_rfl) rfl rfl ?_
     repeat refine aB ?_
     refine bG (fun b12=>?_)
     repeat refine aB ?_
     refine mR ⟨b12,e,by rw [he,hd1,hd2,hxx,hnn,Rat.natCast_mul];grind,rfl,rfl,rfl⟩
    ·refine bG (fun b12=>?_)
     refine aT ?_
     refine aM [6,7,8,9,11,12] [0,0,0,1,0,0] aG aF (by kernel_rfl) (by kernel_rfl) rfl rfl ?_
     repeat refine aB ?_
     (refine aS rfl (lI (a:=d1) (b:=d2) (k:=777) (m:=777) (by decide) (by rw [hd2];exact hu0) (Hv.mem aA) (Hv.mem aA)) rfl rfl ?_;rintro _ _ _ ⟨rfl,e,rfl,he,rfl⟩;refine aL ?_)
     repeat refine aB ?_
     refine mR ⟨b12,e,by rw [he,hd1,hd2,hxx,hnn,Rat.natCast_mul];grind,rfl,rfl,rfl⟩
   ·refine bG (fun b12=>?_)
    refine aT ?_
    refine aM [5,6,7,8,9,11,12] [0,0,0,0,1,0,0] aG aF (by kernel_rfl) (by kernel_rfl) rfl rfl ?_
    repeat refine aB ?_
    refine iG rfl (qJ (a:=u) (b:=u) (k:=129) (m:=129) (by decide) (Hv.mem aA) (Hv.mem aA)) (fun d2 hd2=>?_)
    repeat refine aB ?_
    (refine aS rfl (lI (a:=d1) (b:=d2) (k:=777) (m:=777) (by decide) (by rw [hd2];exact hu0) (Hv.mem aA) (Hv.mem aA)) rfl rfl ?_;rintro _ _ _ ⟨rfl,e,rfl,he,rfl⟩;refine aL ?_)
    repeat refine aB ?_
    refine mR ⟨b12,e,by rw [he,hd1,hd2,hxx,hnn,Rat.natCast_mul];grind,rfl,rfl,rfl⟩
  ·refine bG (fun b12=>?_)
   refine aT ?_
   refine aM [2,5,6,7,8,9,11,12] [0,0,0,0,0,1,0,0] aG aF (by kernel_rfl) (by kernel_rfl) rfl rfl ?_
   repeat refine aB ?_
   refine iG rfl (qJ (a:=x) (b:=x) (k:=129) (m:=129) (by decide) (Hv.mem aA) (Hv.mem aA)) (fun d1 hd1=>?_)
   repeat refine aB ?_
   refine iG rfl (qJ (a:=u) (b:=u) (k:=129) (m:=129) (by decide) (Hv.mem aA) (Hv.mem aA)) (fun d2 hd2=>?_)
   repeat refine aB ?_
   (refine aS rfl (lI (a:=d1) (b:=d2) (k:=777) (m:=777) (by decide) (by rw [hd2];exact hu0) (Hv.mem aA) (Hv.mem aA)) rfl rfl ?_;rintro _ _ _ ⟨rfl,e,rfl,he,rfl⟩;refine aL ?_)
   repeat refine aB ?_
   refine mR ⟨b12,e,by rw [he,hd1,hd2,hxx,hnn,Rat.natCast_mul];grind,rfl,rfl,rfl⟩
 rintro G M I ⟨b12,e,he,rfl,rfl,rfl⟩
 refine mQ (fun _ hw=>hw.freezeB (cs:=eR e) .here) ?_
 have hnq:Qn.nR q*Qn.nR q=((nn*nn:Nat):Rat):=by rw [hnn,Rat.natCast_mul]
 repeat refine aB ?_
 refine tyJ rfl (aTU (x:=e) (k:=1554) (n:=nn) (by decide) hnp he (Hv.mem aA)) (fun sc hsc=>?_)
 repeat refine aB ?_
 refine bG (fun b14=>?_)
 repeat refine aB ?_
 refine mQ (fun _ hw=>hw.freezeB (cs:=eR sc) .here) ?_
 (repeat refine aJ ?_);refine aO 8 [0,1,3,4,5,2,6,7,8,9,10,11,12,14,15,16,13,17,18,19,20,21] [7,7,7,7,7,0,0,0,0,4,0,3,3,3,3,3,0,0,0,0,0,0] mixed (by kernel_rfl) ?_
 repeat refine aB ?_
 refine iG rfl (qJ (a:=y) (b:=y) (k:=129) (m:=129) (by decide) (Hv.mem aA) (Hv.mem aA)) (fun d3 hd3=>?_)
 refine iG rfl (qJ (a:=v) (b:=v) (k:=129) (m:=129) (by decide) (Hv.mem aA) (Hv.mem aA)) (fun d4 hd4=>?_)
 refine iG rfl (iV (a:=e) (b:=d4) (k:=1554) (m:=777) (by decide) (Hv.mem aA) (Hv.mem aA)) (fun p1 hp1=>?_)
 refine dP rfl (oM (a:=d3) (b:=p1) (k:=777) (m:=1554+777) (by decide) (Hv.mem aA) (Hv.mem aA)) ?_
 rw [show aDX d3.q p1.q=0 by rw [hd3,hp1,hd4,he,←hnq,hyy];exact vF.2 rfl]
 repeat refine aB ?_
 refine iG rfl (qJ (a:=x) (b:=y) (k:=129) (m:=129) (by decide) (Hv.mem aA) (Hv.mem aA)) (fun d5 hd5=>?_)
 refine iG rfl (qJ (a:=u) (b:=v) (k:=129) (m:=129) (by decide) (Hv.mem aA) (Hv.mem aA)) (fun d6 hd6=>?_)
 refine iG rfl (iV (a:=e) (b:=d6) (k:=1554) (m:=777) (by decide) (Hv.mem aA) (Hv.mem aA)) (fun p2 hp2=>?_)
 refine dP rfl (oM (a:=d5) (b:=p2) (k:=777) (m:=1554+777) (by decide) (Hv.mem aA) (Hv.mem aA)) ?_
 rw [show aDX d5.q p2.q=0 by rw [hd5,hp2,hd6,he,←hnq,hxy];exact vF.2 rfl]
 repeat refine aB ?_
 have hW:=fun M0 I0=>jA (X:=X) (w0:=w0) (M0:=M0) (I0:=I0) (x:=1) (by decide) (k:=0) (by decide)
 obtain ⟨hpf,_⟩:(Qn.prm q).fit∧prW q=Qn.prm q:=aUK (aXY hz hf).2
 obtain ⟨qq,hqq⟩:∃qq,Qn.prm q=qq:=⟨_,rfl⟩
 (repeat refine aJ ?_);refine aO 3 [0,1,2,3,4,5,6,7,8,9] [2,2,0,0,0,0,0,0,0,0] mixed (by kernel_rfl) ?_
 repeat refine aB ?_
 refine iG rfl (hW _ _) (fun o1 ho1=>?_)
 have h1o:(1:Rat) / o1.q=1:=by rw [ho1];have h2:((1:Int):Rat)=1:=rfl;rw [h2];grind
 (refine aS rfl (aFD (u:=u) (v:=v) (s:=o1) (ku:=129) (ks:=0) (KK:=517) (by decide) (by decide) (by rw [ho1];decide) rfl (Hv.mem aA) (Hv.mem aA) (Hv.mem aA)) rfl rfl ?_;rintro _ _ _ ⟨rfl,F1,rfl,hF1,hF1d,rfl⟩;refine aL ?_)
 rw [h1o] at hF1
 have hdt:dt 3 (at2 F1.q)≠0:=by
  rw [hF1,iY (g:=frF u.v v.v 1) (fun i j hi hj=>oV hi hj),aSZ]
  exact hw0
 (refine aU rfl (aVF (a:=F1) (k0:=517) (by decide) hdt (yO hF1d) aA) ?_;rintro _ _ _ ⟨rfl,V,rfl,hV,hVd,rfl⟩;refine aL ?_)
 repeat refine aB ?_
 (refine aS rfl (aFD (u:=x) (v:=y) (s:=sc) (ku:=129) (ks:=1554) (KK:=3625) (by decide) (by decide) (by rw [hsc,←hnn];exact hn) rfl (Hv.mem aA) (Hv.mem aA) (Hv.mem aA)) rfl rfl ?_;rintro _ _ _ ⟨rfl,F2,rfl,hF2,hF2d,rfl⟩;refine aL ?_)
 repeat refine aB ?_
 (refine aU rfl (aOF (a:=F2) (b:=V) (R:=3) (C:=3) (D:=3) (k:=3625) (m:=4*(4*(4*517+1)+1)+1) (by decide) (by decide) (yO hF2d) (yO hVd) aA aA) ?_;rintro _ _ _ ⟨rfl,T,rfl,hT,hTd,rfl⟩;refine aL ?_)
 have hRT:RotM T q:=⟨yO hTd,fun i j hi hj=>by
  rw [hT,oV hi hj,←aXX hz hw0 hi hj]
  refine gK (fun t ht=>?_)
  rw [hF2,oV hi ht,hV,hF1,hxu,hyv,hsc,←hnn]⟩
 repeat refine aB ?_
 refine dP rfl (aQM (m:=T) (q:=q) (kb:=3*(3625+(4*(4*(4*517+1)+1)+1)+1)) (KK:=3*(3*(3625+(4*(4*(4*517+1)+1)+1)+1)+1)) (by decide) rfl hz hpf hRT aA) ?_
 rw [hqq]
 repeat refine aB ?_
 refine bG (fun b20=>?_)
 repeat refine aB ?_
 refine mQ (fun _ hw=>hw.freezeB (cs:=eQ qq) .here) ?_
 refine kH (fun G M I=>∃(b22:Nat) (o:TE),o.v=⟨0,0,0⟩∧G=[(2, .pointer (some ⟨b2,0,none⟩)),(3, .pointer (some ⟨b3,0,none⟩)),(4, .pointer (some ⟨b4,0,none⟩)),(22, .pointer (some ⟨b22,0,none⟩))]∧M= .blk b22 (pX ⟨sc,qq,o⟩) 48:: .blk b4 zSE 48::M0∧gN o 64::cK sc 1554::aI (some ⟨b3,0,none⟩) (recs eT [t0,t1,t2])::aI (some ⟨b2,0,none⟩) (recs eT [f0,f1,f2])::I0=I) ?_ ?_
 ·((repeat refine aJ ?_);refine lG (M0) (aI (some ⟨b20,0,none⟩) (eQ qq)::aI (some ⟨b14,0,none⟩) (eR sc)::cK sc 1554::I0) mixed ?_)
  refine dH (fuel:=4) (listed':=#[true,true,false,false,false,false]) [0,1] [2,2] aG aF (by kernel_rfl) (by kernel_rfl) rfl rfl ?_
  repeat refine aB ?_
  refine aN (fuel:=3) (i:=2) (j:=4) (by kernel_rfl) ?_ ?_
  ·(refine aU rfl (aKH) ?_;rintro _ _ _ ⟨rfl,o,rfl,ho,rfl⟩;refine aL ?_)
   refine aT ?_
   refine aM [3,4,5] [1,0,0] aG aF (by kernel_rfl) (by kernel_rfl) rfl rfl ?_
   repeat refine aB ?_
   (refine aD rfl (fun _=>dK (vals:=[rv sc,qv qq,tv o]) (cells:=pX ⟨sc,qq,o⟩) rfl ?hpl rfl ?hz) rfl rfl ?_;(case hpl=>repeat (first|exact True.intro|refine ⟨rfl,?_⟩));(case hz=>rfl))
   repeat refine aB ?_
   refine bG (fun b22=>?_)
   repeat refine aB ?_
   refine mR ⟨b22,o,ho,rfl,rfl,rfl⟩
  ·refine bG (fun b22=>?_)
   refine aT ?_
   refine aM [2,3,5] [0,0,0] aG aF (by kernel_rfl) (by kernel_rfl) rfl rfl ?_
   repeat refine aB ?_
   (refine aU rfl (aKH) ?_;rintro _ _ _ ⟨rfl,o,rfl,ho,rfl⟩;refine aL ?_)
   repeat refine aB ?_
   (refine aD rfl (fun _=>dK (vals:=[rv sc,qv qq,tv o]) (cells:=pX ⟨sc,qq,o⟩) rfl ?hpl rfl ?hz) rfl rfl ?_;(case hpl=>repeat (first|exact True.intro|refine ⟨rfl,?_⟩));(case hz=>rfl))
   repeat refine aB ?_
   refine mR ⟨b22,o,ho,rfl,rfl,rfl⟩
 rintro G M I ⟨b22,o,ho,rfl,rfl,rfl⟩
 refine bD (φ:=gM ⟨sc,qq,o⟩ 1554 64) (Hv.mkSE (Hv.mem aA) (Hv.mem aA)) ?_
 (repeat refine aJ ?_);refine aO 2 [0,1,2,3,4,5,6,7,8] [2,1,1,2,1,0,0,0,0] mixed (by kernel_rfl) ?_
 repeat refine aB ?_
 (apply bL;exact gQ;exact rfl;exact aA;exact (AtsZ.v0 (enc:=eT) (ms:=[t0,t1,t2]) (i:=0) (bi3 (by decide)));exact rfl;exact rfl)
 repeat refine aB ?_
 (apply bL;exact gQ;exact rfl;exact aA;exact (AtsZ.v0 (enc:=eT) (ms:=[f0,f1,f2]) (i:=0) (bi3 (by decide)));exact rfl;exact rfl)
 repeat refine aB ?_
 have hqz:qq.nz:=by rw [←hqq];exact Qn.prm_nz hz
 have hqf:qq.fit:=by rw [←hqq];exact hpf
 (refine aU rfl (aAI (x:=⟨sc,qq,o⟩) (p:=f0) (ks:=1554) (kt:=64) (kp:=64) (K:=2003) hqz hqf (by decide) (by decide) (by decide) rfl (Hv.mem aA) (Hv.mem aA)) ?_;rintro _ _ _ ⟨rfl,r,rfl,hr,rfl⟩;refine aL ?_)
 (refine aU rfl (dD (a:=t0) (b:=r) (ka:=64) (kb:=2003) (K:=2068) (by decide) (by decide) rfl (Hv.mem aA) (Hv.mem aA)) ?_;rintro _ _ _ ⟨rfl,g,rfl,hg,rfl⟩;refine aL ?_)
 have hgs:g.v=s:=by
  have h6:r.v=((qq.rot f0.v).scl sc.q).add o.v:=hr
  rw [hg,h6,←hqq,aNW hz,hsc,←hnn,aCJ hz,ho,e0]
  apply V3.ext <;>simp only [V3.sub,V3.add] <;>grind
 repeat refine aB ?_
 (refine fM (vs:=eT g) (cs:=pX ⟨sc,qq,o⟩) (cs':=pX ⟨sc,qq,g⟩) rfl rfl rfl nU iN StAts.se2 rfl rfl ⟨okF,?_⟩)
 repeat refine aB ?_
 refine fF (φ:=gM ⟨sc,qq,g⟩ 1554 2068) (Hv.mkSE (Hv.mem aA) (Hv.mem aA)) ?_
 refine dI (rs:=[.cell 4 48, .tmp 5]) (vs:=[sev ⟨sc,qq,g⟩, .int .i64 0]) (.inl rfl) rfl (.cellN (cs:=pX ⟨sc,qq,g⟩) inferInstance rfl aA rfl (.tmp rfl .nil)) rfl M0 (gM ⟨sc,qq,g⟩ 1554 2068::I0) aG aF ⟨rfl, .inr ⟨⟨sc,qq,g⟩,rfl,by show sc.q=_;rw [hsc,hnn],hgs,rfl⟩⟩
end
/- ---------- IndexFunc, ContainsFunc of []fiducial/api.Rat ---------- -/
section
variable {X:List Nat} {w0:World} {M0:List Ent} {I0:List aV}
end
def zeroL (l:List Rat):Prop:=∀x∈l,x=0
instance (l:List Rat):Decidable (zeroL l):=inferInstanceAs (Decidable (∀x∈l,x=0))
def symM (A:Mt) (n:Nat):Prop:=∀i,i < n→∀j,j < i→at2 A i j=at2 A j i
instance (A:Mt) (n:Nat):Decidable (symM A n):=inferInstanceAs (Decidable (∀i,i < n→∀j,j < i→at2 A i j=at2 A j i))
def symC (A:Mt) (n:Nat):Int:=if symM A n then 0 else 11
section
variable {X:List Nat} {w0:World} {M0:List Ent} {I0:List aV}
end
end Go.Proofs.YtgpkjcmipiodcaaGreat
namespace Go.Proofs.YtgpkjcmipiodcaaGreat
def rsF (f:Nat→Nat→Rat):Nat→Nat→Nat→Rat
 |0=>f
 |k+1=>fun i j=>if k < i∧k≤j then rsF f k i j - rsF f k i k / rsF f k k k*rsF f k k j else rsF f k i j
def bk (f:Nat→Nat→Rat) (k:Nat):Nat→Nat→Rat:=fun a b=>rsF f k (a+k) (b+k)
def pvs (f:Nat→Nat→Rat):Nat→Rat
 |0=>1
 |k+1=>pvs f k*bk f k 0 0
def qf (f:Nat→Nat→Rat) (v:Nat→Rat) (n k:Nat):Rat:=sm (n - k) (fun a=>sm (n - k) (fun b=>bk f k a b*v (a+k)*v (b+k)))
def yk (f:Nat→Nat→Rat) (v:Nat→Rat) (n k:Nat):Rat:=v k+sm (n - (k+1)) (fun a=>bk f k (a+1) 0 / bk f k 0 0*v (a+(k+1)))
end Go.Proofs.YtgpkjcmipiodcaaGreat
namespace Go.Proofs.YtgpkjcmipiodcaaGreat
open Go Go.Fx
def qfr (A:Mt) (v:List Rat) (n:Nat):Rat:=sm n (fun t=>v.getD t 0*sm n (fun j=>at2 A t j*v.getD j 0))
section
variable {X:List Nat} {w0:World} {M0:List Ent} {I0:List aV}
theorem pJ {x y:RL} {u m:Nat} (hk:u+m+1≤100000000000) (lx:x.es.length≤100000) (ly:y.es.length≤100000) (hx:Hv I0 (lK x u)) (hy:Hv I0 (lK y m)):
  CD Tryz.prog 11 [lv x,lv y] X w0 M0 I0 (fun v M I=>M0=M∧I0=I∧v= .bool (B (x.q=y.q))):=by
 refine aAO hx (aAO (φ:=lK y m) (hy.cons) ?_)
 refine bO (φ:=aI (x).p (recs eR (x).es)) (Hv.lsl aA) ?_
 refine bO (φ:=aI (y).p (recs eR (y).es)) (Hv.lsl aA) ?_
 by_cases hlen:x.es.length=y.es.length
 ·refine aP Tryz.func11 rfl Tryz.ntmps11 rfl ?_
  repeat refine aB ?_
  refine kS [0,1] rfl (fun k G M I=>∃i:Nat,i≤x.es.length∧k=x.es.length - i∧(∀j:Nat,j < i→(gt x.es (j:Int)).q=(gt y.es (j:Int)).q)∧G=[(5, .int .i64 i)]∧M0=M∧I=aI y.p (recs eR y.es)::aI x.p (recs eR x.es)::lK y m::lK x u::I0) (x.es.length) (⟨0,by omega,rfl,fun j hj=>by omega,rfl,rfl,rfl⟩) ?_
  rintro kk G M I ⟨i,hi,rfl,hs,rfl,rfl,rfl⟩
  by_cases hi2:i < x.es.length
  ·have hS:=fun M0 I0 h1 h2=>aKQ (X:=X) (w0:=w0) (M0:=M0) (I0:=I0) (a:=gt x.es (i:Int)) (b:=gt y.es (i:Int)) (k:=u) (m:=m) (by omega) h1 h2
   by_cases he:(gt x.es (i:Int)).q=(gt y.es (i:Int)).q
   ·rw [cB he] at hS
    repeat refine aB ?_
    (repeat refine aJ ?_);refine aO 1 [0,1,2,3,4,5,6,7,8,9] [1,1,1,0,1,1,1,0,0,0] mixed (by kernel_rfl) ?_
    repeat refine aB ?_
    refine dP rfl (hS _ _ (Hv.lel aA (by omega)) (Hv.lel aA (by omega))) ?_
    repeat refine aB ?_
    refine iC (x.es.length - (i+1)) (⟨i+1,by omega,rfl,fun j hj=>?_,rfl,rfl,rfl⟩)
    by_cases e:j=i
    ·subst e;exact he
    ·exact hs j (by omega)
   ·rw [bF he] at hS
    repeat refine aB ?_
    (repeat refine aJ ?_);refine aO 1 [0,1,2,3,4,5,6,7,8,9] [1,1,1,0,1,1,1,0,0,0] mixed (by kernel_rfl) ?_
    repeat refine aB ?_
    refine dP rfl (hS _ _ (Hv.lel aA (by omega)) (Hv.lel aA (by omega))) ?_
    repeat refine aB ?_
    refine gD rfl rfl (⟨rfl,rfl,congrArg Value.bool (bF (fun e=>he (q_at e hi2))).symm⟩)
  ·repeat refine aB ?_
   refine gD rfl rfl (⟨rfl,rfl,congrArg Value.bool (cB (q_ext hlen (fun j hj=>hs j (by omega)))).symm⟩)
 ·refine aP Tryz.func11 rfl Tryz.ntmps11 rfl ?_
  repeat refine aB ?_
  refine aH (by first|exact .inl rfl|exact .inr rfl) rfl rfl _ _ aG aF (⟨rfl,rfl,congrArg Value.bool (bF (fun e=>hlen (by have:=congrArg List.length e;simpa using this))).symm⟩)
end
end Go.Proofs.YtgpkjcmipiodcaaGreat
namespace Go.Proofs.YtgpkjcmipiodcaaGreat
open Go Go.Fx
theorem aCS:(Sim.mk 2 ⟨1,0,0,1⟩ ⟨1,0,0⟩).mv ⟨1,0,0⟩=⟨1,2,0⟩:=by
 apply V3.ext <;>decide+kernel
section
variable {X:List Nat} {w0:World} {M0 M1:List Ent} {I0:List aV}
theorem aKW:CD Tryz.prog 4 [] X w0 M0 I0 (fun v M I=>M0=M∧I0=I∧v= .bool true):=by
 have hW:=fun (x:Int) (h:uU x) M0 I0=>xN (X:=X) (w0:=w0) (M0:=M0) (I0:=I0) (x:=x) h
 refine aMT Tryz.func4 rfl Tryz.ntmps4 rfl ?_
 repeat refine aB ?_
 refine iG rfl (hW 2 (by decide) _ _) (fun s hs=>?_)
 repeat refine aB ?_
 (refine aD rfl (fun _=>aK (pvs:=[(0, .int .i64 1),(3, .int .i64 1)]) (cells:=eQ ⟨1,0,0,1⟩) rfl rfl) rfl rfl ?_)
 refine iG rfl (hW 1 (by decide) _ _) (fun a1 ha1=>?_)
 refine iG rfl (hW 0 (by decide) _ _) (fun a2 ha2=>?_)
 refine iG rfl (hW 0 (by decide) _ _) (fun a3 ha3=>?_)
 (refine aD rfl (fun _=>bH (vals:=[rv a1,rv a2,rv a3]) (cells:=recs eR [a1,a2,a3]) rfl ?hpl rfl ?hz) rfl rfl ?_;(case hpl=>exact (by intro v hv;repeat (first|exact absurd hv (List.not_mem_nil)|(rcases List.mem_cons.1 hv with rfl|hv; · rfl))));(case hz=>rfl))
 (refine aD rfl (fun _=>dK (vals:=[rv s,qv ⟨1,0,0,1⟩,tv ⟨a1,a2,a3⟩]) (cells:=pX ⟨s,⟨1,0,0,1⟩,⟨a1,a2,a3⟩⟩) rfl ?hpl rfl ?hz) rfl rfl ?_;(case hpl=>repeat (first|exact True.intro|refine ⟨rfl,?_⟩));(case hz=>rfl))
 refine bG (fun b1=>?_)
 repeat refine aB ?_
 refine bD (φ:=gM ⟨s,⟨1,0,0,1⟩,⟨a1,a2,a3⟩⟩ 64 64) (Hv.mkSE (Hv.mem aA) (Hv.mkT (Hv.mem aA) (Hv.mem aA) (Hv.mem aA))) ?_
 obtain ⟨x,hx⟩:∃x:SE,x=⟨s,⟨1,0,0,1⟩,⟨a1,a2,a3⟩⟩:=⟨_,rfl⟩
 rw [←hx]
 have hxq:x.q=⟨1,0,0,1⟩:=by rw [hx]
 have hxz:x.q.nz:=by rw [hxq];unfold Qn.nz;decide
 have hxf:x.q.fit:=by rw [hxq];exact ⟨⟨by decide,by decide⟩,by decide,by decide⟩
 have hxs:0 < x.s.q:=by rw [hx];show 0 < s.q;rw [hs];decide
 have hxv:x.v=Sim.mk 2 ⟨1,0,0,1⟩ ⟨1,0,0⟩:=by rw [hx];unfold SE.v TE.v;simp only [hs,ha1,ha2,ha3];rfl
 refine mQ (fun _ hw=>hw.freezeB (cs:=pX x) .here) ?_
 refine kH (fun G M I=>∃(b2:Nat) (r:TE),r.v=⟨1,2,0⟩∧G=[(0, .bool false),(2, .pointer (some ⟨b2,0,none⟩)),(3, .int .i64 0)]∧M= .blk b2 (eT r) 45::M0∧gN r 513::I0=I) ?_ ?_
 ·((repeat refine aJ ?_);refine lG (M0) (aI (some ⟨b1,0,none⟩) (pX x)::gM x 64 64::I0) mixed ?_)
  refine dH (fuel:=11) (listed':=#[true,false,false,false,false,false,false,false,false,false,false,false]) [0] [4] aG aF (by kernel_rfl) (by kernel_rfl) rfl rfl ?_
  repeat refine aB ?_
  refine aN (fuel:=10) (i:=1) (j:=9) (by kernel_rfl) ?_ ?_
  ·refine iG rfl (hW 1 (by decide) _ _) (fun p1 hp1=>?_)
   refine aT ?_
   repeat refine aB ?_
   refine aN (fuel:=9) (i:=2) (j:=9) (by kernel_rfl) ?_ ?_
   ·refine iG rfl (hW 0 (by decide) _ _) (fun p2 hp2=>?_)
    refine aT ?_
    repeat refine aB ?_
    refine aN (fuel:=8) (i:=3) (j:=9) (by kernel_rfl) ?_ ?_
    ·refine iG rfl (hW 0 (by decide) _ _) (fun p3 hp3=>?_)
     refine aT ?_
     refine dH (fuel:=7) (listed':=#[true,true,true,true,true,false,false,false,false,false,false,false]) [4] [1] aG aF (by kernel_rfl) (by kernel_rfl) rfl rfl ?_
     repeat refine aB ?_
     (refine aD rfl (fun _=>bH (vals:=[rv p1,rv p2,rv p3]) (cells:=eT ⟨p1,p2,p3⟩) rfl ?hpl rfl ?hz) rfl rfl ?_;(case hpl=>exact (by intro v hv;repeat (first|exact absurd hv (List.not_mem_nil)|(rcases List.mem_cons.1 hv with rfl|hv; · rfl))));(case hz=>rfl))
     repeat refine aB ?_
     refine aN (fuel:=6) (i:=5) (j:=9) (by kernel_rfl) ?_ ?_
     ·refine tyJ rfl (mJ (x:=x) (p:=⟨p1,p2,p3⟩) (ks:=64) (kt:=64) (kp:=64) (K:=513) hxz hxf hxs (by decide) (by decide) (by decide) rfl (Hv.mem aA) (Hv.mkT (Hv.mem aA) (Hv.mem aA) (Hv.mem aA))) (fun r hr=>?_)
      refine aT ?_
      refine aM [6,7,8,9,10,11] [1,1,2,0,0,0] aG aF (by kernel_rfl) (by kernel_rfl) rfl rfl ?_
      repeat refine aB ?_
      refine bG (fun b2=>?_)
      repeat refine aB ?_
      refine mR ⟨b2,r,by rw [hr,hxv];unfold TE.v;simp only [hp1,hp2,hp3];exact aCS,rfl,rfl,rfl⟩
     ·refine bG (fun b2=>?_)
      refine aT ?_
      refine aM [5,6,7,8,10,11] [0,0,0,1,0,0] aG aF (by kernel_rfl) (by kernel_rfl) rfl rfl ?_
      repeat refine aB ?_
      refine tyJ rfl (mJ (x:=x) (p:=⟨p1,p2,p3⟩) (ks:=64) (kt:=64) (kp:=64) (K:=513) hxz hxf hxs (by decide) (by decide) (by decide) rfl (Hv.mem aA) (Hv.mkT (Hv.mem aA) (Hv.mem aA) (Hv.mem aA))) (fun r hr=>?_)
      repeat refine aB ?_
      refine mR ⟨b2,r,by rw [hr,hxv];unfold TE.v;simp only [hp1,hp2,hp3];exact aCS,rfl,rfl,rfl⟩
    ·refine bG (fun b2=>?_)
     refine aT ?_
     refine aM [3,4,5,6,7,8,10,11] [0,0,0,0,0,1,0,0] aG aF (by kernel_rfl) (by kernel_rfl) rfl rfl ?_
     repeat refine aB ?_
     refine iG rfl (hW 0 (by decide) _ _) (fun p3 hp3=>?_)
     repeat refine aB ?_
     (refine aD rfl (fun _=>bH (vals:=[rv p1,rv p2,rv p3]) (cells:=eT ⟨p1,p2,p3⟩) rfl ?hpl rfl ?hz) rfl rfl ?_;(case hpl=>exact (by intro v hv;repeat (first|exact absurd hv (List.not_mem_nil)|(rcases List.mem_cons.1 hv with rfl|hv; · rfl))));(case hz=>rfl))
     repeat refine aB ?_
     refine tyJ rfl (mJ (x:=x) (p:=⟨p1,p2,p3⟩) (ks:=64) (kt:=64) (kp:=64) (K:=513) hxz hxf hxs (by decide) (by decide) (by decide) rfl (Hv.mem aA) (Hv.mkT (Hv.mem aA) (Hv.mem aA) (Hv.mem aA))) (fun r hr=>?_)
     repeat refine aB ?_
     refine mR ⟨b2,r,by rw [hr,hxv];unfold TE.v;simp only [hp1,hp2,hp3];exact aCS,rfl,rfl,rfl⟩
   ·refine bG (fun b2=>?_)
    refine aT ?_
    refine aM [2,3,4,5,6,7,8,10,11] [0,0,0,0,0,0,1,0,0] aG aF (by kernel_rfl) (by kernel_rfl) rfl rfl ?_
    repeat refine aB ?_
    refine iG rfl (hW 0 (by decide) _ _) (fun p2 hp2=>?_)
    repeat refine aB ?_
    refine iG rfl (hW 0 (by decide) _ _) (fun p3 hp3=>?_)
    repeat refine aB ?_
    (refine aD rfl (fun _=>bH (vals:=[rv p1,rv p2,rv p3]) (cells:=eT ⟨p1,p2,p3⟩) rfl ?hpl rfl ?hz) rfl rfl ?_;(case hpl=>exact (by intro v hv;repeat (first|exact absurd hv (List.not_mem_nil)|(rcases List.mem_cons.1 hv with rfl|hv; · rfl))));(case hz=>rfl))
    repeat refine aB ?_
    refine tyJ rfl (mJ (x:=x) (p:=⟨p1,p2,p3⟩) (ks:=64) (kt:=64) (kp:=64) (K:=513) hxz hxf hxs (by decide) (by decide) (by decide) rfl (Hv.mem aA) (Hv.mkT (Hv.mem aA) (Hv.mem aA) (Hv.mem aA))) (fun r hr=>?_)
    repeat refine aB ?_
    refine mR ⟨b2,r,by rw [hr,hxv];unfold TE.v;simp only [hp1,hp2,hp3];exact aCS,rfl,rfl,rfl⟩
  ·refine bG (fun b2=>?_)
   refine aT ?_
   refine aM [1,2,3,4,5,6,7,8,10,11] [0,0,0,0,0,0,0,1,0,0] aG aF (by kernel_rfl) (by kernel_rfl) rfl rfl ?_
   repeat refine aB ?_
   refine iG rfl (hW 1 (by decide) _ _) (fun p1 hp1=>?_)
   repeat refine aB ?_
   refine iG rfl (hW 0 (by decide) _ _) (fun p2 hp2=>?_)
   repeat refine aB ?_
   refine iG rfl (hW 0 (by decide) _ _) (fun p3 hp3=>?_)
   repeat refine aB ?_
   (refine aD rfl (fun _=>bH (vals:=[rv p1,rv p2,rv p3]) (cells:=eT ⟨p1,p2,p3⟩) rfl ?hpl rfl ?hz) rfl rfl ?_;(case hpl=>exact (by intro v hv;repeat (first|exact absurd hv (List.not_mem_nil)|(rcases List.mem_cons.1 hv with rfl|hv; · rfl))));(case hz=>rfl))
   repeat refine aB ?_
   refine tyJ rfl (mJ (x:=x) (p:=⟨p1,p2,p3⟩) (ks:=64) (kt:=64) (kp:=64) (K:=513) hxz hxf hxs (by decide) (by decide) (by decide) rfl (Hv.mem aA) (Hv.mkT (Hv.mem aA) (Hv.mem aA) (Hv.mem aA))) (fun r hr=>?_)
   repeat refine aB ?_
   refine mR ⟨b2,r,by rw [hr,hxv];unfold TE.v;simp only [hp1,hp2,hp3];exact aCS,rfl,rfl,rfl⟩
 rintro G M I ⟨b2,r,hr,rfl,rfl,rfl⟩
 refine mQ (fun _ hw=>hw.freezeB (cs:=eT r) .here) ?_
 refine bD (φ:=lK (r.l b2) 513) (Hv.tl (Hv.mem (φ:=gN r 513) aA) aA) ?_
 (repeat refine aJ ?_);refine aO 5 [0,1,2,3,4,5,6,7,8,9,10] [5,5,0,4,0,0,0,0,0,0,0] mixed (by kernel_rfl) ?_
 repeat refine aB ?_
 (refine aD rfl (fun _=>eF rfl) rfl rfl ?_)
 refine iG rfl (hW 1 (by decide) _ _) (fun c1 hc1=>?_)
 refine iG rfl (hW 2 (by decide) _ _) (fun c2 hc2=>?_)
 refine iG rfl (hW 0 (by decide) _ _) (fun c3 hc3=>?_)
 refine lL (cs:=recs eR [c1,c2,c3]) ([rv c1,rv c2,rv c3]) rfl (fun b27=>?_)
 refine fH (φ:=bW [c1,c2,c3] 64) (Hv.r3v (Hv.mem aA) (Hv.mem aA) (Hv.mem aA)) ?_
 refine jC (mm:=3) 4 .here rfl (by omega) ?_
 refine aGQ (es:=[c1,c2,c3]) (k:=64) aA ?_
 (refine aS rfl (pJ (x:=r.l b2) (y:=⟨some ⟨b27,0,none⟩,3,[c1,c2,c3]⟩) (u:=513) (m:=64) (by decide) (by show 3≤100000;omega) (by show 3≤100000;omega) (Hv.mem aA) (Hv.mem aA)) rfl rfl ?_;rintro _ _ _ ⟨rfl,rfl,rfl⟩;refine aL ?_)
 rw [cB (show (r.l b2).q=RL.q ⟨some ⟨b27,0,none⟩,3,[c1,c2,c3]⟩ by
  show [r.x.q,r.y.q,r.z.q]=[c1.q,c2.q,c3.q]
  have e1:r.x.q=1:=congrArg V3.x hr
  have e2:r.y.q=2:=congrArg V3.y hr
  have e3:r.z.q=0:=congrArg V3.z hr
  rw [e1,e2,e3,hc1,hc2,hc3];rfl)]
 repeat refine aB ?_
 refine gD rfl rfl (⟨rfl,rfl,rfl⟩)
end
end Go.Proofs.YtgpkjcmipiodcaaGreat
