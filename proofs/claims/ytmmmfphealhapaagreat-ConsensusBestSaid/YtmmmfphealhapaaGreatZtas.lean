/- Vectors and matrices of integers: cross products, rows, columns, products of matrices with -/
import Derived.Test.YtmmmfphealhapaaGreatZtar
import Derived.Test.YtmmmfphealhapaaGreatZtal
import Derived.Test.YtmmmfphealhapaaGreatZtao
set_option linter.unusedSimpArgs false
set_option linter.unusedVariables false
set_option maxRecDepth 100000
set_option maxHeartbeats 4000000
namespace Go.Proofs.YtmmmfphealhapaaGreat
open Go Go.Fx
structure HZ where
 x:TZ
 y:TZ
 z:TZ
instance HZ.inh:Inhabited HZ:=⟨⟨default,default,default⟩⟩
abbrev vU (h:HZ):List Value:=recs eN [h.x.x,h.x.y,h.x.z,h.y.x,h.y.y,h.y.z,h.z.x,h.z.y,h.z.z]
abbrev hv9 (h:HZ):Value:= .agg (recs eN [h.x.x,h.x.y,h.x.z,h.y.x,h.y.y,h.y.z,h.z.x,h.z.y,h.z.z]).toArray
def HZ.m (h:HZ):M9 Int:=⟨h.x.t,h.y.t,h.z.t⟩
def HZ.tr (h:HZ):HZ:=⟨⟨h.x.x,h.y.x,h.z.x⟩,⟨h.x.y,h.y.y,h.z.y⟩,⟨h.x.z,h.y.z,h.z.z⟩⟩
theorem HZ.tr_m (h:HZ):h.tr.m=h.m.tr:=rfl
structure IsHZ (h:HZ) (k:Nat) (X:List Nat) (w:World):Prop where
 x:IsTZ h.x k X w
 y:IsTZ h.y k X w
 z:IsTZ h.z k X w
abbrev iY (h:HZ) (k:Nat):aL:=IsHZ h k
instance (h:HZ) (k:Nat):Fx.Good (IsHZ h k):=⟨fun X Y w w' h he hY=>⟨Fx.Good.go (φ:=IsTZ _ _) X Y w w' h.x he hY,Fx.Good.go (φ:=IsTZ _ _) X Y w w' h.y he hY,Fx.Good.go (φ:=IsTZ _ _) X Y w w' h.z he hY⟩⟩
theorem Hv.hx {I:List aL} {h:HZ} {k:Nat} (hh:iY h k∈I):Hv I (aX h.x k):=⟨fun X w hw=>(hw _ hh:IsHZ h k X w).x⟩
theorem Hv.hy {I:List aL} {h:HZ} {k:Nat} (hh:iY h k∈I):Hv I (aX h.y k):=⟨fun X w hw=>(hw _ hh:IsHZ h k X w).y⟩
theorem Hv.hz {I:List aL} {h:HZ} {k:Nat} (hh:iY h k∈I):Hv I (aX h.z k):=⟨fun X w hw=>(hw _ hh:IsHZ h k X w).z⟩
theorem Hv.mkH {I:List aL} {a b c:TZ} {k:Nat} (ha:aX a k∈I) (hb:aX b k∈I) (hc:aX c k∈I):Hv I (iY ⟨a,b,c⟩ k):=⟨fun X w hw=>⟨hw _ ha,hw _ hb,hw _ hc⟩⟩
theorem Hv.htr {I:List aL} {h:HZ} {k:Nat} (hh:iY h k∈I):Hv I (iY h.tr k):=⟨fun X w hw=>by
 have h1:IsHZ h k X w:=hw _ hh
 exact ⟨⟨h1.x.x,h1.y.x,h1.z.x⟩,⟨h1.x.y,h1.y.y,h1.z.y⟩,⟨h1.x.z,h1.y.z,h1.z.z⟩⟩⟩
def HQ (q:M9 Int) (k:Nat) (M0:List Ent) (I0:List aL) (v:Value) (M:List Ent) (I:List aL):Prop:=M0=M∧∃h:HZ,v=hv9 h∧h.m=q∧I=iY h k::I0
def TZ.cr (p q:TZ) (i:Nat):Int:=if i=0 then (p.t.cross q.t).a else if i=1 then (p.t.cross q.t).b else (p.t.cross q.t).c
theorem bFK {i:Nat} (h:i < 3):∃k j:Int,Int.tmod ((i:Int)+1) 3=k∧Int.tmod ((i:Int)+2) 3=j∧(0≤k∧k < 3)∧(0≤j∧j < 3)∧∀p q:TZ,(gt [p.x,p.y,p.z] k).z*(gt [q.x,q.y,q.z] j).z - (gt [p.x,p.y,p.z] j).z*(gt [q.x,q.y,q.z] k).z=p.cr q i:=by
 obtain rfl|rfl|rfl:i=0∨i=1∨i=2:=by omega
 ·exact ⟨1,2,rfl,rfl,by decide,by decide,fun p q=>rfl⟩
 ·exact ⟨2,0,rfl,rfl,by decide,by decide,fun p q=>rfl⟩
 ·exact ⟨0,1,rfl,rfl,by decide,by decide,fun p q=>rfl⟩
section
variable {X:List Nat} {w0:World} {M0:List Ent} {I0:List aL}
theorem aHB {p q:TZ} {u:Nat} (hu:u≤100000000000) (hp:aX p u∈I0) (hq:aX q u∈I0):CD Tryz.prog 116 [dL p,dL q] X w0 M0 I0 (VQ (p.t.cross q.t) (u+u+1) M0 I0):=by
 have hM:=fun (a b:ZE) M0 I0 h1 h2=>NMul (X:=X) (w0:=w0) (M0:=M0) (I0:=I0) (a:=a) (b:=b) (k:=u) (m:=u) (by omega) h1 h2
 have hS:=fun (a b:ZE) M0 I0 h1 h2=>NSub (X:=X) (w0:=w0) (M0:=M0) (I0:=I0) (a:=a) (b:=b) (k:=u+u) (c:=u+u+1) (by omega) (by omega) h1 h2
 refine aV (φ:=aX p u) (Hv.mem hp) (aV (φ:=aX q u) (Hv.mem (List.mem_cons_of_mem _ hq)) ?_)
 refine aM Tryz.func116 rfl Tryz.ntmps116 rfl ?_
 refine gG ?_
 refine gN rfl (fun b2=>?_)
 refine aH (cs:=mH p) .here ?_
 refine gN rfl (fun b3=>?_)
 refine aH (cs:=mH q) .here ?_
 refine cK (fun b4=>?_)
 repeat refine aB ?_
 refine cK (fun b5=>?_)
 repeat refine aB ?_
 refine bG (φ:=pJ [none,none,none] (u+u+1)) (Hv.oNil (n:=3)) ?_
 refine lX [2,3,4,5] rfl (fun k G M I=>∃(i:Nat) (os:List (Option ZE)),i≤3∧k=3 - i∧os.length=3∧(∀j:Nat,j < i→∃e:ZE,gt os (j:Int)=some e∧e.z=p.cr q j)∧G=[(9, .int .i64 i)]∧M= .blk b5 (recs wN os) 100:: .blk b4 (zN++(zN++zN)) 100::M0∧I=pJ os (u+u+1)::aI (some ⟨b3,0,none⟩) (mH q)::aI (some ⟨b2,0,none⟩) (mH p)::aX q u::aX p u::I0) (3) (⟨0,[none,none,none],by omega,rfl,rfl,fun j hj=>absurd hj (by omega),rfl,rfl,rfl⟩) ?_
 rintro kk G M I ⟨i,os,hi,rfl,hol,ho,rfl,rfl,rfl⟩
 by_cases hii:i < 3
 ·obtain ⟨k,j,hk,hj,hk3,hj3,hX⟩:=bFK hii
  refine bG (φ:=jF (gt [p.x,p.y,p.z] k) u) (Hv.zAt aA hk3) ?_
  refine bG (φ:=jF (gt [p.x,p.y,p.z] j) u) (Hv.zAt (p:=p) (k:=u) aA hj3) ?_
  refine bG (φ:=jF (gt [q.x,q.y,q.z] k) u) (Hv.zAt (p:=q) (k:=u) aA hk3) ?_
  refine bG (φ:=jF (gt [q.x,q.y,q.z] j) u) (Hv.zAt (p:=q) (k:=u) aA hj3) ?_
  repeat refine aB ?_
  rw [hk,hj]
  (repeat refine aG ?_);refine pW (M0) (aI (some ⟨b3,0,none⟩) (mH q)::aI (some ⟨b2,0,none⟩) (mH p)::I0) [0,1,2,3,4,5,6,8,9,10,11,12,13,7,14,15,16,17] [3,3,3,2,3,3,2,3,3,2,3,3,2,0,0,0,0,0] mixed ?_
  repeat refine aB ?_
  (apply dS;exact eX;exact rfl;exact aA;exact AtsZ.o0 (enc:=eN) (sz:=2) (ms:=[p.x,p.y,p.z]) (i:=k) hk3;exact rfl;exact rfl)
  repeat refine aB ?_
  (apply dS;exact eX;exact rfl;exact aA;exact AtsZ.o0 (enc:=eN) (sz:=2) (ms:=[q.x,q.y,q.z]) (i:=j) hj3;exact rfl;exact rfl)
  repeat refine aB ?_
  (apply dS;exact eX;exact rfl;exact aA;exact AtsZ.o0 (enc:=eN) (sz:=2) (ms:=[p.x,p.y,p.z]) (i:=j) hj3;exact rfl;exact rfl)
  repeat refine aB ?_
  (apply dS;exact eX;exact rfl;exact aA;exact AtsZ.o0 (enc:=eN) (sz:=2) (ms:=[q.x,q.y,q.z]) (i:=k) hk3;exact rfl;exact rfl)
  repeat refine aB ?_
  (refine bD rfl (hM (gt [p.x,p.y,p.z] k) (gt [q.x,q.y,q.z] j) _ _ aA aA) ?_;rintro _ _ _ ⟨rfl,g0,rfl,hg0,rfl⟩;refine aN ?_)
  (refine bD rfl (hM (gt [p.x,p.y,p.z] j) (gt [q.x,q.y,q.z] k) _ _ aA aA) ?_;rintro _ _ _ ⟨rfl,g1,rfl,hg1,rfl⟩;refine aN ?_)
  (refine bD rfl (hS g0 g1 _ _ aA aA) ?_;rintro _ _ _ ⟨rfl,g,rfl,hg,rfl⟩;refine aN ?_)
  repeat refine yXh ?_
  refine fJ (vs:=eN g) rfl rfl rfl (Ones.one g) jJ (StAts.o0 (enc:=wN) (sz:=2) (ms:=os) (i:=(i:Int)) (some g) ⟨by omega,by omega⟩ rfl) rfl rfl ⟨okF,?_⟩
  repeat refine aB ?_
  refine dF (φ:=pJ (st os (i:Int) (some g)) (u+u+1)) (Hv.oSet aA aA) ?_
  refine gL (3 - (i+1)) (⟨i+1,st os (i:Int) (some g),by omega,rfl,by rw [oP];exact hol,fun t ht=>by
   rw [pM (by omega) (by omega)]
   by_cases e:t=i
   ·subst e
    rw [if_pos rfl]
    exact ⟨g,rfl,by rw [hg,hg0,hg1];exact hX p q⟩
   ·rw [if_neg e]
    exact ho t (by omega),rfl,rfl,rfl⟩)
 ·obtain rfl:i=3:=by omega
  obtain ⟨a,ha,hza⟩:=ho 0 (by omega)
  obtain ⟨b,hb,hzb⟩:=ho 1 (by omega)
  obtain ⟨c,hc,hzc⟩:=ho 2 (by omega)
  refine bG (φ:=jF a (u+u+1)) (Hv.oAt (os:=os) (i:=((0:Nat):Int)) aA ⟨by omega,by omega⟩ ha) ?_
  refine bG (φ:=jF b (u+u+1)) (Hv.oAt (os:=os) (i:=((1:Nat):Int)) aA ⟨by omega,by omega⟩ hb) ?_
  refine bG (φ:=jF c (u+u+1)) (Hv.oAt (os:=os) (i:=((2:Nat):Int)) aA ⟨by omega,by omega⟩ hc) ?_
  refine bG (φ:=aX ⟨a,b,c⟩ (u+u+1)) (Hv.mkZ aA aA aA) ?_
  have e3:recs wN os=recs eN [a,b,c]:=by rw [os3 hol,show gt os 0=some a from ha,show gt os 1=some b from hb,show gt os 2=some c from hc];rfl
  rw [e3]
  repeat refine aB ?_
  refine aO (cs:=recs eN [a,b,c]) (.inl rfl) rfl rfl aA rfl M0 (aX ⟨a,b,c⟩ (u+u+1)::I0) aF aC ⟨rfl,⟨a,b,c⟩,rfl,by show (⟨a.z,b.z,c.z⟩:T3 Int)=_;rw [hza,hzb,hzc];rfl,rfl⟩
theorem bAR {p q r:TZ} {u:Nat} (hu:63≤u) (hu2:u≤20000000000) (hp:aX p u∈I0) (hq:aX q u∈I0) (hr:aX r u∈I0):CD Tryz.prog 62 [dL p,dL q,dL r] X w0 M0 I0 (NQ (d3 p.t q.t r.t) (u+u+1+u+3) M0 I0):=by
 have hC:=fun M0 I0 h1 h2=>aHB (X:=X) (w0:=w0) (M0:=M0) (I0:=I0) (p:=p) (q:=q) (u:=u) (by omega) h1 h2
 have hD:=fun (c:TZ) M0 I0 h1 h2=>aQA (X:=X) (w0:=w0) (M0:=M0) (I0:=I0) (p:=c) (q:=r) (k:=u+u+1) (m:=u) (by omega) (by omega) h1 h2
 refine aV (φ:=aX p u) (Hv.mem hp) (aV (φ:=aX q u) (Hv.mem (List.mem_cons_of_mem _ hq)) (aV (φ:=aX r u) (Hv.mem (List.mem_cons_of_mem _ (List.mem_cons_of_mem _ hr))) ?_))
 refine iC Tryz.func62 rfl Tryz.ntmps62 rfl ?_
 refine gG ?_
 refine gN rfl (fun b3=>?_)
 refine aH (cs:=mH p) .here ?_
 refine gN rfl (fun b4=>?_)
 refine aH (cs:=mH q) .here ?_
 refine gN rfl (fun b5=>?_)
 refine aH (cs:=mH r) .here ?_
 refine cK (fun b6=>?_)
 repeat refine aB ?_
 (repeat refine aG ?_);refine pW (M0) (aI (some ⟨b5,0,none⟩) (mH r)::aI (some ⟨b4,0,none⟩) (mH q)::aI (some ⟨b3,0,none⟩) (mH p)::I0) [0,1,3,2,4,5] [1,1,1,0,0,0] mixed ?_
 repeat refine aB ?_
 (refine bD rfl (hC _ _ aA aA) ?_;rintro _ _ _ ⟨rfl,c,rfl,hc,rfl⟩;refine aN ?_)
 (refine bD rfl (hD c _ _ aA aA) ?_;rintro _ _ _ ⟨rfl,g,rfl,hg,rfl⟩;refine aN ?_)
 repeat refine aB ?_
 refine aO (cs:=eN g) (.inl rfl) rfl rfl aA rfl M0 (jF g (u+u+1+u+3)::I0) aF aC ⟨rfl,g,rfl,by rw [hg,hc];rfl,rfl⟩
theorem aMI {h:HZ} {u:Nat} (hh:iY h u∈I0):CD Tryz.prog 63 [hv9 h, .int .i64 0] X w0 M0 I0 (fun v M I=>M0=M∧v=dL h.x∧I=aX h.x u::I0):=by
 refine aV (φ:=aX h.x u) (Hv.hx hh) ?_
 refine aM Tryz.func63 rfl Tryz.ntmps63 rfl ?_
 refine gG ?_
 refine gN rfl (fun b2=>?_)
 refine aH (cs:=vU h) .here ?_
 refine cK (fun b4=>?_)
 repeat refine aB ?_
 (repeat refine aG ?_);refine pW (M0) (aI (some ⟨b2,0,none⟩) (vU h)::I0) [0,1,2,3,4,5,6,7,8,9,10,11,12,13,14,15] [0,0,0,0,0,0,0,0,0,0,0,0,0,0,0,0] mixed ?_
 repeat refine aB ?_
 (refine aD rfl (fun _=>dM (vals:=[nv h.x.x,nv h.x.y,nv h.x.z]) (cells:=mH h.x) rfl ?hpl rfl ?hz) rfl rfl ?_;(case hpl=>exact (by intro v hv;repeat (first|exact absurd hv (List.not_mem_nil)|(rcases List.mem_cons.1 hv with rfl|hv; · rfl))));(case hz=>rfl))
 repeat refine aB ?_
 refine aO (cs:=mH h.x) (.inl rfl) rfl rfl aA rfl M0 (aX h.x u::I0) aF aC ⟨rfl,rfl,rfl⟩
theorem aKX {h:HZ} {u:Nat} (hh:iY h u∈I0):CD Tryz.prog 63 [hv9 h, .int .i64 1] X w0 M0 I0 (fun v M I=>M0=M∧v=dL h.y∧I=aX h.y u::I0):=by
 refine aV (φ:=aX h.y u) (Hv.hy hh) ?_
 refine aM Tryz.func63 rfl Tryz.ntmps63 rfl ?_
 refine gG ?_
 refine gN rfl (fun b2=>?_)
 refine aH (cs:=vU h) .here ?_
 refine cK (fun b4=>?_)
 repeat refine aB ?_
 (repeat refine aG ?_);refine pW (M0) (aI (some ⟨b2,0,none⟩) (vU h)::I0) [0,1,2,3,4,5,6,7,8,9,10,11,12,13,14,15] [0,0,0,0,0,0,0,0,0,0,0,0,0,0,0,0] mixed ?_
 repeat refine aB ?_
 (refine aD rfl (fun _=>dM (vals:=[nv h.y.x,nv h.y.y,nv h.y.z]) (cells:=mH h.y) rfl ?hpl rfl ?hz) rfl rfl ?_;(case hpl=>exact (by intro v hv;repeat (first|exact absurd hv (List.not_mem_nil)|(rcases List.mem_cons.1 hv with rfl|hv; · rfl))));(case hz=>rfl))
 repeat refine aB ?_
 refine aO (cs:=mH h.y) (.inl rfl) rfl rfl aA rfl M0 (aX h.y u::I0) aF aC ⟨rfl,rfl,rfl⟩
theorem aKJ {h:HZ} {u:Nat} (hh:iY h u∈I0):CD Tryz.prog 63 [hv9 h, .int .i64 2] X w0 M0 I0 (fun v M I=>M0=M∧v=dL h.z∧I=aX h.z u::I0):=by
 refine aV (φ:=aX h.z u) (Hv.hz hh) ?_
 refine aM Tryz.func63 rfl Tryz.ntmps63 rfl ?_
 refine gG ?_
 refine gN rfl (fun b2=>?_)
 refine aH (cs:=vU h) .here ?_
 refine cK (fun b4=>?_)
 repeat refine aB ?_
 (repeat refine aG ?_);refine pW (M0) (aI (some ⟨b2,0,none⟩) (vU h)::I0) [0,1,2,3,4,5,6,7,8,9,10,11,12,13,14,15] [0,0,0,0,0,0,0,0,0,0,0,0,0,0,0,0] mixed ?_
 repeat refine aB ?_
 (refine aD rfl (fun _=>dM (vals:=[nv h.z.x,nv h.z.y,nv h.z.z]) (cells:=mH h.z) rfl ?hpl rfl ?hz) rfl rfl ?_;(case hpl=>exact (by intro v hv;repeat (first|exact absurd hv (List.not_mem_nil)|(rcases List.mem_cons.1 hv with rfl|hv; · rfl))));(case hz=>rfl))
 repeat refine aB ?_
 refine aO (cs:=mH h.z) (.inl rfl) rfl rfl aA rfl M0 (aX h.z u::I0) aF aC ⟨rfl,rfl,rfl⟩
theorem aKK {h:HZ} {u:Nat} (hh:iY h u∈I0):CD Tryz.prog 115 [hv9 h, .int .i64 0] X w0 M0 I0 (fun v M I=>M0=M∧v=dL h.tr.x∧I=aX h.tr.x u::I0):=by
 refine aV (φ:=iY h.tr u) (Hv.htr hh) ?_
 refine aV (φ:=aX h.tr.x u) (Hv.hx (List.Mem.head _)) ?_
 refine aM Tryz.func115 rfl Tryz.ntmps115 rfl ?_
 refine gG ?_
 refine gN rfl (fun b2=>?_)
 refine aH (cs:=vU h) .here ?_
 refine cK (fun b4=>?_)
 repeat refine aB ?_
 (repeat refine aG ?_);refine pW (M0) (aI (some ⟨b2,0,none⟩) (vU h)::I0) [0,1,2,3,4,5,6,7,8,9,10,11,12] [0,0,0,0,0,0,0,0,0,0,0,0,0] mixed ?_
 repeat refine aB ?_
 (refine aD rfl (fun _=>dM (vals:=[nv h.x.x,nv h.y.x,nv h.z.x]) (cells:=mH h.tr.x) rfl ?hpl rfl ?hz) rfl rfl ?_;(case hpl=>exact (by intro v hv;repeat (first|exact absurd hv (List.not_mem_nil)|(rcases List.mem_cons.1 hv with rfl|hv; · rfl))));(case hz=>rfl))
 repeat refine aB ?_
 refine aO (cs:=mH h.tr.x) (.inl rfl) rfl rfl aA rfl M0 (aX h.tr.x u::I0) aF aC ⟨rfl,rfl,rfl⟩
theorem aMK {h:HZ} {u:Nat} (hh:iY h u∈I0):CD Tryz.prog 115 [hv9 h, .int .i64 1] X w0 M0 I0 (fun v M I=>M0=M∧v=dL h.tr.y∧I=aX h.tr.y u::I0):=by
 refine aV (φ:=iY h.tr u) (Hv.htr hh) ?_
 refine aV (φ:=aX h.tr.y u) (Hv.hy (List.Mem.head _)) ?_
 refine aM Tryz.func115 rfl Tryz.ntmps115 rfl ?_
 refine gG ?_
 refine gN rfl (fun b2=>?_)
 refine aH (cs:=vU h) .here ?_
 refine cK (fun b4=>?_)
 repeat refine aB ?_
 (repeat refine aG ?_);refine pW (M0) (aI (some ⟨b2,0,none⟩) (vU h)::I0) [0,1,2,3,4,5,6,7,8,9,10,11,12] [0,0,0,0,0,0,0,0,0,0,0,0,0] mixed ?_
 repeat refine aB ?_
 (refine aD rfl (fun _=>dM (vals:=[nv h.x.y,nv h.y.y,nv h.z.y]) (cells:=mH h.tr.y) rfl ?hpl rfl ?hz) rfl rfl ?_;(case hpl=>exact (by intro v hv;repeat (first|exact absurd hv (List.not_mem_nil)|(rcases List.mem_cons.1 hv with rfl|hv; · rfl))));(case hz=>rfl))
 repeat refine aB ?_
 refine aO (cs:=mH h.tr.y) (.inl rfl) rfl rfl aA rfl M0 (aX h.tr.y u::I0) aF aC ⟨rfl,rfl,rfl⟩
theorem aLS {h:HZ} {u:Nat} (hh:iY h u∈I0):CD Tryz.prog 115 [hv9 h, .int .i64 2] X w0 M0 I0 (fun v M I=>M0=M∧v=dL h.tr.z∧I=aX h.tr.z u::I0):=by
 refine aV (φ:=iY h.tr u) (Hv.htr hh) ?_
 refine aV (φ:=aX h.tr.z u) (Hv.hz (List.Mem.head _)) ?_
 refine aM Tryz.func115 rfl Tryz.ntmps115 rfl ?_
 refine gG ?_
 refine gN rfl (fun b2=>?_)
 refine aH (cs:=vU h) .here ?_
 refine cK (fun b4=>?_)
 repeat refine aB ?_
 (repeat refine aG ?_);refine pW (M0) (aI (some ⟨b2,0,none⟩) (vU h)::I0) [0,1,2,3,4,5,6,7,8,9,10,11,12] [0,0,0,0,0,0,0,0,0,0,0,0,0] mixed ?_
 repeat refine aB ?_
 (refine aD rfl (fun _=>dM (vals:=[nv h.x.z,nv h.y.z,nv h.z.z]) (cells:=mH h.tr.z) rfl ?hpl rfl ?hz) rfl rfl ?_;(case hpl=>exact (by intro v hv;repeat (first|exact absurd hv (List.not_mem_nil)|(rcases List.mem_cons.1 hv with rfl|hv; · rfl))));(case hz=>rfl))
 repeat refine aB ?_
 refine aO (cs:=mH h.tr.z) (.inl rfl) rfl rfl aA rfl M0 (aX h.tr.z u::I0) aF aC ⟨rfl,rfl,rfl⟩
theorem zQ {p q r:TZ} {u:Nat} (hp:aX p u∈I0) (hq:aX q u∈I0) (hr:aX r u∈I0):CD Tryz.prog 112 [dL p,dL q,dL r] X w0 M0 I0 (fun v M I=>M0=M∧v=hv9 ⟨p,q,r⟩∧I=iY ⟨p,q,r⟩ u::I0):=by
 refine aV (φ:=aX p u) (Hv.mem hp) (aV (φ:=aX q u) (Hv.mem (List.mem_cons_of_mem _ hq)) (aV (φ:=aX r u) (Hv.mem (List.mem_cons_of_mem _ (List.mem_cons_of_mem _ hr))) ?_))
 refine aV (φ:=iY ⟨p,q,r⟩ u) (Hv.mkH aA aA aA) ?_
 refine iC Tryz.func112 rfl Tryz.ntmps112 rfl ?_
 refine gG ?_
 refine gN rfl (fun b3=>?_)
 refine aH (cs:=mH p) .here ?_
 refine gN rfl (fun b4=>?_)
 refine aH (cs:=mH q) .here ?_
 refine gN rfl (fun b5=>?_)
 refine aH (cs:=mH r) .here ?_
 refine cK (fun b6=>?_)
 repeat refine aB ?_
 (refine aD rfl (fun _=>dM (vals:=[nv p.x,nv p.y,nv p.z,nv q.x,nv q.y,nv q.z,nv r.x,nv r.y,nv r.z]) (cells:=vU ⟨p,q,r⟩) rfl ?hpl rfl ?hz) rfl rfl ?_;(case hpl=>exact (by intro v hv;repeat (first|exact absurd hv (List.not_mem_nil)|(rcases List.mem_cons.1 hv with rfl|hv; · rfl))));(case hz=>rfl))
 repeat refine aB ?_
 refine aO (cs:=vU ⟨p,q,r⟩) (.inl rfl) rfl rfl aA rfl M0 (iY ⟨p,q,r⟩ u::I0) aF aC ⟨rfl,rfl,rfl⟩
theorem aJM {h:HZ} {u:Nat} (hh:iY h u∈I0):CD Tryz.prog 52 [hv9 h] X w0 M0 I0 (fun v M I=>M0=M∧v=hv9 h.tr∧I=iY h.tr u::I0):=by
 have h0:=fun M0 I0 h1=>aKK (X:=X) (w0:=w0) (M0:=M0) (I0:=I0) (h:=h) (u:=u) h1
 have h1:=fun M0 I0 h1=>aMK (X:=X) (w0:=w0) (M0:=M0) (I0:=I0) (h:=h) (u:=u) h1
 have h2:=fun M0 I0 h1=>aLS (X:=X) (w0:=w0) (M0:=M0) (I0:=I0) (h:=h) (u:=u) h1
 have hR:=fun M0 I0 h1 h2 h3=>zQ (X:=X) (w0:=w0) (M0:=M0) (I0:=I0) (p:=h.tr.x) (q:=h.tr.y) (r:=h.tr.z) (u:=u) h1 h2 h3
 refine aV (φ:=iY h u) (Hv.mem hh) ?_
 refine aR Tryz.func52 rfl Tryz.ntmps52 rfl ?_
 refine gG ?_
 refine gN rfl (fun b1=>?_)
 refine aH (cs:=vU h) .here ?_
 refine cK (fun b2=>?_)
 repeat refine aB ?_
 (repeat refine aG ?_);refine pW (M0) (aI (some ⟨b1,0,none⟩) (vU h)::I0) [0,2,4,1,3,5,6,7] [3,3,3,0,0,0,0,0] mixed ?_
 repeat refine aB ?_
 (refine bD rfl (h0 _ _ aA) ?_;rintro _ _ _ ⟨rfl,rfl,rfl⟩;refine aN ?_)
 (refine bD rfl (h1 _ _ aA) ?_;rintro _ _ _ ⟨rfl,rfl,rfl⟩;refine aN ?_)
 (refine bD rfl (h2 _ _ aA) ?_;rintro _ _ _ ⟨rfl,rfl,rfl⟩;refine aN ?_)
 (refine bD rfl (hR _ _ aA aA aA) ?_;rintro _ _ _ ⟨rfl,rfl,rfl⟩;refine aN ?_)
 repeat refine aB ?_
 refine aO (cs:=vU h.tr) (.inl rfl) rfl rfl aA rfl M0 (iY h.tr u::I0) aF aC ⟨rfl,rfl,rfl⟩
theorem aTL {h:HZ} {p:TZ} {k m:Nat} (hk:63≤k+m) (hk2:k+m≤100000000000) (hh:iY h k∈I0) (hp:aX p m∈I0):CD Tryz.prog 114 [hv9 h,dL p] X w0 M0 I0 (VQ (h.m.app p.t) (k+m+3) M0 I0):=by
 have h0:=fun M0 I0 h1=>aMI (X:=X) (w0:=w0) (M0:=M0) (I0:=I0) (h:=h) (u:=k) h1
 have h1:=fun M0 I0 h1=>aKX (X:=X) (w0:=w0) (M0:=M0) (I0:=I0) (h:=h) (u:=k) h1
 have h2:=fun M0 I0 h1=>aKJ (X:=X) (w0:=w0) (M0:=M0) (I0:=I0) (h:=h) (u:=k) h1
 have hD:=fun (c:TZ) M0 I0 h1 h2=>aQA (X:=X) (w0:=w0) (M0:=M0) (I0:=I0) (p:=c) (q:=p) (k:=k) (m:=m) hk hk2 h1 h2
 refine aV (φ:=iY h k) (Hv.mem hh) (aV (φ:=aX p m) (Hv.mem (List.mem_cons_of_mem _ hp)) ?_)
 refine aM Tryz.func114 rfl Tryz.ntmps114 rfl ?_
 refine gG ?_
 refine gN rfl (fun b2=>?_)
 refine aH (cs:=vU h) .here ?_
 refine gN rfl (fun b3=>?_)
 refine aH (cs:=mH p) .here ?_
 refine cK (fun b4=>?_)
 repeat refine aB ?_
 (repeat refine aG ?_);refine pW (M0) (aI (some ⟨b3,0,none⟩) (mH p)::aI (some ⟨b2,0,none⟩) (vU h)::I0) [0,2,4,6,8,10,1,3,5,7,9,11,12,13] [5,5,5,5,5,5,0,0,0,0,0,0,0,0] mixed ?_
 repeat refine aB ?_
 (refine bD rfl (h0 _ _ aA) ?_;rintro _ _ _ ⟨rfl,rfl,rfl⟩;refine aN ?_)
 (refine bD rfl (hD h.x _ _ aA aA) ?_;rintro _ _ _ ⟨rfl,g0,rfl,hg0,rfl⟩;refine aN ?_)
 (refine bD rfl (h1 _ _ aA) ?_;rintro _ _ _ ⟨rfl,rfl,rfl⟩;refine aN ?_)
 (refine bD rfl (hD h.y _ _ aA aA) ?_;rintro _ _ _ ⟨rfl,g1,rfl,hg1,rfl⟩;refine aN ?_)
 (refine bD rfl (h2 _ _ aA) ?_;rintro _ _ _ ⟨rfl,rfl,rfl⟩;refine aN ?_)
 (refine bD rfl (hD h.z _ _ aA aA) ?_;rintro _ _ _ ⟨rfl,g2,rfl,hg2,rfl⟩;refine aN ?_)
 refine bQ (φ:=aX ⟨g0,g1,g2⟩ (k+m+3)) (Hv.mkZ aA aA aA) ?_
 (refine aD rfl (fun _=>dM (vals:=[nv g0,nv g1,nv g2]) (cells:=mH ⟨g0,g1,g2⟩) rfl ?hpl rfl ?hz) rfl rfl ?_;(case hpl=>exact (by intro v hv;repeat (first|exact absurd hv (List.not_mem_nil)|(rcases List.mem_cons.1 hv with rfl|hv; · rfl))));(case hz=>rfl))
 repeat refine aB ?_
 refine aO (cs:=mH ⟨g0,g1,g2⟩) (.inl rfl) rfl rfl aA rfl M0 (aX ⟨g0,g1,g2⟩ (k+m+3)::I0) aF aC ⟨rfl,⟨g0,g1,g2⟩,rfl,by show (⟨g0.z,g1.z,g2.z⟩:T3 Int)=_;rw [hg0,hg1,hg2];rfl,rfl⟩
end
end Go.Proofs.YtmmmfphealhapaaGreat
namespace Go.Fx
section
variable {P:Program} {n:Nat} {Q:Exit→Act→World→Prop} {G:Env} {X:List Nat} {w0:World} {M M1:List Ent} {I I1:List aL} {l:List Oper}
theorem lH {e:Exit} {G':Env} {M':List Ent} {I':List aL} (s:Sub G G') (hM:SubP M M') (hI:Inc I I') (h:ND n Q e G' X w0 M' I'):ND n Q e G X w0 M I:=⟨fun w hw=>⟨fun a ha=>(h.go w (hw.weak hM hI)).go a (ha.sub s)⟩⟩
theorem bI {ops:List Oper} {m:Go.Fx.Mode} {G':Env} {M':List Ent} {I':List aL} {Cs:Nat→World→Prop} {R:Nat→Nat→Array Bool→Exit→Act→World→Prop} {f k:Nat} {ls:Array Bool} (hR:∀f k ls,R f k ls=Go.Fx.Rest P l Q Cs f k ls) (h:ND n (R f k ls) .normal G' X w0 M' I') (s:Sub G G':=by exact dB) (hM:SubP M M':=by exact aF) (hI:Inc I I':=by exact aC):RD P n ops (Go.Fx.Rest P l Q Cs f k ls) m [] G X w0 M I:=bE (by rw [←hR];exact lH s hM hI h)
theorem aML {id:Nat} (M1:List Ent) (I1:List aL) (hx:P.follows .mixedOrders=true) (h:∀R:Nat→Nat→Array Bool→Exit→Act→World→Prop,(∀f k ls,R f k ls=Go.Fx.Rest P l Q (wL X w0 M1 I1) f k ls)→ND n (R l.length 0 (Array.replicate l.length false)) .normal G X w0 M I):TD P n (.region id l.toArray true) Q G X w0 M I:=
 lU M1 I1 hx (h (fun f k ls=>Go.Fx.Rest P l Q (wL X w0 M1 I1) f k ls) (fun _ _ _=>rfl))
theorem vW {fuel k i j m o:Nat} {listed:Array Bool} (hr:(Region.ready .any l.toArray listed==[i,j,m,o] && uK l.toArray i && uK l.toArray j && uK l.toArray m && uK l.toArray o)=true)
  (h1:RD P n l (Go.Fx.Rest P l Q (wL X w0 M1 I1) fuel (k+1) (listed.setIfInBounds i true)) (.any (wL X w0 M1 I1) k []) (pick l [i]) G X w0 M I)
  (h2:RD P n l (Go.Fx.Rest P l Q (wL X w0 M1 I1) fuel (k+1) (listed.setIfInBounds j true)) (.any (wL X w0 M1 I1) k []) (pick l [j]) G X w0 M I)
  (h3:RD P n l (Go.Fx.Rest P l Q (wL X w0 M1 I1) fuel (k+1) (listed.setIfInBounds m true)) (.any (wL X w0 M1 I1) k []) (pick l [m]) G X w0 M I)
  (h4:RD P n l (Go.Fx.Rest P l Q (wL X w0 M1 I1) fuel (k+1) (listed.setIfInBounds o true)) (.any (wL X w0 M1 I1) k []) (pick l [o]) G X w0 M I):ND n (Go.Fx.Rest P l Q (wL X w0 M1 I1) (fuel+1) k listed) .normal G X w0 M I:=⟨fun w hw=>⟨fun a ha=>by
 simp only [Bool.and_eq_true,beq_iff_eq] at hr
 obtain ⟨⟨⟨⟨hr,e1⟩,e2⟩,e3⟩,e4⟩:=hr
 have get:∀x,uK l.toArray x=true→∃o,l.toArray[x]?=some o∧iO o.op=false:=fun x hx=>by
  unfold uK at hx
  cases ho:l.toArray[x]? with
  |none=>simp [ho] at hx
  |some o=>simp [ho] at hx;exact ⟨o,rfl,hx⟩
 obtain ⟨o1,ho1,hk1⟩:=get i e1
 obtain ⟨o2,ho2,hk2⟩:=get j e2
 obtain ⟨o3,ho3,hk3⟩:=get m e3
 obtain ⟨o4,ho4,hk4⟩:=get o e4
 refine ⟨fun h0=>(by rw [hr] at h0;cases h0),fun x hx=>?_⟩
 rw [hr] at hx
 simp only [List.mem_cons,List.not_mem_nil,or_false] at hx
 rcases hx with rfl|rfl|rfl|rfl
 ·exact oO ho1 hk1 ((h1.go w hw).go a ha)
 ·exact oO ho2 hk2 ((h2.go w hw).go a ha)
 ·exact oO ho3 hk3 ((h3.go w hw).go a ha)
 ·exact oO ho4 hk4 ((h4.go w hw).go a ha)⟩⟩
end
end Go.Fx
namespace Go.Proofs.YtmmmfphealhapaaGreat
open Go Go.Fx
abbrev zT3:List Value:=recs wN [none,none,none]
abbrev z18:List Value:=recs wN [none,none,none,none,none,none,none,none,none]
def wT:Option TZ→List Value
 |none=>recs wN [none,none,none]
 |some p=>mH p
instance wT.szd:Sized wT 6:=⟨fun o=>by cases o <;>rfl⟩
instance wT.ones:Ones wT:=⟨fun m u hu=>by
 rcases m with _|e
 ·exact uP (enc:=wN) [none,none,none] u hu
 ·exact TZ.ones.one e u hu⟩
structure AllT (os:List (Option TZ)) (k:Nat) (X:List Nat) (w:World):Prop where
 go:∀e:TZ,some e∈os→IsTZ e k X w
abbrev allT (os:List (Option TZ)) (k:Nat):aL:=AllT os k
instance (os:List (Option TZ)) (k:Nat):Fx.Good (AllT os k):=⟨fun X Y w w' h he hY=>⟨fun e hm=>Fx.Good.go (φ:=IsTZ _ _) X Y w w' (h.go e hm) he hY⟩⟩
theorem Hv.tNil {I:List aL} {n k:Nat}:Hv I (allT (List.replicate n none) k):=⟨fun X w _=>⟨fun e he=>by cases (List.mem_replicate.1 he).2⟩⟩
theorem Hv.tSet {I:List aL} {os:List (Option TZ)} {g:TZ} {k:Nat} {i:Int} (h:allT os k∈I) (hg:aX g k∈I):Hv I (allT (st os i (some g)) k):=⟨fun X w hw=>⟨fun e he=>by
 rcases List.mem_or_eq_of_mem_set he with h1|h1
 ·exact (hw _ h:AllT os k X w).go e h1
 ·cases h1
  exact hw _ hg⟩⟩
theorem Hv.tAt {I:List aL} {os:List (Option TZ)} {g:TZ} {k:Nat} {i:Int} (h:allT os k∈I) (hi:0≤i∧i < os.length) (he:gt os i=some g):Hv I (aX g k):=⟨fun X w hw=>(hw _ h:AllT os k X w).go g (by rw [←he];exact bF hi)⟩
abbrev tt:Bool:=true
abbrev ff:Bool:=false
abbrev rV (d b:Nat):Nat × Value:=(d, .pointer (some ⟨b,0,none⟩))
abbrev yI (h:HZ) (b2:Nat):Env:=[(10,hv9 h),(8,hv9 h),(6,hv9 h),(2, .pointer (some ⟨b2,0,none⟩))]
abbrev rZ (b:Nat):Ent:= .blk b zT3 100
abbrev yN (b2:Nat) (M0:List Ent):List Ent:= .blk b2 z18 44::M0
abbrev yH (b1:Nat) (h:HZ) (u:Nat) (I0:List aL):List aL:=aI (some ⟨b1,0,none⟩) (vU h)::iY h u::I0
section
variable {X:List Nat} {w0:World} {M0:List Ent} {I0:List aL}
theorem aUQ {h:HZ} {u i:Nat} (hi:i < 3) (hh:iY h u∈I0):CD Tryz.prog 115 [hv9 h, .int .i64 (i:Int)] X w0 M0 I0 (fun v M I=>M0=M∧v=dL (gt [h.tr.x,h.tr.y,h.tr.z] (i:Int))∧I=aX (gt [h.tr.x,h.tr.y,h.tr.z] (i:Int)) u::I0):=by
 obtain rfl|rfl|rfl:i=0∨i=1∨i=2:=by omega
 ·exact aKK hh
 ·exact aMK hh
 ·exact aLS hh
theorem bCX {h:HZ} {u:Nat} (hu:u≤100000000000) (hh:iY h u∈I0):CD Tryz.prog 53 [hv9 h] X w0 M0 I0 (HQ h.m.cof (u+u+1) M0 I0):=by
 have h0:=fun M0 I0 h1=>aMI (X:=X) (w0:=w0) (M0:=M0) (I0:=I0) (h:=h) (u:=u) h1
 have h1:=fun M0 I0 h1=>aKX (X:=X) (w0:=w0) (M0:=M0) (I0:=I0) (h:=h) (u:=u) h1
 have h2:=fun M0 I0 h1=>aKJ (X:=X) (w0:=w0) (M0:=M0) (I0:=I0) (h:=h) (u:=u) h1
 have hC:=fun (p q:TZ) M0 I0 h1 h2=>aHB (X:=X) (w0:=w0) (M0:=M0) (I0:=I0) (p:=p) (q:=q) (u:=u) hu h1 h2
 have hR:=fun (p q r:TZ) M0 I0 h1 h2 h3=>zQ (X:=X) (w0:=w0) (M0:=M0) (I0:=I0) (p:=p) (q:=q) (r:=r) (u:=u+u+1) h1 h2 h3
 refine aV (φ:=iY h u) (Hv.mem hh) ?_
 refine aR Tryz.func53 rfl Tryz.ntmps53 rfl ?_
 refine gG ?_
 refine gN rfl (fun b1=>?_)
 refine aH (cs:=vU h) .here ?_
 refine cK (fun b2=>?_)
 repeat refine aB ?_
 refine jQ (fun G M I=>∃b3 b4 b5:Nat,G=[(2, .pointer (some ⟨b2,0,none⟩)),(3, .pointer (some ⟨b3,0,none⟩)),(4, .pointer (some ⟨b4,0,none⟩)),(5, .pointer (some ⟨b5,0,none⟩))]∧M= .blk b5 (mH h.z) 100:: .blk b4 (mH h.y) 100:: .blk b3 (mH h.x) 100:: .blk b2 z18 44::M0∧I=aX h.z u::aX h.y u::aX h.x u::I0) ?_ ?_
 ·(repeat refine aG ?_)
  refine aML (M0) (aI (some ⟨b1,0,none⟩) (vU h)::iY h u::I0) mixed (fun R hR=>?_)
  have n3345:∀b3 b4 b5:Nat,ND 22 (R 3 6 #[tt,tt,tt,tt,tt,tt,tt,tt,tt,ff,ff,ff]) .normal ((11,dL h.z)::(9,dL h.y)::(7,dL h.x)::rV 3 b3::rV 4 b4::rV 5 b5::yI h b2) X w0 (rZ b3::rZ b4::rZ b5::yN b2 M0) (aX h.z u::aX h.y u::aX h.x u::yH b1 h u I0):=by
   intro b3 b4 b5
   rw [hR]
   refine aY [9,10,11] [0,0,0] aF aC (by kernel_rfl) (by kernel_rfl) rfl rfl ?_
   repeat refine aB ?_
   refine tV ⟨b3,b4,b5,rfl,rfl,rfl⟩
  have n2345:∀b3 b4 b5:Nat,ND 22 (R 4 5 #[tt,tt,tt,tt,tt,ff,tt,tt,tt,ff,ff,ff]) .normal ((9,dL h.y)::(7,dL h.x)::rV 3 b3::rV 4 b4::rV 5 b5::yI h b2) X w0 (rZ b3::rZ b4::rZ b5::yN b2 M0) (aX h.y u::aX h.x u::yH b1 h u I0):=by
   intro b3 b4 b5
   rw [hR]
   exact cB (fuel:=3) (listed':=#[tt,tt,tt,tt,tt,tt,tt,tt,tt,ff,ff,ff]) [5] [0] aF aC (by kernel_rfl) (by kernel_rfl) rfl rfl (bR rfl (h2 _ _ aA) rfl rfl (by rintro _ _ _ ⟨rfl,rfl,rfl⟩;exact ⟨okF,bI hR (n3345 b3 b4 b5)⟩))
  have n334:∀b3 b4:Nat,ND 22 (R 4 5 #[tt,tt,tt,tt,tt,tt,tt,tt,ff,ff,ff,ff]) .normal ((11,dL h.z)::(9,dL h.y)::(7,dL h.x)::rV 3 b3::rV 4 b4::yI h b2) X w0 (rZ b3::rZ b4::yN b2 M0) (aX h.z u::aX h.y u::aX h.x u::yH b1 h u I0):=by
   intro b3 b4
   rw [hR]
   exact cB (fuel:=3) (listed':=#[tt,tt,tt,tt,tt,tt,tt,tt,tt,ff,ff,ff]) [8] [0] aF aC (by kernel_rfl) (by kernel_rfl) rfl rfl (bB (d:=5) rfl rfl (fun b5=>⟨okF,bI hR (n3345 b3 b4 b5)⟩))
  have n335:∀b3 b5:Nat,ND 22 (R 4 5 #[tt,tt,tt,tt,tt,tt,tt,ff,tt,ff,ff,ff]) .normal ((11,dL h.z)::(9,dL h.y)::(7,dL h.x)::rV 3 b3::rV 5 b5::yI h b2) X w0 (rZ b3::rZ b5::yN b2 M0) (aX h.z u::aX h.y u::aX h.x u::yH b1 h u I0):=by
   intro b3 b5
   rw [hR]
   exact cB (fuel:=3) (listed':=#[tt,tt,tt,tt,tt,tt,tt,tt,tt,ff,ff,ff]) [7] [0] aF aC (by kernel_rfl) (by kernel_rfl) rfl rfl (bB (d:=4) rfl rfl (fun b4=>⟨okF,bI hR (n3345 b3 b4 b5)⟩))
  have n345:∀b4 b5:Nat,ND 22 (R 4 5 #[tt,tt,tt,tt,tt,tt,ff,tt,tt,ff,ff,ff]) .normal ((11,dL h.z)::(9,dL h.y)::(7,dL h.x)::rV 4 b4::rV 5 b5::yI h b2) X w0 (rZ b4::rZ b5::yN b2 M0) (aX h.z u::aX h.y u::aX h.x u::yH b1 h u I0):=by
   intro b4 b5
   rw [hR]
   exact cB (fuel:=3) (listed':=#[tt,tt,tt,tt,tt,tt,tt,tt,tt,ff,ff,ff]) [6] [0] aF aC (by kernel_rfl) (by kernel_rfl) rfl rfl (bB (d:=3) rfl rfl (fun b3=>⟨okF,bI hR (n3345 b3 b4 b5)⟩))
  have n1345:∀b3 b4 b5:Nat,ND 22 (R 5 4 #[tt,tt,tt,ff,tt,ff,tt,tt,tt,ff,ff,ff]) .normal ((7,dL h.x)::rV 3 b3::rV 4 b4::rV 5 b5::yI h b2) X w0 (rZ b3::rZ b4::rZ b5::yN b2 M0) (aX h.x u::yH b1 h u I0):=by
   intro b3 b4 b5
   rw [hR]
   exact cB (fuel:=4) (listed':=#[tt,tt,tt,tt,tt,ff,tt,tt,tt,ff,ff,ff]) [3] [0] aF aC (by kernel_rfl) (by kernel_rfl) rfl rfl (bR rfl (h1 _ _ aA) rfl rfl (by rintro _ _ _ ⟨rfl,rfl,rfl⟩;exact ⟨okF,bI hR (n2345 b3 b4 b5)⟩))
  have n234:∀b3 b4:Nat,ND 22 (R 5 4 #[tt,tt,tt,tt,tt,ff,tt,tt,ff,ff,ff,ff]) .normal ((9,dL h.y)::(7,dL h.x)::rV 3 b3::rV 4 b4::yI h b2) X w0 (rZ b3::rZ b4::yN b2 M0) (aX h.y u::aX h.x u::yH b1 h u I0):=by
   intro b3 b4
   rw [hR]
   exact aS (i:=5) (j:=8) (by kernel_rfl) (bR rfl (h2 _ _ aA) rfl rfl (by rintro _ _ _ ⟨rfl,rfl,rfl⟩;exact ⟨okF,bI hR (n334 b3 b4)⟩)) (bB (d:=5) rfl rfl (fun b5=>⟨okF,bI hR (n2345 b3 b4 b5)⟩))
  have n235:∀b3 b5:Nat,ND 22 (R 5 4 #[tt,tt,tt,tt,tt,ff,tt,ff,tt,ff,ff,ff]) .normal ((9,dL h.y)::(7,dL h.x)::rV 3 b3::rV 5 b5::yI h b2) X w0 (rZ b3::rZ b5::yN b2 M0) (aX h.y u::aX h.x u::yH b1 h u I0):=by
   intro b3 b5
   rw [hR]
   exact aS (i:=5) (j:=7) (by kernel_rfl) (bR rfl (h2 _ _ aA) rfl rfl (by rintro _ _ _ ⟨rfl,rfl,rfl⟩;exact ⟨okF,bI hR (n335 b3 b5)⟩)) (bB (d:=4) rfl rfl (fun b4=>⟨okF,bI hR (n2345 b3 b4 b5)⟩))
  have n245:∀b4 b5:Nat,ND 22 (R 5 4 #[tt,tt,tt,tt,tt,ff,ff,tt,tt,ff,ff,ff]) .normal ((9,dL h.y)::(7,dL h.x)::rV 4 b4::rV 5 b5::yI h b2) X w0 (rZ b4::rZ b5::yN b2 M0) (aX h.y u::aX h.x u::yH b1 h u I0):=by
   intro b4 b5
   rw [hR]
   exact aS (i:=5) (j:=6) (by kernel_rfl) (bR rfl (h2 _ _ aA) rfl rfl (by rintro _ _ _ ⟨rfl,rfl,rfl⟩;exact ⟨okF,bI hR (n345 b4 b5)⟩)) (bB (d:=3) rfl rfl (fun b3=>⟨okF,bI hR (n2345 b3 b4 b5)⟩))
  have n33:∀b3:Nat,ND 22 (R 5 4 #[tt,tt,tt,tt,tt,tt,tt,ff,ff,ff,ff,ff]) .normal ((11,dL h.z)::(9,dL h.y)::(7,dL h.x)::rV 3 b3::yI h b2) X w0 (rZ b3::yN b2 M0) (aX h.z u::aX h.y u::aX h.x u::yH b1 h u I0):=by
   intro b3
   rw [hR]
   exact aS (i:=7) (j:=8) (by kernel_rfl) (bB (d:=4) rfl rfl (fun b4=>⟨okF,bI hR (n334 b3 b4)⟩)) (bB (d:=5) rfl rfl (fun b5=>⟨okF,bI hR (n335 b3 b5)⟩))
  have n34:∀b4:Nat,ND 22 (R 5 4 #[tt,tt,tt,tt,tt,tt,ff,tt,ff,ff,ff,ff]) .normal ((11,dL h.z)::(9,dL h.y)::(7,dL h.x)::rV 4 b4::yI h b2) X w0 (rZ b4::yN b2 M0) (aX h.z u::aX h.y u::aX h.x u::yH b1 h u I0):=by
   intro b4
   rw [hR]
   exact aS (i:=6) (j:=8) (by kernel_rfl) (bB (d:=3) rfl rfl (fun b3=>⟨okF,bI hR (n334 b3 b4)⟩)) (bB (d:=5) rfl rfl (fun b5=>⟨okF,bI hR (n345 b4 b5)⟩))
  have n35:∀b5:Nat,ND 22 (R 5 4 #[tt,tt,tt,tt,tt,tt,ff,ff,tt,ff,ff,ff]) .normal ((11,dL h.z)::(9,dL h.y)::(7,dL h.x)::rV 5 b5::yI h b2) X w0 (rZ b5::yN b2 M0) (aX h.z u::aX h.y u::aX h.x u::yH b1 h u I0):=by
   intro b5
   rw [hR]
   exact aS (i:=6) (j:=7) (by kernel_rfl) (bB (d:=3) rfl rfl (fun b3=>⟨okF,bI hR (n335 b3 b5)⟩)) (bB (d:=4) rfl rfl (fun b4=>⟨okF,bI hR (n345 b4 b5)⟩))
  have n0345:∀b3 b4 b5:Nat,ND 22 (R 6 3 #[tt,ff,tt,ff,tt,ff,tt,tt,tt,ff,ff,ff]) .normal (rV 3 b3::rV 4 b4::rV 5 b5::yI h b2) X w0 (rZ b3::rZ b4::rZ b5::yN b2 M0) (yH b1 h u I0):=by
   intro b3 b4 b5
   rw [hR]
   exact cB (fuel:=5) (listed':=#[tt,tt,tt,ff,tt,ff,tt,tt,tt,ff,ff,ff]) [1] [0] aF aC (by kernel_rfl) (by kernel_rfl) rfl rfl (bR rfl (h0 _ _ aA) rfl rfl (by rintro _ _ _ ⟨rfl,rfl,rfl⟩;exact ⟨okF,bI hR (n1345 b3 b4 b5)⟩))
  have n134:∀b3 b4:Nat,ND 22 (R 6 3 #[tt,tt,tt,ff,tt,ff,tt,tt,ff,ff,ff,ff]) .normal ((7,dL h.x)::rV 3 b3::rV 4 b4::yI h b2) X w0 (rZ b3::rZ b4::yN b2 M0) (aX h.x u::yH b1 h u I0):=by
   intro b3 b4
   rw [hR]
   exact aS (i:=3) (j:=8) (by kernel_rfl) (bR rfl (h1 _ _ aA) rfl rfl (by rintro _ _ _ ⟨rfl,rfl,rfl⟩;exact ⟨okF,bI hR (n234 b3 b4)⟩)) (bB (d:=5) rfl rfl (fun b5=>⟨okF,bI hR (n1345 b3 b4 b5)⟩))
  have n135:∀b3 b5:Nat,ND 22 (R 6 3 #[tt,tt,tt,ff,tt,ff,tt,ff,tt,ff,ff,ff]) .normal ((7,dL h.x)::rV 3 b3::rV 5 b5::yI h b2) X w0 (rZ b3::rZ b5::yN b2 M0) (aX h.x u::yH b1 h u I0):=by
   intro b3 b5
   rw [hR]
   exact aS (i:=3) (j:=7) (by kernel_rfl) (bR rfl (h1 _ _ aA) rfl rfl (by rintro _ _ _ ⟨rfl,rfl,rfl⟩;exact ⟨okF,bI hR (n235 b3 b5)⟩)) (bB (d:=4) rfl rfl (fun b4=>⟨okF,bI hR (n1345 b3 b4 b5)⟩))
  have n145:∀b4 b5:Nat,ND 22 (R 6 3 #[tt,tt,tt,ff,tt,ff,ff,tt,tt,ff,ff,ff]) .normal ((7,dL h.x)::rV 4 b4::rV 5 b5::yI h b2) X w0 (rZ b4::rZ b5::yN b2 M0) (aX h.x u::yH b1 h u I0):=by
   intro b4 b5
   rw [hR]
   exact aS (i:=3) (j:=6) (by kernel_rfl) (bR rfl (h1 _ _ aA) rfl rfl (by rintro _ _ _ ⟨rfl,rfl,rfl⟩;exact ⟨okF,bI hR (n245 b4 b5)⟩)) (bB (d:=3) rfl rfl (fun b3=>⟨okF,bI hR (n1345 b3 b4 b5)⟩))
  have n23:∀b3:Nat,ND 22 (R 6 3 #[tt,tt,tt,tt,tt,ff,tt,ff,ff,ff,ff,ff]) .normal ((9,dL h.y)::(7,dL h.x)::rV 3 b3::yI h b2) X w0 (rZ b3::yN b2 M0) (aX h.y u::aX h.x u::yH b1 h u I0):=by
   intro b3
   rw [hR]
   exact iM (i:=5) (j:=7) (m:=8) (by kernel_rfl) (bR rfl (h2 _ _ aA) rfl rfl (by rintro _ _ _ ⟨rfl,rfl,rfl⟩;exact ⟨okF,bI hR (n33 b3)⟩)) (bB (d:=4) rfl rfl (fun b4=>⟨okF,bI hR (n234 b3 b4)⟩)) (bB (d:=5) rfl rfl (fun b5=>⟨okF,bI hR (n235 b3 b5)⟩))
  have n24:∀b4:Nat,ND 22 (R 6 3 #[tt,tt,tt,tt,tt,ff,ff,tt,ff,ff,ff,ff]) .normal ((9,dL h.y)::(7,dL h.x)::rV 4 b4::yI h b2) X w0 (rZ b4::yN b2 M0) (aX h.y u::aX h.x u::yH b1 h u I0):=by
   intro b4
   rw [hR]
   exact iM (i:=5) (j:=6) (m:=8) (by kernel_rfl) (bR rfl (h2 _ _ aA) rfl rfl (by rintro _ _ _ ⟨rfl,rfl,rfl⟩;exact ⟨okF,bI hR (n34 b4)⟩)) (bB (d:=3) rfl rfl (fun b3=>⟨okF,bI hR (n234 b3 b4)⟩)) (bB (d:=5) rfl rfl (fun b5=>⟨okF,bI hR (n245 b4 b5)⟩))
  have n25:∀b5:Nat,ND 22 (R 6 3 #[tt,tt,tt,tt,tt,ff,ff,ff,tt,ff,ff,ff]) .normal ((9,dL h.y)::(7,dL h.x)::rV 5 b5::yI h b2) X w0 (rZ b5::yN b2 M0) (aX h.y u::aX h.x u::yH b1 h u I0):=by
   intro b5
   rw [hR]
   exact iM (i:=5) (j:=6) (m:=7) (by kernel_rfl) (bR rfl (h2 _ _ aA) rfl rfl (by rintro _ _ _ ⟨rfl,rfl,rfl⟩;exact ⟨okF,bI hR (n35 b5)⟩)) (bB (d:=3) rfl rfl (fun b3=>⟨okF,bI hR (n235 b3 b5)⟩)) (bB (d:=4) rfl rfl (fun b4=>⟨okF,bI hR (n245 b4 b5)⟩))
  have n3:ND 22 (R 6 3 #[tt,tt,tt,tt,tt,tt,ff,ff,ff,ff,ff,ff]) .normal ((11,dL h.z)::(9,dL h.y)::(7,dL h.x)::yI h b2) X w0 (yN b2 M0) (aX h.z u::aX h.y u::aX h.x u::yH b1 h u I0):=by
   rw [hR]
   exact iM (i:=6) (j:=7) (m:=8) (by kernel_rfl) (bB (d:=3) rfl rfl (fun b3=>⟨okF,bI hR (n33 b3)⟩)) (bB (d:=4) rfl rfl (fun b4=>⟨okF,bI hR (n34 b4)⟩)) (bB (d:=5) rfl rfl (fun b5=>⟨okF,bI hR (n35 b5)⟩))
  have n034:∀b3 b4:Nat,ND 22 (R 7 2 #[tt,ff,tt,ff,tt,ff,tt,tt,ff,ff,ff,ff]) .normal (rV 3 b3::rV 4 b4::yI h b2) X w0 (rZ b3::rZ b4::yN b2 M0) (yH b1 h u I0):=by
   intro b3 b4
   rw [hR]
   exact aS (i:=1) (j:=8) (by kernel_rfl) (bR rfl (h0 _ _ aA) rfl rfl (by rintro _ _ _ ⟨rfl,rfl,rfl⟩;exact ⟨okF,bI hR (n134 b3 b4)⟩)) (bB (d:=5) rfl rfl (fun b5=>⟨okF,bI hR (n0345 b3 b4 b5)⟩))
  have n035:∀b3 b5:Nat,ND 22 (R 7 2 #[tt,ff,tt,ff,tt,ff,tt,ff,tt,ff,ff,ff]) .normal (rV 3 b3::rV 5 b5::yI h b2) X w0 (rZ b3::rZ b5::yN b2 M0) (yH b1 h u I0):=by
   intro b3 b5
   rw [hR]
   exact aS (i:=1) (j:=7) (by kernel_rfl) (bR rfl (h0 _ _ aA) rfl rfl (by rintro _ _ _ ⟨rfl,rfl,rfl⟩;exact ⟨okF,bI hR (n135 b3 b5)⟩)) (bB (d:=4) rfl rfl (fun b4=>⟨okF,bI hR (n0345 b3 b4 b5)⟩))
  have n045:∀b4 b5:Nat,ND 22 (R 7 2 #[tt,ff,tt,ff,tt,ff,ff,tt,tt,ff,ff,ff]) .normal (rV 4 b4::rV 5 b5::yI h b2) X w0 (rZ b4::rZ b5::yN b2 M0) (yH b1 h u I0):=by
   intro b4 b5
   rw [hR]
   exact aS (i:=1) (j:=6) (by kernel_rfl) (bR rfl (h0 _ _ aA) rfl rfl (by rintro _ _ _ ⟨rfl,rfl,rfl⟩;exact ⟨okF,bI hR (n145 b4 b5)⟩)) (bB (d:=3) rfl rfl (fun b3=>⟨okF,bI hR (n0345 b3 b4 b5)⟩))
  have n13:∀b3:Nat,ND 22 (R 7 2 #[tt,tt,tt,ff,tt,ff,tt,ff,ff,ff,ff,ff]) .normal ((7,dL h.x)::rV 3 b3::yI h b2) X w0 (rZ b3::yN b2 M0) (aX h.x u::yH b1 h u I0):=by
   intro b3
   rw [hR]
   exact iM (i:=3) (j:=7) (m:=8) (by kernel_rfl) (bR rfl (h1 _ _ aA) rfl rfl (by rintro _ _ _ ⟨rfl,rfl,rfl⟩;exact ⟨okF,bI hR (n23 b3)⟩)) (bB (d:=4) rfl rfl (fun b4=>⟨okF,bI hR (n134 b3 b4)⟩)) (bB (d:=5) rfl rfl (fun b5=>⟨okF,bI hR (n135 b3 b5)⟩))
  have n14:∀b4:Nat,ND 22 (R 7 2 #[tt,tt,tt,ff,tt,ff,ff,tt,ff,ff,ff,ff]) .normal ((7,dL h.x)::rV 4 b4::yI h b2) X w0 (rZ b4::yN b2 M0) (aX h.x u::yH b1 h u I0):=by
   intro b4
   rw [hR]
   exact iM (i:=3) (j:=6) (m:=8) (by kernel_rfl) (bR rfl (h1 _ _ aA) rfl rfl (by rintro _ _ _ ⟨rfl,rfl,rfl⟩;exact ⟨okF,bI hR (n24 b4)⟩)) (bB (d:=3) rfl rfl (fun b3=>⟨okF,bI hR (n134 b3 b4)⟩)) (bB (d:=5) rfl rfl (fun b5=>⟨okF,bI hR (n145 b4 b5)⟩))
  have n15:∀b5:Nat,ND 22 (R 7 2 #[tt,tt,tt,ff,tt,ff,ff,ff,tt,ff,ff,ff]) .normal ((7,dL h.x)::rV 5 b5::yI h b2) X w0 (rZ b5::yN b2 M0) (aX h.x u::yH b1 h u I0):=by
   intro b5
   rw [hR]
   exact iM (i:=3) (j:=6) (m:=7) (by kernel_rfl) (bR rfl (h1 _ _ aA) rfl rfl (by rintro _ _ _ ⟨rfl,rfl,rfl⟩;exact ⟨okF,bI hR (n25 b5)⟩)) (bB (d:=3) rfl rfl (fun b3=>⟨okF,bI hR (n135 b3 b5)⟩)) (bB (d:=4) rfl rfl (fun b4=>⟨okF,bI hR (n145 b4 b5)⟩))
  have n2:ND 22 (R 7 2 #[tt,tt,tt,tt,tt,ff,ff,ff,ff,ff,ff,ff]) .normal ((9,dL h.y)::(7,dL h.x)::yI h b2) X w0 (yN b2 M0) (aX h.y u::aX h.x u::yH b1 h u I0):=by
   rw [hR]
   exact vW (i:=5) (j:=6) (m:=7) (o:=8) (by kernel_rfl) (bR rfl (h2 _ _ aA) rfl rfl (by rintro _ _ _ ⟨rfl,rfl,rfl⟩;exact ⟨okF,bI hR (n3)⟩)) (bB (d:=3) rfl rfl (fun b3=>⟨okF,bI hR (n23 b3)⟩)) (bB (d:=4) rfl rfl (fun b4=>⟨okF,bI hR (n24 b4)⟩)) (bB (d:=5) rfl rfl (fun b5=>⟨okF,bI hR (n25 b5)⟩))
  have n03:∀b3:Nat,ND 22 (R 8 1 #[tt,ff,tt,ff,tt,ff,tt,ff,ff,ff,ff,ff]) .normal (rV 3 b3::yI h b2) X w0 (rZ b3::yN b2 M0) (yH b1 h u I0):=by
   intro b3
   rw [hR]
   exact iM (i:=1) (j:=7) (m:=8) (by kernel_rfl) (bR rfl (h0 _ _ aA) rfl rfl (by rintro _ _ _ ⟨rfl,rfl,rfl⟩;exact ⟨okF,bI hR (n13 b3)⟩)) (bB (d:=4) rfl rfl (fun b4=>⟨okF,bI hR (n034 b3 b4)⟩)) (bB (d:=5) rfl rfl (fun b5=>⟨okF,bI hR (n035 b3 b5)⟩))
  have n04:∀b4:Nat,ND 22 (R 8 1 #[tt,ff,tt,ff,tt,ff,ff,tt,ff,ff,ff,ff]) .normal (rV 4 b4::yI h b2) X w0 (rZ b4::yN b2 M0) (yH b1 h u I0):=by
   intro b4
   rw [hR]
   exact iM (i:=1) (j:=6) (m:=8) (by kernel_rfl) (bR rfl (h0 _ _ aA) rfl rfl (by rintro _ _ _ ⟨rfl,rfl,rfl⟩;exact ⟨okF,bI hR (n14 b4)⟩)) (bB (d:=3) rfl rfl (fun b3=>⟨okF,bI hR (n034 b3 b4)⟩)) (bB (d:=5) rfl rfl (fun b5=>⟨okF,bI hR (n045 b4 b5)⟩))
  have n05:∀b5:Nat,ND 22 (R 8 1 #[tt,ff,tt,ff,tt,ff,ff,ff,tt,ff,ff,ff]) .normal (rV 5 b5::yI h b2) X w0 (rZ b5::yN b2 M0) (yH b1 h u I0):=by
   intro b5
   rw [hR]
   exact iM (i:=1) (j:=6) (m:=7) (by kernel_rfl) (bR rfl (h0 _ _ aA) rfl rfl (by rintro _ _ _ ⟨rfl,rfl,rfl⟩;exact ⟨okF,bI hR (n15 b5)⟩)) (bB (d:=3) rfl rfl (fun b3=>⟨okF,bI hR (n035 b3 b5)⟩)) (bB (d:=4) rfl rfl (fun b4=>⟨okF,bI hR (n045 b4 b5)⟩))
  have n1:ND 22 (R 8 1 #[tt,tt,tt,ff,tt,ff,ff,ff,ff,ff,ff,ff]) .normal ((7,dL h.x)::yI h b2) X w0 (yN b2 M0) (aX h.x u::yH b1 h u I0):=by
   rw [hR]
   exact vW (i:=3) (j:=6) (m:=7) (o:=8) (by kernel_rfl) (bR rfl (h1 _ _ aA) rfl rfl (by rintro _ _ _ ⟨rfl,rfl,rfl⟩;exact ⟨okF,bI hR (n2)⟩)) (bB (d:=3) rfl rfl (fun b3=>⟨okF,bI hR (n13 b3)⟩)) (bB (d:=4) rfl rfl (fun b4=>⟨okF,bI hR (n14 b4)⟩)) (bB (d:=5) rfl rfl (fun b5=>⟨okF,bI hR (n15 b5)⟩))
  have n0:ND 22 (R 9 0 #[tt,ff,tt,ff,tt,ff,ff,ff,ff,ff,ff,ff]) .normal (yI h b2) X w0 (yN b2 M0) (yH b1 h u I0):=by
   rw [hR]
   exact vW (i:=1) (j:=6) (m:=7) (o:=8) (by kernel_rfl) (bR rfl (h0 _ _ aA) rfl rfl (by rintro _ _ _ ⟨rfl,rfl,rfl⟩;exact ⟨okF,bI hR (n1)⟩)) (bB (d:=3) rfl rfl (fun b3=>⟨okF,bI hR (n03 b3)⟩)) (bB (d:=4) rfl rfl (fun b4=>⟨okF,bI hR (n04 b4)⟩)) (bB (d:=5) rfl rfl (fun b5=>⟨okF,bI hR (n05 b5)⟩))
  show ND 22 (R 12 0 #[false,false,false,false,false,false,false,false,false,false,false,false]) .normal _ X w0 _ _
  rw [hR]
  refine cB (fuel:=9) (listed':=#[tt,ff,tt,ff,tt,ff,ff,ff,ff,ff,ff,ff]) [0,2,4] [5,6,7] aF aC (by kernel_rfl) (by kernel_rfl) rfl rfl ?_
  repeat refine aB ?_
  rw [←hR]
  exact lH dB aF aC n0
 rintro G M I ⟨b3,b4,b5,rfl,rfl,rfl⟩
 (repeat refine aG ?_);refine pW (.blk b5 (mH h.z) 100:: .blk b4 (mH h.y) 100:: .blk b3 (mH h.x) 100::M0) (I0) [0,1,3,4,6,7,2,5,8,9,10] [3,3,3,3,3,3,0,0,0,0,0] mixed ?_
 repeat refine aB ?_
 (refine bD rfl (hC h.y h.z _ _ aA aA) ?_;rintro _ _ _ ⟨rfl,c0,rfl,hc0,rfl⟩;refine aN ?_)
 (refine bD rfl (hC h.z h.x _ _ aA aA) ?_;rintro _ _ _ ⟨rfl,c1,rfl,hc1,rfl⟩;refine aN ?_)
 (refine bD rfl (hC h.x h.y _ _ aA aA) ?_;rintro _ _ _ ⟨rfl,c2,rfl,hc2,rfl⟩;refine aN ?_)
 (refine bD rfl (hR c0 c1 c2 _ _ aA aA aA) ?_;rintro _ _ _ ⟨rfl,rfl,rfl⟩;refine aN ?_)
 repeat refine aB ?_
 refine aO (cs:=vU ⟨c0,c1,c2⟩) (.inl rfl) rfl rfl aA rfl M0 (iY ⟨c0,c1,c2⟩ (u+u+1)::I0) aF aC ⟨rfl,⟨c0,c1,c2⟩,rfl,by show (⟨c0.t,c1.t,c2.t⟩:M9 Int)=_;rw [hc0,hc1,hc2];rfl,rfl⟩
theorem aYR {g h:HZ} {ku m:Nat} (hk:63≤ku+m) (hk2:ku+m≤100000000000) (hg:iY g ku∈I0) (hh:iY h m∈I0):CD Tryz.prog 51 [hv9 g,hv9 h] X w0 M0 I0 (HQ (g.m.mul h.m) (ku+m+3) M0 I0):=by
 have hTg:=fun M0 I0 h1=>aJM (X:=X) (w0:=w0) (M0:=M0) (I0:=I0) (h:=g) (u:=ku) h1
 have hTh:=fun M0 I0 h1=>aJM (X:=X) (w0:=w0) (M0:=M0) (I0:=I0) (h:=h) (u:=m) h1
 have hC:=fun (i:Nat) (hi:i < 3) M0 I0 h1=>aUQ (X:=X) (w0:=w0) (M0:=M0) (I0:=I0) (h:=g.tr) (u:=ku) (i:=i) hi h1
 have hTm:=fun (p:TZ) M0 I0 h1 h2=>aTL (X:=X) (w0:=w0) (M0:=M0) (I0:=I0) (h:=h.tr) (p:=p) (k:=m) (m:=ku) (by omega) (by omega) h1 h2
 have e9:m+ku+3=ku+m+3:=by omega
 rw [e9] at hTm
 have hR:=fun (p q r:TZ) M0 I0 h1 h2 h3=>zQ (X:=X) (w0:=w0) (M0:=M0) (I0:=I0) (p:=p) (q:=q) (r:=r) (u:=ku+m+3) h1 h2 h3
 refine aV (φ:=iY g ku) (Hv.mem hg) (aV (φ:=iY h m) (Hv.mem (List.mem_cons_of_mem _ hh)) ?_)
 refine aM Tryz.func51 rfl Tryz.ntmps51 rfl ?_
 refine gG ?_
 refine gN rfl (fun b2=>?_)
 refine aH (cs:=vU g) .here ?_
 refine gN rfl (fun b3=>?_)
 refine aH (cs:=vU h) .here ?_
 refine cK (fun b4=>?_)
 repeat refine aB ?_
 (refine bD rfl (hTg _ _ aA) ?_;rintro _ _ _ ⟨rfl,rfl,rfl⟩;refine aN ?_)
 refine cK (fun b5=>?_)
 repeat refine aB ?_
 refine cK (fun b6=>?_)
 repeat refine aB ?_
 refine bG (φ:=allT [none,none,none] (ku+m+3)) (Hv.tNil (n:=3)) ?_
 refine lX [3,4,5,6] rfl (fun k G M I=>∃(i:Nat) (os:List (Option TZ)),i≤3∧k=3 - i∧os.length=3∧(∀j:Nat,j < i→∃e:TZ,gt os (j:Int)=some e∧e.t=h.tr.m.app (gt [g.x,g.y,g.z] (j:Int)).t)∧G=[(10, .int .i64 i)]∧M= .blk b6 (recs wT os) 164:: .blk b5 (vU g.tr) 44:: .blk b4 z18 44::M0∧I=allT os (ku+m+3)::iY g.tr ku::aI (some ⟨b3,0,none⟩) (vU h)::iY h m::I0) (3) (⟨0,[none,none,none],by omega,rfl,rfl,fun j hj=>absurd hj (by omega),rfl,rfl,rfl⟩) ?_
 rintro kk G M I ⟨i,os,hi,rfl,hol,ho,rfl,rfl,rfl⟩
 by_cases hii:i < 3
 ·repeat refine aB ?_
  (repeat refine aG ?_);refine pW (.blk b5 (vU g.tr) 44::M0) (aI (some ⟨b3,0,none⟩) (vU h)::I0) [0,1,3,4,2,5,6,7,8] [3,2,2,2,0,0,0,0,0] mixed ?_
  repeat refine aB ?_
  (refine bD rfl (hTh _ _ aA) ?_;rintro _ _ _ ⟨rfl,rfl,rfl⟩;refine aN ?_)
  (refine bD rfl (hC i hii _ _ aA) ?_;rintro _ _ _ ⟨rfl,rfl,rfl⟩;refine aN ?_)
  (refine bD rfl (hTm (gt [g.tr.tr.x,g.tr.tr.y,g.tr.tr.z] (i:Int)) _ _ aA aA) ?_;rintro _ _ _ ⟨rfl,p,rfl,hp,rfl⟩;refine aN ?_)
  repeat refine yXh ?_
  refine fJ (vs:=mH p) rfl rfl rfl (Ones.one p) jJ (StAts.o0 (enc:=wT) (sz:=6) (ms:=os) (i:=(i:Int)) (some p) ⟨by omega,by omega⟩ rfl) rfl rfl ⟨okF,?_⟩
  repeat refine aB ?_
  refine dF (φ:=allT (st os (i:Int) (some p)) (ku+m+3)) (Hv.tSet aA aA) ?_
  refine gL (3 - (i+1)) (⟨i+1,st os (i:Int) (some p),by omega,rfl,by rw [oP];exact hol,fun t ht=>by
   rw [pM (by omega) (by omega)]
   by_cases e:t=i
   ·subst e
    rw [if_pos rfl]
    exact ⟨p,rfl,hp⟩
   ·rw [if_neg e]
    exact ho t (by omega),rfl,rfl,rfl⟩)
 ·obtain rfl:i=3:=by omega
  obtain ⟨a,ha,hza⟩:=ho 0 (by omega)
  obtain ⟨b,hb,hzb⟩:=ho 1 (by omega)
  obtain ⟨c,hc,hzc⟩:=ho 2 (by omega)
  refine bG (φ:=aX a (ku+m+3)) (Hv.tAt (os:=os) (i:=((0:Nat):Int)) aA ⟨by omega,by omega⟩ ha) ?_
  refine bG (φ:=aX b (ku+m+3)) (Hv.tAt (os:=os) (i:=((1:Nat):Int)) aA ⟨by omega,by omega⟩ hb) ?_
  refine bG (φ:=aX c (ku+m+3)) (Hv.tAt (os:=os) (i:=((2:Nat):Int)) aA ⟨by omega,by omega⟩ hc) ?_
  have e3:recs wT os=recs mH [a,b,c]:=by rw [os3 hol,show gt os 0=some a from ha,show gt os 1=some b from hb,show gt os 2=some c from hc];rfl
  rw [e3]
  repeat refine aB ?_
  (apply bJ;exact eX;exact rfl;exact aA;exact AtsZ.o0 (enc:=mH) (sz:=6) (ms:=[a,b,c]) (i:=0) ⟨by decide,by simp⟩;exact rfl;exact rfl)
  repeat refine aB ?_
  (apply bJ;exact eX;exact rfl;exact aA;exact AtsZ.o0 (enc:=mH) (sz:=6) (ms:=[a,b,c]) (i:=1) ⟨by decide,by simp⟩;exact rfl;exact rfl)
  repeat refine aB ?_
  (apply bJ;exact eX;exact rfl;exact aA;exact AtsZ.o0 (enc:=mH) (sz:=6) (ms:=[a,b,c]) (i:=2) ⟨by decide,by simp⟩;exact rfl;exact rfl)
  repeat refine aB ?_
  (refine bD rfl (hR a b c _ _ aA aA aA) ?_;rintro _ _ _ ⟨rfl,rfl,rfl⟩;refine aN ?_)
  repeat refine aB ?_
  refine aO (cs:=vU ⟨a,b,c⟩) (.inl rfl) rfl rfl aA rfl M0 (iY ⟨a,b,c⟩ (ku+m+3)::I0) aF aC ⟨rfl,⟨a,b,c⟩,rfl,by show (⟨a.t,b.t,c.t⟩:M9 Int)=_;rw [hza,hzb,hzc];rfl,rfl⟩
end
abbrev Sp:=List (Nat × List Rat)
def sub1 (κ:Rat) (s l:List Rat):List Rat:=l.mapIdx (fun c x=>x - κ*s.getD c 0)
def rdS (p:Nat × List Rat) (l:List Rat):List Rat:=sub1 (l.getD p.1 0) p.2 l
def rdc (sp:Sp) (l:List Rat):List Rat:=sp.foldl (fun l p=>rdS p l) l
def fst0 (l:List Rat):Nat:=l.findIdx (fun x=>decide (x≠0))
def dvd (l:List Rat) (κ:Rat):List Rat:=l.map (fun x=>x / κ)
def adS (sp:Sp) (l:List Rat):Bool × Sp:=
 if fst0 (rdc sp l) < l.length then (true,sp++[(fst0 (rdc sp l),dvd (rdc sp l) ((rdc sp l).getD (fst0 (rdc sp l)) 0))]) else (false,sp)
def spn (A:Mt) (q:Nat→Bool):Nat→Sp × List Nat
 |0=>([],[])
 |k+1=>if q k then ((adS (spn A q k).1 (rowAt A k)).2,if (adS (spn A q k).1 (rowAt A k)).1 then (spn A q k).2++[k] else (spn A q k).2) else spn A q k
def spR (sp:Sp) (t:Nat):List Rat:=(sp.getD t (0,[])).2
def spP (sp:Sp) (t:Nat):Nat:=(sp.getD t (0,[])).1
structure SpI (C:Nat) (sp:Sp):Prop where
 len:∀t,t < sp.length→(spR sp t).length=C
 piv:∀t,t < sp.length→spP sp t < C
 one:∀t,t < sp.length→(spR sp t).getD (spP sp t) 0=1
 low:∀t u,u < t→t < sp.length→(spR sp t).getD (spP sp u) 0=0
def dotL (C:Nat) (l:List Rat) (z:Nat→Rat):Rat:=sm C (fun j=>l.getD j 0*z j)
def kerS (C:Nat) (sp:Sp) (z:Nat→Rat):Prop:=∀p∈sp,dotL C p.2 z=0
section
variable {A:Mt} {q:Nat→Bool} {R C:Nat}
end
/- rows that are independent: the rank is their number -/
def indR (K:Mt) (k C:Nat):Prop:=∀d:Nat→Rat,(∀j,j < C→sm k (fun i=>d i*at2 K i j)=0)→∀i,i < k→d i=0
def mtS (sp:Sp):Mt:=sp.map (·.2)
def F1 (k:Nat) (z:Nat→Rat) (s:Q4):Rat:=if k=0 then z 0 else if k=1 then (s.x:Rat)*z 0 - (s.y:Rat)*z 1+z 2 else (s.x:Rat)*z 0+(s.y:Rat)*z 1+z 2
def F2 (k:Nat) (z:Nat→Rat) (s:Q4):Rat:=if k=0 then z 1 else if k=1 then (s.y:Rat)*z 0+(s.x:Rat)*z 1+z 3 else (s.x:Rat)*z 3+(s.y:Rat)*z 4+z 5
def er1 (k:Nat) (z:Nat→Rat) (s:Q4):Rat:=F1 k z s - (db1 k s:Rat)
def er2 (k:Nat) (z:Nat→Rat) (s:Q4):Rat:=F2 k z s - (db2 k s:Rat)
def detF (k:Nat) (z:Nat→Rat):Rat:=if k=0 then 1 else if k=1 then z 0*z 0+z 1*z 1 else z 0*z 4 - z 1*z 3
structure MovL (k:Nat) (f:Q4→Q4) where
 T:(Nat→Rat)→(Nat→Rat)
 S:(Nat→Rat)→(Nat→Rat)
 U:(Nat→Rat)→(Nat→Rat)
 Tk:∀z s,F1 k z s=0∧F2 k z s=0→F1 k (T z) (f s)=0∧F2 k (T z) (f s)=0
 Sk:∀z s,F1 k z (f s)=0∧F2 k z (f s)=0→F1 k (S z) s=0∧F2 k (S z) s=0
 Tz:∀z,(∀j,j < lG k→T z j=0)→∀j,j < lG k→z j=0
 Sz:∀z,(∀j,j < lG k→S z j=0)→∀j,j < lG k→z j=0
 Ue:∀z s,er1 k z s=0∧er2 k z s=0→er1 k (U z) (f s)=0∧er2 k (U z) (f s)=0
 Um:∀z s,er1 k (U z) (f s)*er1 k (U z) (f s)+er2 k (U z) (f s)*er2 k (U z) (f s)=er1 k z s*er1 k z s+er2 k z s*er2 k z s
 Ud:∀z,detF k (U z)=0↔detF k z=0
structure Alike (mp mp':Option Mt) (f:Q4→Q4):Prop where
 none:mp= .none↔mp'= .none
 last:∀m m',mp=some m→mp'=some m'→∀s,lL m 2 s=0↔lL m' 2 (f s)=0
 mis:∀m m',mp=some m→mp'=some m'→∀s,lL m 2 s≠0→tQ m s=tQ m' (f s)
def bFI (a b:Int) (s:Q4):Q4:=⟨s.x,s.y,s.u+a,s.v+b⟩
def exchQ (s:Q4):Q4:=⟨s.y,s.x,s.v,s.u⟩
def turnQ (s:Q4):Q4:=⟨-s.y,s.x, -s.v,s.u⟩
def sf (l:List Rat) (j:Nat):Rat:=l.getD j 0
section
variable {a b:Int}
def idT (z:Nat→Rat):Nat→Rat:=z
def shU (k:Nat) (a b:Int) (z:Nat→Rat) (j:Nat):Rat:=if k=0 then (if j=0 then z 0+a else z 1+b) else if k=1 then (if j=0 then z 0 else if j=1 then z 1 else if j=2 then z 2+a else z 3+b) else (if j=0 then z 0 else if j=1 then z 1 else if j=2 then z 2+a else if j=3 then z 3 else if j=4 then z 4 else z 5+b)
def exT (k:Nat) (z:Nat→Rat) (j:Nat):Rat:=if k=0 then (if j=0 then z 1 else z 0) else if k=1 then (if j=0 then z 0 else if j=1 then -z 1 else if j=2 then z 3 else z 2) else (if j=0 then z 4 else if j=1 then z 3 else if j=2 then z 5 else if j=3 then z 1 else if j=4 then z 0 else z 2)
def tuT (k:Nat) (z:Nat→Rat) (j:Nat):Rat:=if k=0 then (if j=0 then -z 1 else z 0) else if k=1 then (if j=0 then z 0 else if j=1 then z 1 else if j=2 then -z 3 else z 2) else (if j=0 then z 4 else if j=1 then -z 3 else if j=2 then -z 5 else if j=3 then -z 1 else if j=4 then z 0 else z 2)
def tuS (k:Nat) (z:Nat→Rat) (j:Nat):Rat:=if k=0 then (if j=0 then z 1 else -z 0) else if k=1 then (if j=0 then z 0 else if j=1 then z 1 else if j=2 then z 3 else -z 2) else (if j=0 then z 4 else if j=1 then -z 3 else if j=2 then z 5 else if j=3 then -z 1 else if j=4 then z 0 else -z 2)
end
def hr1 (s:Q4):List Int:=[s.x,s.y,1,0,0,0, -s.u*s.x, -s.u*s.y, -s.u]
def hr2 (s:Q4):List Int:=[0,0,0,s.x,s.y,1, -s.v*s.x, -s.v*s.y, -s.v]
def hA (l:List Q4):Mt:=l.flatMap (fun s=>[cz (hr1 s),cz (hr2 s)])
theorem aNU {l:List Q4}:(hA l).length=2*l.length:=by
 unfold hA
 induction l with
 |nil=>rfl
 |cons s r ih=>rw [List.flatMap_cons,List.length_append,ih];simp;omega
theorem aIY:∀{l:List Q4} {i:Nat},i < l.length→rowAt (hA l) (2*i)=cz (hr1 (gt l (i:Int)))∧rowAt (hA l) (2*i+1)=cz (hr2 (gt l (i:Int)))
 |s::r,0,_=>⟨rfl,rfl⟩
 |s::r,i+1,h=>by
  have ih:=aIY (l:=r) (i:=i) (by simpa using h)
  have e1:gt (s::r) ((i+1:Nat):Int)=gt r (i:Int):=by rw [gtQ h,gtQ (by simpa using h)];rfl
  rw [e1,←ih.1,←ih.2]
  have e2:hA (s::r)=cz (hr1 s)::cz (hr2 s)::hA r:=rfl
  have e3:2*(i+1)=2*i+1+1:=by omega
  rw [e2,e3]
  exact ⟨rfl,rfl⟩
theorem aUP {l:List Q4}:qM (hA l) (2*l.length) 9:=⟨aNU,fun i hi=>by
 obtain ⟨t,h|h⟩:∃t,i=2*t∨i=2*t+1:=⟨i / 2,by omega⟩
 ·rw [h,(aIY (by omega)).1];rfl
 ·rw [h,(aIY (by omega)).2];rfl⟩
def ptF (s:Q4):T3 Int:=⟨s.x,s.y,1⟩
def ptT (s:Q4):T3 Int:=⟨s.u,s.v,1⟩
def ofH (z:Nat→Rat):M9 Rat:=⟨⟨z 0,z 1,z 2⟩,⟨z 3,z 4,z 5⟩,⟨z 6,z 7,z 8⟩⟩
theorem sm9h (f:Nat→Rat):sm 9 f=0+f 0+f 1+f 2+f 3+f 4+f 5+f 6+f 7+f 8:=rfl
theorem bFA {s:Q4} {z:Nat→Rat} (h1:sm 9 (fun j=>(cz (hr1 s)).getD j 0*z j)=0) (h2:sm 9 (fun j=>(cz (hr2 s)).getD j 0*z j)=0):
  (ofH z).app (jI (ptF s))=(jI (ptT s)).smul ((ofH z).z.dot (jI (ptF s))):=by
 have i0:((0:Int):Rat)=0:=rfl
 have i1:((1:Int):Rat)=1:=rfl
 rw [sm9h] at h1 h2
 have g1:0+(s.x:Rat)*z 0+(s.y:Rat)*z 1+((1:Int):Rat)*z 2+((0:Int):Rat)*z 3+((0:Int):Rat)*z 4+((0:Int):Rat)*z 5+((-s.u*s.x:Int):Rat)*z 6+((-s.u*s.y:Int):Rat)*z 7+((-s.u:Int):Rat)*z 8=0:=h1
 have g2:0+((0:Int):Rat)*z 0+((0:Int):Rat)*z 1+((0:Int):Rat)*z 2+(s.x:Rat)*z 3+(s.y:Rat)*z 4+((1:Int):Rat)*z 5+((-s.v*s.x:Int):Rat)*z 6+((-s.v*s.y:Int):Rat)*z 7+((-s.v:Int):Rat)*z 8=0:=h2
 rw [Rat.intCast_mul,Rat.intCast_mul,Rat.intCast_neg,i0,i1] at g1
 rw [Rat.intCast_mul,Rat.intCast_mul,Rat.intCast_neg,i0,i1] at g2
 apply T3.ext3
 ·show z 0*(s.x:Rat)+z 1*(s.y:Rat)+z 2*((1:Int):Rat)=(z 6*(s.x:Rat)+z 7*(s.y:Rat)+z 8*((1:Int):Rat))*(s.u:Rat)
  rw [i1];grind
 ·show z 3*(s.x:Rat)+z 4*(s.y:Rat)+z 5*((1:Int):Rat)=(z 6*(s.x:Rat)+z 7*(s.y:Rat)+z 8*((1:Int):Rat))*(s.v:Rat)
  rw [i1];grind
 ·show z 6*(s.x:Rat)+z 7*(s.y:Rat)+z 8*((1:Int):Rat)=(z 6*(s.x:Rat)+z 7*(s.y:Rat)+z 8*((1:Int):Rat))*((1:Int):Rat)
  rw [i1];grind
def qP:List Rat→Rat
 |[]=>0
 |x::r=>if x=0 then qP r else x
def qL (l:List Rat):List Rat:=l.map (fun x=>x / qP l)
theorem aHA {s:Rat} (hs:s≠0):∀l:List Rat,qP (l.map (fun x=>s*x))=s*qP l
 |[]=>by show (0:Rat)=s*0;grind
 |x::r=>by
  have ih:=aHA hs r
  show (if s*x=0 then qP (r.map (fun x=>s*x)) else s*x)=s*(if x=0 then qP r else x)
  by_cases h:x=0
  ·rw [if_pos h,if_pos (by rw [h];grind),ih]
  ·rw [if_neg h,if_neg (fun e=>(Rat.mul_eq_zero.1 e).elim hs h)]
theorem zC {s x f:Rat} (hs:s≠0):s*x / (s*f)=x / f:=by
 by_cases hf:f=0
 ·subst hf
  have e1:s*(0:Rat)=0:=by grind
  rw [e1,Rat.div_def,Rat.div_def]
  have e2:(0:Rat)⁻¹=0:=by decide+kernel
  rw [e2];grind
 ·grind
theorem aBU {s:Rat} (hs:s≠0) (l:List Rat):qL (l.map (fun x=>s*x))=qL l:=by
 unfold qL
 rw [aHA hs,List.map_map]
 exact List.map_congr_left (fun x _=>zC hs)
theorem aQC {l:List Rat}:qP l=0↔∀x∈l,x=0:=by
 induction l with
 |nil=>simp [qP]
 |cons x r ih=>
  show (if x=0 then qP r else x)=0↔_
  by_cases h:x=0
  ·rw [if_pos h,ih];simp [h]
  ·rw [if_neg h];simp [h]
def fA {α:Type} (m:M9 α):List α:=[m.x.a,m.x.b,m.x.c,m.y.a,m.y.b,m.y.c,m.z.a,m.z.b,m.z.c]
def aFZ (l:List Rat):Mt:=[[l.getD 0 0,l.getD 1 0,l.getD 2 0],[l.getD 3 0,l.getD 4 0,l.getD 5 0],[l.getD 6 0,l.getD 7 0,l.getD 8 0]]
def l4 (ps:List Q4):P4 Int:=⟨ptF (gt ps 0),ptF (gt ps 1),ptF (gt ps 2),ptF (gt ps 3)⟩
def m4 (ps:List Q4):P4 Int:=⟨ptT (gt ps 0),ptT (gt ps 1),ptT (gt ps 2),ptT (gt ps 3)⟩
def colP (l:P4 Int):Prop:=l.k0=0∨l.k1=0∨l.k2=0∨l.k3=0
instance colP.dec (l:P4 Int):Decidable (colP l):=inferInstanceAs (Decidable (l.k0=0∨l.k1=0∨l.k2=0∨l.k3=0))
def lI (ps:List Q4):M9 Int:=tJ (l4 ps) (m4 ps)
def aAN (ps:List Q4):Option Mt:=if colP (l4 ps)∨colP (m4 ps) then none else some (aFZ (qL (fA (iI (lI ps)))))
theorem int_ne {z:Int} (h:z≠0):(z:Rat)≠0:=fun e=>h (by
 have:((z:Int):Rat)=((0:Int):Rat):=e
 exact Rat.intCast_inj.1 this)
theorem xO {l:P4 Int} (h:¬colP l):(dG l).ok:=by
 unfold colP at h
 have hk:=bEL l
 refine ⟨?_,?_,?_,?_⟩
 ·rw [←hk.1];exact int_ne (fun e=>h (.inl e))
 ·rw [←hk.2.1];exact int_ne (fun e=>h (.inr (.inl e)))
 ·rw [←hk.2.2.1];exact int_ne (fun e=>h (.inr (.inr (.inl e))))
 ·rw [←hk.2.2.2];exact int_ne (fun e=>h (.inr (.inr (.inr e))))
theorem tY {a b:Rat} (ha:a≠0) (hb:b≠0):a*b≠0:=fun e=>(Rat.mul_eq_zero.1 e).elim ha hb
theorem bBU {ps:List Q4} (hl:¬colP (l4 ps)) (hm:¬colP (m4 ps)) {H:M9 Rat} {c0 c1 c2 c3:Rat} (h0:H.app (dG (l4 ps)).p=(dG (m4 ps)).p.smul c0) (h1:H.app (dG (l4 ps)).q=(dG (m4 ps)).q.smul c1)
  (h2:H.app (dG (l4 ps)).r=(dG (m4 ps)).r.smul c2) (h3:H.app (dG (l4 ps)).s=(dG (m4 ps)).s.smul c3) (hH:∃x∈fA H,x≠0):∃s:Rat,s≠0∧fA H=(fA (iI (lI ps))).map (fun x=>s*x):=by
 have ol:=xO hl
 have om:=xO hm
 obtain ⟨e1,e2,e3⟩:=aSL ol om h0 h1 h2 h3
 unfold lI
 rw [aBT]
 have hκ:=tY (tY (tY om.h3 ol.h0) ol.h1) ol.h2
 generalize (dG (m4 ps)).k3*(dG (l4 ps)).k0*(dG (l4 ps)).k1*(dG (l4 ps)).k2=κ at*
 generalize tJ (dG (l4 ps)) (dG (m4 ps))=G at*
 simp only [T3.smul,T3.mk.injEq] at e1 e2 e3
 obtain ⟨a1,a2,a3⟩:=e1
 obtain ⟨b1,b2,b3⟩:=e2
 obtain ⟨d1,d2,d3⟩:=e3
 have key:∀x g:Rat,κ*x=c3*g→x=c3 / κ*g:=by intro x g h;grind
 have hc:c3≠0:=by
  intro e
  obtain ⟨x,hx,hx0⟩:=hH
  apply hx0
  have z:∀y g:Rat,κ*y=c3*g→y=0:=by
   intro y g h
   have:κ*y=0:=by rw [h,e];grind
   exact (Rat.mul_eq_zero.1 this).resolve_left hκ
  simp only [fA,List.mem_cons,List.not_mem_nil,or_false] at hx
  rcases hx with rfl|rfl|rfl|rfl|rfl|rfl|rfl|rfl|rfl
  ·exact z _ _ a1
  ·exact z _ _ a2
  ·exact z _ _ a3
  ·exact z _ _ b1
  ·exact z _ _ b2
  ·exact z _ _ b3
  ·exact z _ _ d1
  ·exact z _ _ d2
  ·exact z _ _ d3
 refine ⟨c3 / κ,by grind,?_⟩
 simp only [fA,List.map]
 rw [key _ _ a1,key _ _ a2,key _ _ a3,key _ _ b1,key _ _ b2,key _ _ b3,key _ _ d1,key _ _ d2,key _ _ d3]
theorem aWH {ps:List Q4} (h4:ps.length=4) (hl:¬colP (l4 ps)) (hm:¬colP (m4 ps)) {z:List Rat} (hz9:z.length=9) (hk:Go.Proofs.YtmmmfphealhapaaGreat.ker 8 9 (at2 (hA ps)) (fun j=>z.getD j 0)) (h0:∃x∈z,x≠0):qL z=qL (fA (iI (lI ps))):=by
 have hap:∀t:Nat,t < 4→(ofH (fun j=>z.getD j 0)).app (jI (ptF (gt ps (t:Int))))=(jI (ptT (gt ps (t:Int)))).smul ((ofH (fun j=>z.getD j 0)).z.dot (jI (ptF (gt ps (t:Int))))):=fun t ht=>by
  have h1:=hk (2*t) (by omega)
  have h2:=hk (2*t+1) (by omega)
  have hA:=aIY (l:=ps) (i:=t) (by omega)
  unfold at2 at h1 h2
  rw [hA.1] at h1
  rw [hA.2] at h2
  exact bFA h1 h2
 have hf:fA (ofH (fun j=>z.getD j 0))=z:=by
  match z,hz9 with
  |[a,b,c,d,e,f,g,h,i],_=>rfl
 obtain ⟨s,hs,e⟩:=bBU hl hm (H:=ofH (fun j=>z.getD j 0)) (hap 0 (by omega)) (hap 1 (by omega)) (hap 2 (by omega)) (hap 3 (by omega)) (by rw [hf];exact h0)
 rw [hf] at e
 rw [e,aBU hs]
theorem aYB {m m':Mt} {c:Rat} (hc:c≠0) (h:∀i j,i < 3→j < 3→at2 m' i j=c*at2 m i j) (s:Q4):(lL m' 2 s=0↔lL m 2 s=0)∧tQ m' s=tQ m s:=by
 have hr:∀i,i < 3→lL m' i s=c*lL m i s:=fun i hi=>by
  unfold lL
  rw [h i 0 hi (by omega),h i 1 hi (by omega),h i 2 hi (by omega)]
  grind
 constructor
 ·rw [hr 2 (by omega)]
  constructor
  ·exact fun e=>(Rat.mul_eq_zero.1 e).resolve_left hc
  ·intro e;rw [e];grind
 ·unfold tQ aNJ aNH
  rw [hr 0 (by omega),hr 1 (by omega),hr 2 (by omega),zC hc,zC hc]
theorem aIH {ps:List Q4} (hl:¬colP (l4 ps)) (hm:¬colP (m4 ps)):∃x∈fA (lI ps),x≠0:=by
 apply Classical.byContradiction
 intro hn
 have hz:∀x∈fA (lI ps),x=0:=fun x hx=>Classical.byContradiction (fun h=>hn ⟨x,hx,h⟩)
 have h1:=(aKZ (dG (l4 ps)) (dG (m4 ps))).1
 rw [←aBT] at h1
 have h2:=congrArg T3.c h1
 have za:(lI ps).z.a=0:=hz _ (by simp [fA])
 have zb:(lI ps).z.b=0:=hz _ (by simp [fA])
 have zc:(lI ps).z.c=0:=hz _ (by simp [fA])
 have e1:((iI (lI ps)).app (dG (l4 ps)).p).c=0:=by
  show ((lI ps).z.a:Rat)*_+((lI ps).z.b:Rat)*_+((lI ps).z.c:Rat)*_=0
  rw [za,zb,zc,show ((0:Int):Rat)=0 from rfl,Rat.zero_mul,Rat.zero_mul,Rat.zero_mul,Rat.add_zero,Rat.add_zero]
 have oL:=xO hl
 have oM:=xO hm
 have hK:=tY (tY (tY oM.h0 oL.h1) oL.h2) oL.h3
 have e2:((dG (m4 ps)).p.smul ((dG (m4 ps)).k0*(dG (l4 ps)).k1*(dG (l4 ps)).k2*(dG (l4 ps)).k3)).c=(dG (m4 ps)).k0*(dG (l4 ps)).k1*(dG (l4 ps)).k2*(dG (l4 ps)).k3:=by
  show _ *((1:Int):Rat)=_
  rw [show ((1:Int):Rat)=1 from rfl,Rat.mul_one]
 exact hK (e2.symm.trans (h2.symm.trans e1))
def pF (s:Q4):T3 Rat:=jI (ptF s)
def pT (s:Q4):T3 Rat:=jI (ptT s)
def mOf (H:M9 Rat):Mt:=aFZ (fA H)
theorem bAZ (H:M9 Rat) (s:Q4):lL (mOf H) 0 s=H.x.dot (pF s)∧lL (mOf H) 1 s=H.y.dot (pF s)∧lL (mOf H) 2 s=H.z.dot (pF s):=by
 have h:∀a b c:Rat,a*(s.x:Rat)+b*(s.y:Rat)+c=a*(s.x:Rat)+b*(s.y:Rat)+c*((1:Int):Rat):=fun a b c=>by rw [show ((1:Int):Rat)=1 from rfl,Rat.mul_one]
 exact ⟨h _ _ _,h _ _ _,h _ _ _⟩
structure HomM (f:Q4→Q4) where
 T:M9 Rat→M9 Rat
 ap:∀H s c,H.app (pF s)=(pT s).smul c→(T H).app (pF (f s))=(pT (f s)).smul c
 nz:∀H,(∀x∈fA (T H),x=0)→∀x∈fA H,x=0
 last:∀H s,(T H).z.dot (pF (f s))=H.z.dot (pF s)
 mis:∀H s,H.z.dot (pF s)≠0→tQ (mOf (T H)) (f s)=tQ (mOf H) s
 col:∀a b c d,(colP ⟨ptF (f a),ptF (f b),ptF (f c),ptF (f d)⟩↔colP ⟨ptF a,ptF b,ptF c,ptF d⟩)∧(colP ⟨ptT (f a),ptT (f b),ptT (f c),ptT (f d)⟩↔colP ⟨ptT a,ptT b,ptT c,ptT d⟩)
theorem aTH {ps:List Q4} (h1:¬colP (l4 ps)) (h2:¬colP (m4 ps)) {H:M9 Rat} {s:Rat} (hs:s≠0) (hH:fA H=(fA (iI (lI ps))).map (fun x=>s*x)):∃c:Rat,c≠0∧∀i j,i < 3→j < 3→at2 (aFZ (qL (fA (iI (lI ps))))) i j=c*at2 (mOf H) i j:=by
 have hn:qP (fA H)≠0:=fun e=>by
  obtain ⟨x,hx,hx0⟩:=aIH h1 h2
  have h3:=aQC.1 e (s*(x:Rat)) (by rw [hH];exact List.mem_map_of_mem (List.mem_map_of_mem hx))
  exact tY hs (int_ne hx0) h3
 have e:qL (fA (iI (lI ps)))=(fA H).map (fun x=>x / qP (fA H)):=by
  rw [←aBU hs,←hH];rfl
 refine ⟨1 / qP (fA H),by grind,fun i j hi hj=>?_⟩
 rw [e]
 obtain rfl|rfl|rfl:i=0∨i=1∨i=2:=by omega
 all_goals obtain rfl|rfl|rfl:j=0∨j=1∨j=2:=by omega
 all_goals
  unfold mOf
  simp only [aFZ,fA,at2,rowAt,List.map,List.getD]
  simp
  grind
def shT (a b:Int) (H:M9 Rat):M9 Rat:=⟨H.x.add (H.z.smul (a:Rat)),H.y.add (H.z.smul (b:Rat)),H.z⟩
def exTH (H:M9 Rat):M9 Rat:=⟨⟨H.y.b,H.y.a,H.y.c⟩,⟨H.x.b,H.x.a,H.x.c⟩,⟨H.z.b,H.z.a,H.z.c⟩⟩
def tuTH (H:M9 Rat):M9 Rat:=⟨⟨H.y.b, -H.y.a, -H.y.c⟩,⟨-H.x.b,H.x.a,H.x.c⟩,⟨-H.z.b,H.z.a,H.z.c⟩⟩
def aCR:Nat→List Int→Nat
 |g,[]=>g
 |g,x::r=>aCR (Int.gcd g x) r
def aBK (l:List Int):Nat:=aCR 0 l
def tT:List Int→Int
 |[]=>0
 |x::r=>if x=0 then tT r else x
def dvL (l:List Int):Int:=if tT l < 0 then -(aBK l:Int) else (aBK l:Int)
def RedL (l:List Int):Prop:=aBK l=1∧0 < tT l
theorem aHH:∀(l:List Int) (g:Nat) (x:Int),aCR g (l++[x])=Int.gcd (aCR g l) x
 |[],_,_=>rfl
 |y::r,g,x=>aHH r (Int.gcd g y) x
theorem aTR (l:List Int) (x:Int):aBK (l++[x])=Int.gcd (aBK l) x:=aHH l 0 x
theorem aBV:∀(l:List Int) (x:Int),tT (l++[x])=if tT l=0 then x else tT l
 |[],x=>by
  show (if x=0 then 0 else x)=if (0:Int)=0 then x else 0
  rw [if_pos rfl]
  by_cases h:x=0
  ·rw [if_pos h,h]
  ·rw [if_neg h]
 |y::r,x=>by
  have ih:=aBV r x
  show (if y=0 then tT (r++[x]) else y)=if (if y=0 then tT r else y)=0 then x else (if y=0 then tT r else y)
  by_cases h:y=0
  ·rw [if_pos h,if_pos h,ih]
  ·rw [if_neg h,if_neg h,if_neg h]
theorem aLZ (a:Int):∀(l:List Int) (g:Nat),aCR (a.natAbs*g) (l.map (fun x=>a*x))=a.natAbs*aCR g l
 |[],_=>rfl
 |x::r,g=>by
  show aCR (Int.gcd ((a.natAbs*g:Nat):Int) (a*x)) _=a.natAbs*aCR (Int.gcd g x) r
  have e:Int.gcd ((a.natAbs*g:Nat):Int) (a*x)=a.natAbs*Int.gcd g x:=by
   unfold Int.gcd
   rw [Int.natAbs_mul,Int.natAbs_natCast,Int.natAbs_natCast,Nat.gcd_mul_left]
  rw [e]
  exact aLZ a r _
theorem aYW (a:Int) (l:List Int):aBK (l.map (fun x=>a*x))=a.natAbs*aBK l:=by
 have:=aLZ a l 0
 rwa [Nat.mul_zero] at this
theorem aKU {a:Int} (ha:a≠0):∀l:List Int,tT (l.map (fun x=>a*x))=a*tT l
 |[]=>by show (0:Int)=a*0;rw [Int.mul_zero]
 |x::r=>by
  have ih:=aKU ha r
  show (if a*x=0 then tT (r.map (fun x=>a*x)) else a*x)=a*(if x=0 then tT r else x)
  by_cases h:x=0
  ·rw [if_pos h,if_pos (by rw [h,Int.mul_zero]),ih]
  ·rw [if_neg h,if_neg (fun e=>(Int.mul_eq_zero.1 e).elim ha h)]
theorem aGN:∀{l:List Int},tT l=0↔∀x∈l,x=0
 |[]=>⟨fun _ x hx=>absurd hx List.not_mem_nil,fun _=>rfl⟩
 |y::r=>by
  have ih:=aGN (l:=r)
  show (if y=0 then tT r else y)=0↔_
  by_cases h:y=0
  ·rw [if_pos h,ih]
   exact ⟨fun h1 x hx=>(List.mem_cons.1 hx).elim (fun e=>e.trans h) (h1 x),fun h1 x hx=>h1 x (List.mem_cons_of_mem _ hx)⟩
  ·rw [if_neg h]
   exact ⟨fun e=>absurd e h,fun h1=>h1 y List.mem_cons_self⟩
theorem aGY:∀(l:List Int) (g:Nat),aCR g l=0↔g=0∧∀x∈l,x=0
 |[],g=>⟨fun h=>⟨h,fun x hx=>absurd hx List.not_mem_nil⟩,fun h=>h.1⟩
 |y::r,g=>by
  show aCR (Int.gcd g y) r=0↔_
  rw [aGY r,Int.gcd_eq_zero_iff]
  constructor
  ·rintro ⟨⟨h1,h2⟩,h3⟩
   exact ⟨by omega,fun x hx=>(List.mem_cons.1 hx).elim (fun e=>e.trans h2) (h3 x)⟩
  ·rintro ⟨h1,h2⟩
   exact ⟨⟨by omega,h2 y List.mem_cons_self⟩,fun x hx=>h2 x (List.mem_cons_of_mem _ hx)⟩
theorem aGX {l:List Int}:aBK l=0↔∀x∈l,x=0:=by
 unfold aBK
 rw [aGY]
 exact ⟨fun h=>h.2,fun h=>⟨rfl,h⟩⟩
theorem aMJ:∀(l:List Int) (g:Nat),((aCR g l:Nat):Int) ∣ (g:Int)∧∀x∈l,((aCR g l:Nat):Int) ∣ x
 |[],g=>⟨Int.dvd_refl _,fun x hx=>absurd hx List.not_mem_nil⟩
 |y::r,g=>by
  obtain ⟨h1,h2⟩:=aMJ r (Int.gcd g y)
  refine ⟨Int.dvd_trans h1 (Int.gcd_dvd_left ..),fun x hx=>?_⟩
  rcases List.mem_cons.1 hx with e|e
  ·rw [e];exact Int.dvd_trans h1 (Int.gcd_dvd_right ..)
  ·exact h2 x e
theorem bAK {l:List Int} {x:Int} (h:x∈l):dvL l ∣ x:=by
 have h1:=(aMJ l 0).2 x h
 unfold dvL
 split
 ·exact Int.neg_dvd.2 h1
 ·exact h1
theorem aZM {l:List Int} (h:dvL l=0):∀x∈l,x=0:=aGX.1 (by unfold dvL at h;split at h <;>omega)
theorem aQD (x:Int):x.sign < 0↔x < 0:=by
 rcases Int.lt_trichotomy x 0 with h|h|h
 ·rw [Int.sign_eq_neg_one_of_neg h];omega
 ·rw [h];decide
 ·rw [Int.sign_eq_one_of_pos h];omega
theorem bDW {l q:List Int} (hnz:∃x∈l,x≠0) (h:q.map (fun x=>x*dvL l)=l):RedL q:=by
 have e0:(q.map (fun x=>dvL l*x))=l:=by rw [←h];exact List.map_congr_left (fun x _=>by rw [h,Int.mul_comm])
 have hg:aBK l≠0:=fun e=>by
  obtain ⟨x,hx,hx0⟩:=hnz
  exact hx0 (aGX.1 e x hx)
 have hf:tT l≠0:=fun e=>by
  obtain ⟨x,hx,hx0⟩:=hnz
  exact hx0 (aGN.1 e x hx)
 have hd:(dvL l).natAbs=aBK l:=by unfold dvL;split <;>omega
 have hd0:dvL l≠0:=by omega
 have h1:=aYW (dvL l) q
 rw [e0,hd] at h1
 have h2:=aKU hd0 q
 rw [e0] at h2
 refine ⟨Nat.eq_of_mul_eq_mul_left (Nat.pos_of_ne_zero hg) (by omega),?_⟩
 have hs:(tT l < 0↔dvL l < 0):=by unfold dvL;split <;>omega
 by_cases hn:tT l < 0
 ·have:=hs.1 hn
  rw [h2] at hn
  exact Int.pos_of_mul_neg_right hn (by omega)
 ·have h3:¬dvL l < 0:=fun e=>hn (hs.2 e)
  have h4:0 < dvL l*tT q:=by omega
  exact Int.pos_of_mul_pos_right h4 (by omega)
end Go.Proofs.YtmmmfphealhapaaGreat
