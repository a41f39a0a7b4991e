/- Vectors and matrices of integers: cross products, rows, columns, products of matrices with -/
import Derived.Test.YtmmmfphealhapaaGreatZsav
import Derived.Test.YtmmmfphealhapaaGreatZsaq
set_option linter.unusedSimpArgs false
set_option linter.unusedVariables false
set_option maxRecDepth 100000
set_option maxHeartbeats 4000000
namespace Go.Proofs.YtmmmfphealhapaaGreat
open Go Go.Fx
structure HZ where
 x:TZ
 y:TZ
 z:TZ
instance HZ.inh:Inhabited HZ:=⟨⟨default,default,default⟩⟩
abbrev vJ (h:HZ):List Value:=recs eN [h.x.x,h.x.y,h.x.z,h.y.x,h.y.y,h.y.z,h.z.x,h.z.y,h.z.z]
abbrev hv9 (h:HZ):Value:= .agg (recs eN [h.x.x,h.x.y,h.x.z,h.y.x,h.y.y,h.y.z,h.z.x,h.z.y,h.z.z]).toArray
def HZ.m (h:HZ):M9 Int:=⟨h.x.t,h.y.t,h.z.t⟩
def HZ.tr (h:HZ):HZ:=⟨⟨h.x.x,h.y.x,h.z.x⟩,⟨h.x.y,h.y.y,h.z.y⟩,⟨h.x.z,h.y.z,h.z.z⟩⟩
theorem HZ.tr_m (h:HZ):h.tr.m=h.m.tr:=rfl
structure IsHZ (h:HZ) (k:Nat) (X:List Nat) (w:World):Prop where
 x:IsTZ h.x k X w
 y:IsTZ h.y k X w
 z:IsTZ h.z k X w
abbrev iV (h:HZ) (k:Nat):aM:=IsHZ h k
instance (h:HZ) (k:Nat):Fx.Good (IsHZ h k):=⟨fun X Y w w' h he hY=>⟨Fx.Good.go (φ:=IsTZ _ _) X Y w w' h.x he hY,Fx.Good.go (φ:=IsTZ _ _) X Y w w' h.y he hY,Fx.Good.go (φ:=IsTZ _ _) X Y w w' h.z he hY⟩⟩
theorem Hv.hx {I:List aM} {h:HZ} {k:Nat} (hh:iV h k∈I):Hv I (aY h.x k):=⟨fun X w hw=>(hw _ hh:IsHZ h k X w).x⟩
theorem Hv.hy {I:List aM} {h:HZ} {k:Nat} (hh:iV h k∈I):Hv I (aY h.y k):=⟨fun X w hw=>(hw _ hh:IsHZ h k X w).y⟩
theorem Hv.hz {I:List aM} {h:HZ} {k:Nat} (hh:iV h k∈I):Hv I (aY h.z k):=⟨fun X w hw=>(hw _ hh:IsHZ h k X w).z⟩
theorem Hv.mkH {I:List aM} {a b c:TZ} {k:Nat} (ha:aY a k∈I) (hb:aY b k∈I) (hc:aY c k∈I):Hv I (iV ⟨a,b,c⟩ k):=⟨fun X w hw=>⟨hw _ ha,hw _ hb,hw _ hc⟩⟩
theorem Hv.htr {I:List aM} {h:HZ} {k:Nat} (hh:iV h k∈I):Hv I (iV h.tr k):=⟨fun X w hw=>by
 have h1:IsHZ h k X w:=hw _ hh
 exact ⟨⟨h1.x.x,h1.y.x,h1.z.x⟩,⟨h1.x.y,h1.y.y,h1.z.y⟩,⟨h1.x.z,h1.y.z,h1.z.z⟩⟩⟩
def HQ (q:M9 Int) (k:Nat) (M0:List Ent) (I0:List aM) (v:Value) (M:List Ent) (I:List aM):Prop:=M0=M∧∃h:HZ,v=hv9 h∧h.m=q∧I=iV h k::I0
def TZ.cr (p q:TZ) (i:Nat):Int:=if i=0 then (p.t.cross q.t).a else if i=1 then (p.t.cross q.t).b else (p.t.cross q.t).c
theorem bCS {i:Nat} (h:i < 3):∃k j:Int,Int.tmod ((i:Int)+1) 3=k∧Int.tmod ((i:Int)+2) 3=j∧(0≤k∧k < 3)∧(0≤j∧j < 3)∧∀p q:TZ,(gt [p.x,p.y,p.z] k).z*(gt [q.x,q.y,q.z] j).z - (gt [p.x,p.y,p.z] j).z*(gt [q.x,q.y,q.z] k).z=p.cr q i:=by
 obtain rfl|rfl|rfl:i=0∨i=1∨i=2:=by omega
 ·exact ⟨1,2,rfl,rfl,by decide,by decide,fun p q=>rfl⟩
 ·exact ⟨2,0,rfl,rfl,by decide,by decide,fun p q=>rfl⟩
 ·exact ⟨0,1,rfl,rfl,by decide,by decide,fun p q=>rfl⟩
section
variable {X:List Nat} {w0:World} {M0:List Ent} {I0:List aM}
theorem aHE {p q:TZ} {u:Nat} (hu:u≤100000000000) (hp:aY p u∈I0) (hq:aY q u∈I0):CD Tryz.prog 116 [dH p,dH q] X w0 M0 I0 (VQ (p.t.cross q.t) (u+u+1) M0 I0):=by
 have hM:=fun (a b:ZE) M0 I0 h1 h2=>NMul (X:=X) (w0:=w0) (M0:=M0) (I0:=I0) (a:=a) (b:=b) (k:=u) (m:=u) (by omega) h1 h2
 have hS:=fun (a b:ZE) M0 I0 h1 h2=>NSub (X:=X) (w0:=w0) (M0:=M0) (I0:=I0) (a:=a) (b:=b) (k:=u+u) (c:=u+u+1) (by omega) (by omega) h1 h2
 refine aX (φ:=aY p u) (Hv.mem hp) (aX (φ:=aY q u) (Hv.mem (List.mem_cons_of_mem _ hq)) ?_)
 refine aN Tryz.func116 rfl Tryz.ntmps116 rfl ?_
 refine iH ?_
 refine gU rfl (fun b2=>?_)
 refine aI (cs:=lW p) .here ?_
 refine gU rfl (fun b3=>?_)
 refine aI (cs:=lW q) .here ?_
 refine dS (fun b4=>?_)
 repeat refine aB ?_
 refine dS (fun b5=>?_)
 repeat refine aB ?_
 refine bH (φ:=oV [none,none,none] (u+u+1)) (Hv.oNil (n:=3)) ?_
 refine lV [2,3,4,5] rfl (fun k G M I=>∃(i:Nat) (os:List (Option ZE)),i≤3∧k=3 - i∧os.length=3∧(∀j:Nat,j < i→∃e:ZE,gt os (j:Int)=some e∧e.z=p.cr q j)∧G=[(9, .int .i64 i)]∧M= .blk b5 (recs wN os) 100:: .blk b4 (zN++(zN++zN)) 100::M0∧I=oV os (u+u+1)::aH (some ⟨b3,0,none⟩) (lW q)::aH (some ⟨b2,0,none⟩) (lW p)::aY q u::aY p u::I0) (3) (⟨0,[none,none,none],by omega,rfl,rfl,fun j hj=>absurd hj (by omega),rfl,rfl,rfl⟩) ?_
 rintro kk G M I ⟨i,os,hi,rfl,hol,ho,rfl,rfl,rfl⟩
 by_cases hii:i < 3
 ·obtain ⟨k,j,hk,hj,hk3,hj3,hX⟩:=bCS hii
  refine bH (φ:=jD (gt [p.x,p.y,p.z] k) u) (Hv.zAt aA hk3) ?_
  refine bH (φ:=jD (gt [p.x,p.y,p.z] j) u) (Hv.zAt (p:=p) (k:=u) aA hj3) ?_
  refine bH (φ:=jD (gt [q.x,q.y,q.z] k) u) (Hv.zAt (p:=q) (k:=u) aA hk3) ?_
  refine bH (φ:=jD (gt [q.x,q.y,q.z] j) u) (Hv.zAt (p:=q) (k:=u) aA hj3) ?_
  repeat refine aB ?_
  rw [hk,hj]
  (repeat refine aG ?_);refine qQ (M0) (aH (some ⟨b3,0,none⟩) (lW q)::aH (some ⟨b2,0,none⟩) (lW p)::I0) [0,1,2,3,4,5,6,8,9,10,11,12,13,7,14,15,16,17] [3,3,3,2,3,3,2,3,3,2,3,3,2,0,0,0,0,0] mixed ?_
  repeat refine aB ?_
  (apply dW;exact eY;exact rfl;exact aA;exact AtsZ.o0 (enc:=eN) (sz:=2) (ms:=[p.x,p.y,p.z]) (i:=k) hk3;exact rfl;exact rfl)
  repeat refine aB ?_
  (apply dW;exact eY;exact rfl;exact aA;exact AtsZ.o0 (enc:=eN) (sz:=2) (ms:=[q.x,q.y,q.z]) (i:=j) hj3;exact rfl;exact rfl)
  repeat refine aB ?_
  (apply dW;exact eY;exact rfl;exact aA;exact AtsZ.o0 (enc:=eN) (sz:=2) (ms:=[p.x,p.y,p.z]) (i:=j) hj3;exact rfl;exact rfl)
  repeat refine aB ?_
  (apply dW;exact eY;exact rfl;exact aA;exact AtsZ.o0 (enc:=eN) (sz:=2) (ms:=[q.x,q.y,q.z]) (i:=k) hk3;exact rfl;exact rfl)
  repeat refine aB ?_
  (refine aQ rfl (hM (gt [p.x,p.y,p.z] k) (gt [q.x,q.y,q.z] j) _ _ aA aA) ?_;rintro _ _ _ ⟨rfl,g0,rfl,hg0,rfl⟩;refine aL ?_)
  (refine aQ rfl (hM (gt [p.x,p.y,p.z] j) (gt [q.x,q.y,q.z] k) _ _ aA aA) ?_;rintro _ _ _ ⟨rfl,g1,rfl,hg1,rfl⟩;refine aL ?_)
  (refine aQ rfl (hS g0 g1 _ _ aA aA) ?_;rintro _ _ _ ⟨rfl,g,rfl,hg,rfl⟩;refine aL ?_)
  repeat refine yXh ?_
  refine fO (vs:=eN g) rfl rfl rfl (Ones.one g) jL (StAts.o0 (enc:=wN) (sz:=2) (ms:=os) (i:=(i:Int)) (some g) ⟨by omega,by omega⟩ rfl) rfl rfl ⟨okF,?_⟩
  repeat refine aB ?_
  refine dF (φ:=oV (st os (i:Int) (some g)) (u+u+1)) (Hv.oSet aA aA) ?_
  refine gJ (3 - (i+1)) (⟨i+1,st os (i:Int) (some g),by omega,rfl,by rw [nY];exact hol,fun t ht=>by
   rw [oW (by omega) (by omega)]
   by_cases e:t=i
   ·subst e
    rw [if_pos rfl]
    exact ⟨g,rfl,by rw [hg,hg0,hg1];exact hX p q⟩
   ·rw [if_neg e]
    exact ho t (by omega),rfl,rfl,rfl⟩)
 ·obtain rfl:i=3:=by omega
  obtain ⟨a,ha,hza⟩:=ho 0 (by omega)
  obtain ⟨b,hb,hzb⟩:=ho 1 (by omega)
  obtain ⟨c,hc,hzc⟩:=ho 2 (by omega)
  refine bH (φ:=jD a (u+u+1)) (Hv.oAt (os:=os) (i:=((0:Nat):Int)) aA ⟨by omega,by omega⟩ ha) ?_
  refine bH (φ:=jD b (u+u+1)) (Hv.oAt (os:=os) (i:=((1:Nat):Int)) aA ⟨by omega,by omega⟩ hb) ?_
  refine bH (φ:=jD c (u+u+1)) (Hv.oAt (os:=os) (i:=((2:Nat):Int)) aA ⟨by omega,by omega⟩ hc) ?_
  refine bH (φ:=aY ⟨a,b,c⟩ (u+u+1)) (Hv.mkZ aA aA aA) ?_
  have e3:recs wN os=recs eN [a,b,c]:=by rw [os3 hol,show gt os 0=some a from ha,show gt os 1=some b from hb,show gt os 2=some c from hc];rfl
  rw [e3]
  repeat refine aB ?_
  refine aT (cs:=recs eN [a,b,c]) (.inl rfl) rfl rfl aA rfl M0 (aY ⟨a,b,c⟩ (u+u+1)::I0) aF aD ⟨rfl,⟨a,b,c⟩,rfl,by show (⟨a.z,b.z,c.z⟩:T3 Int)=_;rw [hza,hzb,hzc];rfl,rfl⟩
theorem bAS {p q r:TZ} {u:Nat} (hu:63≤u) (hu2:u≤20000000000) (hp:aY p u∈I0) (hq:aY q u∈I0) (hr:aY r u∈I0):CD Tryz.prog 62 [dH p,dH q,dH r] X w0 M0 I0 (NQ (d3 p.t q.t r.t) (u+u+1+u+3) M0 I0):=by
 have hC:=fun M0 I0 h1 h2=>aHE (X:=X) (w0:=w0) (M0:=M0) (I0:=I0) (p:=p) (q:=q) (u:=u) (by omega) h1 h2
 have hD:=fun (c:TZ) M0 I0 h1 h2=>aQJ (X:=X) (w0:=w0) (M0:=M0) (I0:=I0) (p:=c) (q:=r) (k:=u+u+1) (m:=u) (by omega) (by omega) h1 h2
 refine aX (φ:=aY p u) (Hv.mem hp) (aX (φ:=aY q u) (Hv.mem (List.mem_cons_of_mem _ hq)) (aX (φ:=aY r u) (Hv.mem (List.mem_cons_of_mem _ (List.mem_cons_of_mem _ hr))) ?_))
 refine gG Tryz.func62 rfl Tryz.ntmps62 rfl ?_
 refine iH ?_
 refine gU rfl (fun b3=>?_)
 refine aI (cs:=lW p) .here ?_
 refine gU rfl (fun b4=>?_)
 refine aI (cs:=lW q) .here ?_
 refine gU rfl (fun b5=>?_)
 refine aI (cs:=lW r) .here ?_
 refine dS (fun b6=>?_)
 repeat refine aB ?_
 (repeat refine aG ?_);refine qQ (M0) (aH (some ⟨b5,0,none⟩) (lW r)::aH (some ⟨b4,0,none⟩) (lW q)::aH (some ⟨b3,0,none⟩) (lW p)::I0) [0,1,3,2,4,5] [1,1,1,0,0,0] mixed ?_
 repeat refine aB ?_
 (refine aQ rfl (hC _ _ aA aA) ?_;rintro _ _ _ ⟨rfl,c,rfl,hc,rfl⟩;refine aL ?_)
 (refine aQ rfl (hD c _ _ aA aA) ?_;rintro _ _ _ ⟨rfl,g,rfl,hg,rfl⟩;refine aL ?_)
 repeat refine aB ?_
 refine aT (cs:=eN g) (.inl rfl) rfl rfl aA rfl M0 (jD g (u+u+1+u+3)::I0) aF aD ⟨rfl,g,rfl,by rw [hg,hc];rfl,rfl⟩
theorem aKD {h:HZ} {u:Nat} (hh:iV h u∈I0):CD Tryz.prog 63 [hv9 h, .int .i64 0] X w0 M0 I0 (fun v M I=>M0=M∧v=dH h.x∧I=aY h.x u::I0):=by
 refine aX (φ:=aY h.x u) (Hv.hx hh) ?_
 refine aN Tryz.func63 rfl Tryz.ntmps63 rfl ?_
 refine iH ?_
 refine gU rfl (fun b2=>?_)
 refine aI (cs:=vJ h) .here ?_
 refine dS (fun b4=>?_)
 repeat refine aB ?_
 (repeat refine aG ?_);refine qQ (M0) (aH (some ⟨b2,0,none⟩) (vJ h)::I0) [0,1,2,3,4,5,6,7,8,9,10,11,12,13,14,15] [0,0,0,0,0,0,0,0,0,0,0,0,0,0,0,0] mixed ?_
 repeat refine aB ?_
 (refine aC rfl (fun _=>dL (vals:=[nv h.x.x,nv h.x.y,nv h.x.z]) (cells:=lW h.x) rfl ?hpl rfl ?hz) rfl rfl ?_;(case hpl=>exact (by intro v hv;repeat (first|exact absurd hv (List.not_mem_nil)|(rcases List.mem_cons.1 hv with rfl|hv; · rfl))));(case hz=>rfl))
 repeat refine aB ?_
 refine aT (cs:=lW h.x) (.inl rfl) rfl rfl aA rfl M0 (aY h.x u::I0) aF aD ⟨rfl,rfl,rfl⟩
theorem aKG {h:HZ} {u:Nat} (hh:iV h u∈I0):CD Tryz.prog 63 [hv9 h, .int .i64 1] X w0 M0 I0 (fun v M I=>M0=M∧v=dH h.y∧I=aY h.y u::I0):=by
 refine aX (φ:=aY h.y u) (Hv.hy hh) ?_
 refine aN Tryz.func63 rfl Tryz.ntmps63 rfl ?_
 refine iH ?_
 refine gU rfl (fun b2=>?_)
 refine aI (cs:=vJ h) .here ?_
 refine dS (fun b4=>?_)
 repeat refine aB ?_
 (repeat refine aG ?_);refine qQ (M0) (aH (some ⟨b2,0,none⟩) (vJ h)::I0) [0,1,2,3,4,5,6,7,8,9,10,11,12,13,14,15] [0,0,0,0,0,0,0,0,0,0,0,0,0,0,0,0] mixed ?_
 repeat refine aB ?_
 (refine aC rfl (fun _=>dL (vals:=[nv h.y.x,nv h.y.y,nv h.y.z]) (cells:=lW h.y) rfl ?hpl rfl ?hz) rfl rfl ?_;(case hpl=>exact (by intro v hv;repeat (first|exact absurd hv (List.not_mem_nil)|(rcases List.mem_cons.1 hv with rfl|hv; · rfl))));(case hz=>rfl))
 repeat refine aB ?_
 refine aT (cs:=lW h.y) (.inl rfl) rfl rfl aA rfl M0 (aY h.y u::I0) aF aD ⟨rfl,rfl,rfl⟩
theorem aJW {h:HZ} {u:Nat} (hh:iV h u∈I0):CD Tryz.prog 63 [hv9 h, .int .i64 2] X w0 M0 I0 (fun v M I=>M0=M∧v=dH h.z∧I=aY h.z u::I0):=by
 refine aX (φ:=aY h.z u) (Hv.hz hh) ?_
 refine aN Tryz.func63 rfl Tryz.ntmps63 rfl ?_
 refine iH ?_
 refine gU rfl (fun b2=>?_)
 refine aI (cs:=vJ h) .here ?_
 refine dS (fun b4=>?_)
 repeat refine aB ?_
 (repeat refine aG ?_);refine qQ (M0) (aH (some ⟨b2,0,none⟩) (vJ h)::I0) [0,1,2,3,4,5,6,7,8,9,10,11,12,13,14,15] [0,0,0,0,0,0,0,0,0,0,0,0,0,0,0,0] mixed ?_
 repeat refine aB ?_
 (refine aC rfl (fun _=>dL (vals:=[nv h.z.x,nv h.z.y,nv h.z.z]) (cells:=lW h.z) rfl ?hpl rfl ?hz) rfl rfl ?_;(case hpl=>exact (by intro v hv;repeat (first|exact absurd hv (List.not_mem_nil)|(rcases List.mem_cons.1 hv with rfl|hv; · rfl))));(case hz=>rfl))
 repeat refine aB ?_
 refine aT (cs:=lW h.z) (.inl rfl) rfl rfl aA rfl M0 (aY h.z u::I0) aF aD ⟨rfl,rfl,rfl⟩
theorem aLM {h:HZ} {u:Nat} (hh:iV h u∈I0):CD Tryz.prog 115 [hv9 h, .int .i64 0] X w0 M0 I0 (fun v M I=>M0=M∧v=dH h.tr.x∧I=aY h.tr.x u::I0):=by
 refine aX (φ:=iV h.tr u) (Hv.htr hh) ?_
 refine aX (φ:=aY h.tr.x u) (Hv.hx (List.Mem.head _)) ?_
 refine aN Tryz.func115 rfl Tryz.ntmps115 rfl ?_
 refine iH ?_
 refine gU rfl (fun b2=>?_)
 refine aI (cs:=vJ h) .here ?_
 refine dS (fun b4=>?_)
 repeat refine aB ?_
 (repeat refine aG ?_);refine qQ (M0) (aH (some ⟨b2,0,none⟩) (vJ h)::I0) [0,1,2,3,4,5,6,7,8,9,10,11,12] [0,0,0,0,0,0,0,0,0,0,0,0,0] mixed ?_
 repeat refine aB ?_
 (refine aC rfl (fun _=>dL (vals:=[nv h.x.x,nv h.y.x,nv h.z.x]) (cells:=lW h.tr.x) rfl ?hpl rfl ?hz) rfl rfl ?_;(case hpl=>exact (by intro v hv;repeat (first|exact absurd hv (List.not_mem_nil)|(rcases List.mem_cons.1 hv with rfl|hv; · rfl))));(case hz=>rfl))
 repeat refine aB ?_
 refine aT (cs:=lW h.tr.x) (.inl rfl) rfl rfl aA rfl M0 (aY h.tr.x u::I0) aF aD ⟨rfl,rfl,rfl⟩
theorem aJZ {h:HZ} {u:Nat} (hh:iV h u∈I0):CD Tryz.prog 115 [hv9 h, .int .i64 1] X w0 M0 I0 (fun v M I=>M0=M∧v=dH h.tr.y∧I=aY h.tr.y u::I0):=by
 refine aX (φ:=iV h.tr u) (Hv.htr hh) ?_
 refine aX (φ:=aY h.tr.y u) (Hv.hy (List.Mem.head _)) ?_
 refine aN Tryz.func115 rfl Tryz.ntmps115 rfl ?_
 refine iH ?_
 refine gU rfl (fun b2=>?_)
 refine aI (cs:=vJ h) .here ?_
 refine dS (fun b4=>?_)
 repeat refine aB ?_
 (repeat refine aG ?_);refine qQ (M0) (aH (some ⟨b2,0,none⟩) (vJ h)::I0) [0,1,2,3,4,5,6,7,8,9,10,11,12] [0,0,0,0,0,0,0,0,0,0,0,0,0] mixed ?_
 repeat refine aB ?_
 (refine aC rfl (fun _=>dL (vals:=[nv h.x.y,nv h.y.y,nv h.z.y]) (cells:=lW h.tr.y) rfl ?hpl rfl ?hz) rfl rfl ?_;(case hpl=>exact (by intro v hv;repeat (first|exact absurd hv (List.not_mem_nil)|(rcases List.mem_cons.1 hv with rfl|hv; · rfl))));(case hz=>rfl))
 repeat refine aB ?_
 refine aT (cs:=lW h.tr.y) (.inl rfl) rfl rfl aA rfl M0 (aY h.tr.y u::I0) aF aD ⟨rfl,rfl,rfl⟩
theorem aJL {h:HZ} {u:Nat} (hh:iV h u∈I0):CD Tryz.prog 115 [hv9 h, .int .i64 2] X w0 M0 I0 (fun v M I=>M0=M∧v=dH h.tr.z∧I=aY h.tr.z u::I0):=by
 refine aX (φ:=iV h.tr u) (Hv.htr hh) ?_
 refine aX (φ:=aY h.tr.z u) (Hv.hz (List.Mem.head _)) ?_
 refine aN Tryz.func115 rfl Tryz.ntmps115 rfl ?_
 refine iH ?_
 refine gU rfl (fun b2=>?_)
 refine aI (cs:=vJ h) .here ?_
 refine dS (fun b4=>?_)
 repeat refine aB ?_
 (repeat refine aG ?_);refine qQ (M0) (aH (some ⟨b2,0,none⟩) (vJ h)::I0) [0,1,2,3,4,5,6,7,8,9,10,11,12] [0,0,0,0,0,0,0,0,0,0,0,0,0] mixed ?_
 repeat refine aB ?_
 (refine aC rfl (fun _=>dL (vals:=[nv h.x.z,nv h.y.z,nv h.z.z]) (cells:=lW h.tr.z) rfl ?hpl rfl ?hz) rfl rfl ?_;(case hpl=>exact (by intro v hv;repeat (first|exact absurd hv (List.not_mem_nil)|(rcases List.mem_cons.1 hv with rfl|hv; · rfl))));(case hz=>rfl))
 repeat refine aB ?_
 refine aT (cs:=lW h.tr.z) (.inl rfl) rfl rfl aA rfl M0 (aY h.tr.z u::I0) aF aD ⟨rfl,rfl,rfl⟩
theorem zV {p q r:TZ} {u:Nat} (hp:aY p u∈I0) (hq:aY q u∈I0) (hr:aY r u∈I0):CD Tryz.prog 112 [dH p,dH q,dH r] X w0 M0 I0 (fun v M I=>M0=M∧v=hv9 ⟨p,q,r⟩∧I=iV ⟨p,q,r⟩ u::I0):=by
 refine aX (φ:=aY p u) (Hv.mem hp) (aX (φ:=aY q u) (Hv.mem (List.mem_cons_of_mem _ hq)) (aX (φ:=aY r u) (Hv.mem (List.mem_cons_of_mem _ (List.mem_cons_of_mem _ hr))) ?_))
 refine aX (φ:=iV ⟨p,q,r⟩ u) (Hv.mkH aA aA aA) ?_
 refine gG Tryz.func112 rfl Tryz.ntmps112 rfl ?_
 refine iH ?_
 refine gU rfl (fun b3=>?_)
 refine aI (cs:=lW p) .here ?_
 refine gU rfl (fun b4=>?_)
 refine aI (cs:=lW q) .here ?_
 refine gU rfl (fun b5=>?_)
 refine aI (cs:=lW r) .here ?_
 refine dS (fun b6=>?_)
 repeat refine aB ?_
 (refine aC rfl (fun _=>dL (vals:=[nv p.x,nv p.y,nv p.z,nv q.x,nv q.y,nv q.z,nv r.x,nv r.y,nv r.z]) (cells:=vJ ⟨p,q,r⟩) rfl ?hpl rfl ?hz) rfl rfl ?_;(case hpl=>exact (by intro v hv;repeat (first|exact absurd hv (List.not_mem_nil)|(rcases List.mem_cons.1 hv with rfl|hv; · rfl))));(case hz=>rfl))
 repeat refine aB ?_
 refine aT (cs:=vJ ⟨p,q,r⟩) (.inl rfl) rfl rfl aA rfl M0 (iV ⟨p,q,r⟩ u::I0) aF aD ⟨rfl,rfl,rfl⟩
theorem aHZ {h:HZ} {u:Nat} (hh:iV h u∈I0):CD Tryz.prog 52 [hv9 h] X w0 M0 I0 (fun v M I=>M0=M∧v=hv9 h.tr∧I=iV h.tr u::I0):=by
 have h0:=fun M0 I0 h1=>aLM (X:=X) (w0:=w0) (M0:=M0) (I0:=I0) (h:=h) (u:=u) h1
 have h1:=fun M0 I0 h1=>aJZ (X:=X) (w0:=w0) (M0:=M0) (I0:=I0) (h:=h) (u:=u) h1
 have h2:=fun M0 I0 h1=>aJL (X:=X) (w0:=w0) (M0:=M0) (I0:=I0) (h:=h) (u:=u) h1
 have hR:=fun M0 I0 h1 h2 h3=>zV (X:=X) (w0:=w0) (M0:=M0) (I0:=I0) (p:=h.tr.x) (q:=h.tr.y) (r:=h.tr.z) (u:=u) h1 h2 h3
 refine aX (φ:=iV h u) (Hv.mem hh) ?_
 refine aS Tryz.func52 rfl Tryz.ntmps52 rfl ?_
 refine iH ?_
 refine gU rfl (fun b1=>?_)
 refine aI (cs:=vJ h) .here ?_
 refine dS (fun b2=>?_)
 repeat refine aB ?_
 (repeat refine aG ?_);refine qQ (M0) (aH (some ⟨b1,0,none⟩) (vJ h)::I0) [0,2,4,1,3,5,6,7] [3,3,3,0,0,0,0,0] mixed ?_
 repeat refine aB ?_
 (refine aQ rfl (h0 _ _ aA) ?_;rintro _ _ _ ⟨rfl,rfl,rfl⟩;refine aL ?_)
 (refine aQ rfl (h1 _ _ aA) ?_;rintro _ _ _ ⟨rfl,rfl,rfl⟩;refine aL ?_)
 (refine aQ rfl (h2 _ _ aA) ?_;rintro _ _ _ ⟨rfl,rfl,rfl⟩;refine aL ?_)
 (refine aQ rfl (hR _ _ aA aA aA) ?_;rintro _ _ _ ⟨rfl,rfl,rfl⟩;refine aL ?_)
 repeat refine aB ?_
 refine aT (cs:=vJ h.tr) (.inl rfl) rfl rfl aA rfl M0 (iV h.tr u::I0) aF aD ⟨rfl,rfl,rfl⟩
theorem aSE {h:HZ} {p:TZ} {k m:Nat} (hk:63≤k+m) (hk2:k+m≤100000000000) (hh:iV h k∈I0) (hp:aY p m∈I0):CD Tryz.prog 114 [hv9 h,dH p] X w0 M0 I0 (VQ (h.m.app p.t) (k+m+3) M0 I0):=by
 have h0:=fun M0 I0 h1=>aKD (X:=X) (w0:=w0) (M0:=M0) (I0:=I0) (h:=h) (u:=k) h1
 have h1:=fun M0 I0 h1=>aKG (X:=X) (w0:=w0) (M0:=M0) (I0:=I0) (h:=h) (u:=k) h1
 have h2:=fun M0 I0 h1=>aJW (X:=X) (w0:=w0) (M0:=M0) (I0:=I0) (h:=h) (u:=k) h1
 have hD:=fun (c:TZ) M0 I0 h1 h2=>aQJ (X:=X) (w0:=w0) (M0:=M0) (I0:=I0) (p:=c) (q:=p) (k:=k) (m:=m) hk hk2 h1 h2
 refine aX (φ:=iV h k) (Hv.mem hh) (aX (φ:=aY p m) (Hv.mem (List.mem_cons_of_mem _ hp)) ?_)
 refine aN Tryz.func114 rfl Tryz.ntmps114 rfl ?_
 refine iH ?_
 refine gU rfl (fun b2=>?_)
 refine aI (cs:=vJ h) .here ?_
 refine gU rfl (fun b3=>?_)
 refine aI (cs:=lW p) .here ?_
 refine dS (fun b4=>?_)
 repeat refine aB ?_
 (repeat refine aG ?_);refine qQ (M0) (aH (some ⟨b3,0,none⟩) (lW p)::aH (some ⟨b2,0,none⟩) (vJ h)::I0) [0,2,4,6,8,10,1,3,5,7,9,11,12,13] [5,5,5,5,5,5,0,0,0,0,0,0,0,0] mixed ?_
 repeat refine aB ?_
 (refine aQ rfl (h0 _ _ aA) ?_;rintro _ _ _ ⟨rfl,rfl,rfl⟩;refine aL ?_)
 (refine aQ rfl (hD h.x _ _ aA aA) ?_;rintro _ _ _ ⟨rfl,g0,rfl,hg0,rfl⟩;refine aL ?_)
 (refine aQ rfl (h1 _ _ aA) ?_;rintro _ _ _ ⟨rfl,rfl,rfl⟩;refine aL ?_)
 (refine aQ rfl (hD h.y _ _ aA aA) ?_;rintro _ _ _ ⟨rfl,g1,rfl,hg1,rfl⟩;refine aL ?_)
 (refine aQ rfl (h2 _ _ aA) ?_;rintro _ _ _ ⟨rfl,rfl,rfl⟩;refine aL ?_)
 (refine aQ rfl (hD h.z _ _ aA aA) ?_;rintro _ _ _ ⟨rfl,g2,rfl,hg2,rfl⟩;refine aL ?_)
 refine cK (φ:=aY ⟨g0,g1,g2⟩ (k+m+3)) (Hv.mkZ aA aA aA) ?_
 (refine aC rfl (fun _=>dL (vals:=[nv g0,nv g1,nv g2]) (cells:=lW ⟨g0,g1,g2⟩) rfl ?hpl rfl ?hz) rfl rfl ?_;(case hpl=>exact (by intro v hv;repeat (first|exact absurd hv (List.not_mem_nil)|(rcases List.mem_cons.1 hv with rfl|hv; · rfl))));(case hz=>rfl))
 repeat refine aB ?_
 refine aT (cs:=lW ⟨g0,g1,g2⟩) (.inl rfl) rfl rfl aA rfl M0 (aY ⟨g0,g1,g2⟩ (k+m+3)::I0) aF aD ⟨rfl,⟨g0,g1,g2⟩,rfl,by show (⟨g0.z,g1.z,g2.z⟩:T3 Int)=_;rw [hg0,hg1,hg2];rfl,rfl⟩
end
end Go.Proofs.YtmmmfphealhapaaGreat
namespace Go.Fx
section
variable {P:Program} {n:Nat} {Q:Exit→Act→World→Prop} {G:Env} {X:List Nat} {w0:World} {M M1:List Ent} {I I1:List aM} {l:List Oper}
theorem kU {e:Exit} {G':Env} {M':List Ent} {I':List aM} (s:Sub G G') (hM:SubP M M') (hI:Inc I I') (h:ND n Q e G' X w0 M' I'):ND n Q e G X w0 M I:=⟨fun w hw=>⟨fun a ha=>(h.go w (hw.weak hM hI)).go a (ha.sub s)⟩⟩
theorem bG {ops:List Oper} {m:Go.Fx.Mode} {G':Env} {M':List Ent} {I':List aM} {Cs:Nat→World→Prop} {R:Nat→Nat→Array Bool→Exit→Act→World→Prop} {f k:Nat} {ls:Array Bool} (hR:∀f k ls,R f k ls=Go.Fx.Rest P l Q Cs f k ls) (h:ND n (R f k ls) .normal G' X w0 M' I') (s:Sub G G':=by exact dE) (hM:SubP M M':=by exact aF) (hI:Inc I I':=by exact aD):RD P n ops (Go.Fx.Rest P l Q Cs f k ls) m [] G X w0 M I:=bK (by rw [←hR];exact kU s hM hI h)
theorem aKE {id:Nat} (M1:List Ent) (I1:List aM) (hx:P.follows .mixedOrders=true) (h:∀R:Nat→Nat→Array Bool→Exit→Act→World→Prop,(∀f k ls,R f k ls=Go.Fx.Rest P l Q (vZ X w0 M1 I1) f k ls)→ND n (R l.length 0 (Array.replicate l.length false)) .normal G X w0 M I):TD P n (.region id l.toArray true) Q G X w0 M I:=
 pV M1 I1 hx (h (fun f k ls=>Go.Fx.Rest P l Q (vZ X w0 M1 I1) f k ls) (fun _ _ _=>rfl))
theorem vU {fuel k i j m o:Nat} {listed:Array Bool} (hr:(Region.ready .any l.toArray listed==[i,j,m,o] && uM l.toArray i && uM l.toArray j && uM l.toArray m && uM l.toArray o)=true)
  (h1:RD P n l (Go.Fx.Rest P l Q (vZ X w0 M1 I1) fuel (k+1) (listed.setIfInBounds i true)) (.any (vZ X w0 M1 I1) k []) (pick l [i]) G X w0 M I)
  (h2:RD P n l (Go.Fx.Rest P l Q (vZ X w0 M1 I1) fuel (k+1) (listed.setIfInBounds j true)) (.any (vZ X w0 M1 I1) k []) (pick l [j]) G X w0 M I)
  (h3:RD P n l (Go.Fx.Rest P l Q (vZ X w0 M1 I1) fuel (k+1) (listed.setIfInBounds m true)) (.any (vZ X w0 M1 I1) k []) (pick l [m]) G X w0 M I)
  (h4:RD P n l (Go.Fx.Rest P l Q (vZ X w0 M1 I1) fuel (k+1) (listed.setIfInBounds o true)) (.any (vZ X w0 M1 I1) k []) (pick l [o]) G X w0 M I):ND n (Go.Fx.Rest P l Q (vZ X w0 M1 I1) (fuel+1) k listed) .normal G X w0 M I:=⟨fun w hw=>⟨fun a ha=>by
 simp only [Bool.and_eq_true,beq_iff_eq] at hr
 obtain ⟨⟨⟨⟨hr,e1⟩,e2⟩,e3⟩,e4⟩:=hr
 have get:∀x,uM l.toArray x=true→∃o,l.toArray[x]?=some o∧iI o.op=false:=fun x hx=>by
  unfold uM at hx
  cases ho:l.toArray[x]? with
  |none=>simp [ho] at hx
  |some o=>simp [ho] at hx;exact ⟨o,rfl,hx⟩
 obtain ⟨o1,ho1,hk1⟩:=get i e1
 obtain ⟨o2,ho2,hk2⟩:=get j e2
 obtain ⟨o3,ho3,hk3⟩:=get m e3
 obtain ⟨o4,ho4,hk4⟩:=get o e4
 refine ⟨fun h0=>(by rw [hr] at h0;cases h0),fun x hx=>?_⟩
 rw [hr] at hx
 simp only [List.mem_cons,List.not_mem_nil,or_false] at hx
 rcases hx with rfl|rfl|rfl|rfl
 ·exact oH ho1 hk1 ((h1.go w hw).go a ha)
 ·exact oH ho2 hk2 ((h2.go w hw).go a ha)
 ·exact oH ho3 hk3 ((h3.go w hw).go a ha)
 ·exact oH ho4 hk4 ((h4.go w hw).go a ha)⟩⟩
end
end Go.Fx
namespace Go.Proofs.YtmmmfphealhapaaGreat
open Go Go.Fx
abbrev zT3:List Value:=recs wN [none,none,none]
abbrev z18:List Value:=recs wN [none,none,none,none,none,none,none,none,none]
def wT:Option TZ→List Value
 |none=>recs wN [none,none,none]
 |some p=>lW p
instance wT.szd:Sized wT 6:=⟨fun o=>by cases o <;>rfl⟩
instance wT.ones:Ones wT:=⟨fun m u hu=>by
 rcases m with _|e
 ·exact uD (enc:=wN) [none,none,none] u hu
 ·exact TZ.ones.one e u hu⟩
structure AllT (os:List (Option TZ)) (k:Nat) (X:List Nat) (w:World):Prop where
 go:∀e:TZ,some e∈os→IsTZ e k X w
abbrev allT (os:List (Option TZ)) (k:Nat):aM:=AllT os k
instance (os:List (Option TZ)) (k:Nat):Fx.Good (AllT os k):=⟨fun X Y w w' h he hY=>⟨fun e hm=>Fx.Good.go (φ:=IsTZ _ _) X Y w w' (h.go e hm) he hY⟩⟩
theorem Hv.tNil {I:List aM} {n k:Nat}:Hv I (allT (List.replicate n none) k):=⟨fun X w _=>⟨fun e he=>by cases (List.mem_replicate.1 he).2⟩⟩
theorem Hv.tSet {I:List aM} {os:List (Option TZ)} {g:TZ} {k:Nat} {i:Int} (h:allT os k∈I) (hg:aY g k∈I):Hv I (allT (st os i (some g)) k):=⟨fun X w hw=>⟨fun e he=>by
 rcases List.mem_or_eq_of_mem_set he with h1|h1
 ·exact (hw _ h:AllT os k X w).go e h1
 ·cases h1
  exact hw _ hg⟩⟩
theorem Hv.tAt {I:List aM} {os:List (Option TZ)} {g:TZ} {k:Nat} {i:Int} (h:allT os k∈I) (hi:0≤i∧i < os.length) (he:gt os i=some g):Hv I (aY g k):=⟨fun X w hw=>(hw _ h:AllT os k X w).go g (by rw [←he];exact bD hi)⟩
abbrev tt:Bool:=true
abbrev ff:Bool:=false
abbrev rG (d b:Nat):Nat × Value:=(d, .pointer (some ⟨b,0,none⟩))
abbrev yC (h:HZ) (b2:Nat):Env:=[(10,hv9 h),(8,hv9 h),(6,hv9 h),(2, .pointer (some ⟨b2,0,none⟩))]
abbrev rH (b:Nat):Ent:= .blk b zT3 100
abbrev yD (b2:Nat) (M0:List Ent):List Ent:= .blk b2 z18 44::M0
abbrev xZ (b1:Nat) (h:HZ) (u:Nat) (I0:List aM):List aM:=aH (some ⟨b1,0,none⟩) (vJ h)::iV h u::I0
section
variable {X:List Nat} {w0:World} {M0:List Ent} {I0:List aM}
theorem aUL {h:HZ} {u i:Nat} (hi:i < 3) (hh:iV h u∈I0):CD Tryz.prog 115 [hv9 h, .int .i64 (i:Int)] X w0 M0 I0 (fun v M I=>M0=M∧v=dH (gt [h.tr.x,h.tr.y,h.tr.z] (i:Int))∧I=aY (gt [h.tr.x,h.tr.y,h.tr.z] (i:Int)) u::I0):=by
 obtain rfl|rfl|rfl:i=0∨i=1∨i=2:=by omega
 ·exact aLM hh
 ·exact aJZ hh
 ·exact aJL hh
theorem aYX {h:HZ} {u:Nat} (hu:u≤100000000000) (hh:iV h u∈I0):CD Tryz.prog 53 [hv9 h] X w0 M0 I0 (HQ h.m.cof (u+u+1) M0 I0):=by
 have h0:=fun M0 I0 h1=>aKD (X:=X) (w0:=w0) (M0:=M0) (I0:=I0) (h:=h) (u:=u) h1
 have h1:=fun M0 I0 h1=>aKG (X:=X) (w0:=w0) (M0:=M0) (I0:=I0) (h:=h) (u:=u) h1
 have h2:=fun M0 I0 h1=>aJW (X:=X) (w0:=w0) (M0:=M0) (I0:=I0) (h:=h) (u:=u) h1
 have hC:=fun (p q:TZ) M0 I0 h1 h2=>aHE (X:=X) (w0:=w0) (M0:=M0) (I0:=I0) (p:=p) (q:=q) (u:=u) hu h1 h2
 have hR:=fun (p q r:TZ) M0 I0 h1 h2 h3=>zV (X:=X) (w0:=w0) (M0:=M0) (I0:=I0) (p:=p) (q:=q) (r:=r) (u:=u+u+1) h1 h2 h3
 refine aX (φ:=iV h u) (Hv.mem hh) ?_
 refine aS Tryz.func53 rfl Tryz.ntmps53 rfl ?_
 refine iH ?_
 refine gU rfl (fun b1=>?_)
 refine aI (cs:=vJ h) .here ?_
 refine dS (fun b2=>?_)
 repeat refine aB ?_
 refine nJ (fun G M I=>∃b3 b4 b5:Nat,G=[(2, .pointer (some ⟨b2,0,none⟩)),(3, .pointer (some ⟨b3,0,none⟩)),(4, .pointer (some ⟨b4,0,none⟩)),(5, .pointer (some ⟨b5,0,none⟩))]∧M= .blk b5 (lW h.z) 100:: .blk b4 (lW h.y) 100:: .blk b3 (lW h.x) 100:: .blk b2 z18 44::M0∧I=aY h.z u::aY h.y u::aY h.x u::I0) ?_ ?_
 ·(repeat refine aG ?_)
  refine aKE (M0) (aH (some ⟨b1,0,none⟩) (vJ h)::iV h u::I0) mixed (fun R hR=>?_)
  have n3345:∀b3 b4 b5:Nat,ND 22 (R 3 6 #[tt,tt,tt,tt,tt,tt,tt,tt,tt,ff,ff,ff]) .normal ((11,dH h.z)::(9,dH h.y)::(7,dH h.x)::rG 3 b3::rG 4 b4::rG 5 b5::yC h b2) X w0 (rH b3::rH b4::rH b5::yD b2 M0) (aY h.z u::aY h.y u::aY h.x u::xZ b1 h u I0):=by
   intro b3 b4 b5
   rw [hR]
   refine bL [9,10,11] [0,0,0] aF aD (by kernel_rfl) (by kernel_rfl) rfl rfl ?_
   repeat refine aB ?_
   refine yA ⟨b3,b4,b5,rfl,rfl,rfl⟩
  have n2345:∀b3 b4 b5:Nat,ND 22 (R 4 5 #[tt,tt,tt,tt,tt,ff,tt,tt,tt,ff,ff,ff]) .normal ((9,dH h.y)::(7,dH h.x)::rG 3 b3::rG 4 b4::rG 5 b5::yC h b2) X w0 (rH b3::rH b4::rH b5::yD b2 M0) (aY h.y u::aY h.x u::xZ b1 h u I0):=by
   intro b3 b4 b5
   rw [hR]
   exact dM (fuel:=3) (listed':=#[tt,tt,tt,tt,tt,tt,tt,tt,tt,ff,ff,ff]) [5] [0] aF aD (by kernel_rfl) (by kernel_rfl) rfl rfl (bY rfl (h2 _ _ aA) rfl rfl (by rintro _ _ _ ⟨rfl,rfl,rfl⟩;exact ⟨okF,bG hR (n3345 b3 b4 b5)⟩))
  have n334:∀b3 b4:Nat,ND 22 (R 4 5 #[tt,tt,tt,tt,tt,tt,tt,tt,ff,ff,ff,ff]) .normal ((11,dH h.z)::(9,dH h.y)::(7,dH h.x)::rG 3 b3::rG 4 b4::yC h b2) X w0 (rH b3::rH b4::yD b2 M0) (aY h.z u::aY h.y u::aY h.x u::xZ b1 h u I0):=by
   intro b3 b4
   rw [hR]
   exact dM (fuel:=3) (listed':=#[tt,tt,tt,tt,tt,tt,tt,tt,tt,ff,ff,ff]) [8] [0] aF aD (by kernel_rfl) (by kernel_rfl) rfl rfl (aV (d:=5) rfl rfl (fun b5=>⟨okF,bG hR (n3345 b3 b4 b5)⟩))
  have n335:∀b3 b5:Nat,ND 22 (R 4 5 #[tt,tt,tt,tt,tt,tt,tt,ff,tt,ff,ff,ff]) .normal ((11,dH h.z)::(9,dH h.y)::(7,dH h.x)::rG 3 b3::rG 5 b5::yC h b2) X w0 (rH b3::rH b5::yD b2 M0) (aY h.z u::aY h.y u::aY h.x u::xZ b1 h u I0):=by
   intro b3 b5
   rw [hR]
   exact dM (fuel:=3) (listed':=#[tt,tt,tt,tt,tt,tt,tt,tt,tt,ff,ff,ff]) [7] [0] aF aD (by kernel_rfl) (by kernel_rfl) rfl rfl (aV (d:=4) rfl rfl (fun b4=>⟨okF,bG hR (n3345 b3 b4 b5)⟩))
  have n345:∀b4 b5:Nat,ND 22 (R 4 5 #[tt,tt,tt,tt,tt,tt,ff,tt,tt,ff,ff,ff]) .normal ((11,dH h.z)::(9,dH h.y)::(7,dH h.x)::rG 4 b4::rG 5 b5::yC h b2) X w0 (rH b4::rH b5::yD b2 M0) (aY h.z u::aY h.y u::aY h.x u::xZ b1 h u I0):=by
   intro b4 b5
   rw [hR]
   exact dM (fuel:=3) (listed':=#[tt,tt,tt,tt,tt,tt,tt,tt,tt,ff,ff,ff]) [6] [0] aF aD (by kernel_rfl) (by kernel_rfl) rfl rfl (aV (d:=3) rfl rfl (fun b3=>⟨okF,bG hR (n3345 b3 b4 b5)⟩))
  have n1345:∀b3 b4 b5:Nat,ND 22 (R 5 4 #[tt,tt,tt,ff,tt,ff,tt,tt,tt,ff,ff,ff]) .normal ((7,dH h.x)::rG 3 b3::rG 4 b4::rG 5 b5::yC h b2) X w0 (rH b3::rH b4::rH b5::yD b2 M0) (aY h.x u::xZ b1 h u I0):=by
   intro b3 b4 b5
   rw [hR]
   exact dM (fuel:=4) (listed':=#[tt,tt,tt,tt,tt,ff,tt,tt,tt,ff,ff,ff]) [3] [0] aF aD (by kernel_rfl) (by kernel_rfl) rfl rfl (bY rfl (h1 _ _ aA) rfl rfl (by rintro _ _ _ ⟨rfl,rfl,rfl⟩;exact ⟨okF,bG hR (n2345 b3 b4 b5)⟩))
  have n234:∀b3 b4:Nat,ND 22 (R 5 4 #[tt,tt,tt,tt,tt,ff,tt,tt,ff,ff,ff,ff]) .normal ((9,dH h.y)::(7,dH h.x)::rG 3 b3::rG 4 b4::yC h b2) X w0 (rH b3::rH b4::yD b2 M0) (aY h.y u::aY h.x u::xZ b1 h u I0):=by
   intro b3 b4
   rw [hR]
   exact bB (i:=5) (j:=8) (by kernel_rfl) (bY rfl (h2 _ _ aA) rfl rfl (by rintro _ _ _ ⟨rfl,rfl,rfl⟩;exact ⟨okF,bG hR (n334 b3 b4)⟩)) (aV (d:=5) rfl rfl (fun b5=>⟨okF,bG hR (n2345 b3 b4 b5)⟩))
  have n235:∀b3 b5:Nat,ND 22 (R 5 4 #[tt,tt,tt,tt,tt,ff,tt,ff,tt,ff,ff,ff]) .normal ((9,dH h.y)::(7,dH h.x)::rG 3 b3::rG 5 b5::yC h b2) X w0 (rH b3::rH b5::yD b2 M0) (aY h.y u::aY h.x u::xZ b1 h u I0):=by
   intro b3 b5
   rw [hR]
   exact bB (i:=5) (j:=7) (by kernel_rfl) (bY rfl (h2 _ _ aA) rfl rfl (by rintro _ _ _ ⟨rfl,rfl,rfl⟩;exact ⟨okF,bG hR (n335 b3 b5)⟩)) (aV (d:=4) rfl rfl (fun b4=>⟨okF,bG hR (n2345 b3 b4 b5)⟩))
  have n245:∀b4 b5:Nat,ND 22 (R 5 4 #[tt,tt,tt,tt,tt,ff,ff,tt,tt,ff,ff,ff]) .normal ((9,dH h.y)::(7,dH h.x)::rG 4 b4::rG 5 b5::yC h b2) X w0 (rH b4::rH b5::yD b2 M0) (aY h.y u::aY h.x u::xZ b1 h u I0):=by
   intro b4 b5
   rw [hR]
   exact bB (i:=5) (j:=6) (by kernel_rfl) (bY rfl (h2 _ _ aA) rfl rfl (by rintro _ _ _ ⟨rfl,rfl,rfl⟩;exact ⟨okF,bG hR (n345 b4 b5)⟩)) (aV (d:=3) rfl rfl (fun b3=>⟨okF,bG hR (n2345 b3 b4 b5)⟩))
  have n33:∀b3:Nat,ND 22 (R 5 4 #[tt,tt,tt,tt,tt,tt,tt,ff,ff,ff,ff,ff]) .normal ((11,dH h.z)::(9,dH h.y)::(7,dH h.x)::rG 3 b3::yC h b2) X w0 (rH b3::yD b2 M0) (aY h.z u::aY h.y u::aY h.x u::xZ b1 h u I0):=by
   intro b3
   rw [hR]
   exact bB (i:=7) (j:=8) (by kernel_rfl) (aV (d:=4) rfl rfl (fun b4=>⟨okF,bG hR (n334 b3 b4)⟩)) (aV (d:=5) rfl rfl (fun b5=>⟨okF,bG hR (n335 b3 b5)⟩))
  have n34:∀b4:Nat,ND 22 (R 5 4 #[tt,tt,tt,tt,tt,tt,ff,tt,ff,ff,ff,ff]) .normal ((11,dH h.z)::(9,dH h.y)::(7,dH h.x)::rG 4 b4::yC h b2) X w0 (rH b4::yD b2 M0) (aY h.z u::aY h.y u::aY h.x u::xZ b1 h u I0):=by
   intro b4
   rw [hR]
   exact bB (i:=6) (j:=8) (by kernel_rfl) (aV (d:=3) rfl rfl (fun b3=>⟨okF,bG hR (n334 b3 b4)⟩)) (aV (d:=5) rfl rfl (fun b5=>⟨okF,bG hR (n345 b4 b5)⟩))
  have n35:∀b5:Nat,ND 22 (R 5 4 #[tt,tt,tt,tt,tt,tt,ff,ff,tt,ff,ff,ff]) .normal ((11,dH h.z)::(9,dH h.y)::(7,dH h.x)::rG 5 b5::yC h b2) X w0 (rH b5::yD b2 M0) (aY h.z u::aY h.y u::aY h.x u::xZ b1 h u I0):=by
   intro b5
   rw [hR]
   exact bB (i:=6) (j:=7) (by kernel_rfl) (aV (d:=3) rfl rfl (fun b3=>⟨okF,bG hR (n335 b3 b5)⟩)) (aV (d:=4) rfl rfl (fun b4=>⟨okF,bG hR (n345 b4 b5)⟩))
  have n0345:∀b3 b4 b5:Nat,ND 22 (R 6 3 #[tt,ff,tt,ff,tt,ff,tt,tt,tt,ff,ff,ff]) .normal (rG 3 b3::rG 4 b4::rG 5 b5::yC h b2) X w0 (rH b3::rH b4::rH b5::yD b2 M0) (xZ b1 h u I0):=by
   intro b3 b4 b5
   rw [hR]
   exact dM (fuel:=5) (listed':=#[tt,tt,tt,ff,tt,ff,tt,tt,tt,ff,ff,ff]) [1] [0] aF aD (by kernel_rfl) (by kernel_rfl) rfl rfl (bY rfl (h0 _ _ aA) rfl rfl (by rintro _ _ _ ⟨rfl,rfl,rfl⟩;exact ⟨okF,bG hR (n1345 b3 b4 b5)⟩))
  have n134:∀b3 b4:Nat,ND 22 (R 6 3 #[tt,tt,tt,ff,tt,ff,tt,tt,ff,ff,ff,ff]) .normal ((7,dH h.x)::rG 3 b3::rG 4 b4::yC h b2) X w0 (rH b3::rH b4::yD b2 M0) (aY h.x u::xZ b1 h u I0):=by
   intro b3 b4
   rw [hR]
   exact bB (i:=3) (j:=8) (by kernel_rfl) (bY rfl (h1 _ _ aA) rfl rfl (by rintro _ _ _ ⟨rfl,rfl,rfl⟩;exact ⟨okF,bG hR (n234 b3 b4)⟩)) (aV (d:=5) rfl rfl (fun b5=>⟨okF,bG hR (n1345 b3 b4 b5)⟩))
  have n135:∀b3 b5:Nat,ND 22 (R 6 3 #[tt,tt,tt,ff,tt,ff,tt,ff,tt,ff,ff,ff]) .normal ((7,dH h.x)::rG 3 b3::rG 5 b5::yC h b2) X w0 (rH b3::rH b5::yD b2 M0) (aY h.x u::xZ b1 h u I0):=by
   intro b3 b5
   rw [hR]
   exact bB (i:=3) (j:=7) (by kernel_rfl) (bY rfl (h1 _ _ aA) rfl rfl (by rintro _ _ _ ⟨rfl,rfl,rfl⟩;exact ⟨okF,bG hR (n235 b3 b5)⟩)) (aV (d:=4) rfl rfl (fun b4=>⟨okF,bG hR (n1345 b3 b4 b5)⟩))
  have n145:∀b4 b5:Nat,ND 22 (R 6 3 #[tt,tt,tt,ff,tt,ff,ff,tt,tt,ff,ff,ff]) .normal ((7,dH h.x)::rG 4 b4::rG 5 b5::yC h b2) X w0 (rH b4::rH b5::yD b2 M0) (aY h.x u::xZ b1 h u I0):=by
   intro b4 b5
   rw [hR]
   exact bB (i:=3) (j:=6) (by kernel_rfl) (bY rfl (h1 _ _ aA) rfl rfl (by rintro _ _ _ ⟨rfl,rfl,rfl⟩;exact ⟨okF,bG hR (n245 b4 b5)⟩)) (aV (d:=3) rfl rfl (fun b3=>⟨okF,bG hR (n1345 b3 b4 b5)⟩))
  have n23:∀b3:Nat,ND 22 (R 6 3 #[tt,tt,tt,tt,tt,ff,tt,ff,ff,ff,ff,ff]) .normal ((9,dH h.y)::(7,dH h.x)::rG 3 b3::yC h b2) X w0 (rH b3::yD b2 M0) (aY h.y u::aY h.x u::xZ b1 h u I0):=by
   intro b3
   rw [hR]
   exact iF (i:=5) (j:=7) (m:=8) (by kernel_rfl) (bY rfl (h2 _ _ aA) rfl rfl (by rintro _ _ _ ⟨rfl,rfl,rfl⟩;exact ⟨okF,bG hR (n33 b3)⟩)) (aV (d:=4) rfl rfl (fun b4=>⟨okF,bG hR (n234 b3 b4)⟩)) (aV (d:=5) rfl rfl (fun b5=>⟨okF,bG hR (n235 b3 b5)⟩))
  have n24:∀b4:Nat,ND 22 (R 6 3 #[tt,tt,tt,tt,tt,ff,ff,tt,ff,ff,ff,ff]) .normal ((9,dH h.y)::(7,dH h.x)::rG 4 b4::yC h b2) X w0 (rH b4::yD b2 M0) (aY h.y u::aY h.x u::xZ b1 h u I0):=by
   intro b4
   rw [hR]
   exact iF (i:=5) (j:=6) (m:=8) (by kernel_rfl) (bY rfl (h2 _ _ aA) rfl rfl (by rintro _ _ _ ⟨rfl,rfl,rfl⟩;exact ⟨okF,bG hR (n34 b4)⟩)) (aV (d:=3) rfl rfl (fun b3=>⟨okF,bG hR (n234 b3 b4)⟩)) (aV (d:=5) rfl rfl (fun b5=>⟨okF,bG hR (n245 b4 b5)⟩))
  have n25:∀b5:Nat,ND 22 (R 6 3 #[tt,tt,tt,tt,tt,ff,ff,ff,tt,ff,ff,ff]) .normal ((9,dH h.y)::(7,dH h.x)::rG 5 b5::yC h b2) X w0 (rH b5::yD b2 M0) (aY h.y u::aY h.x u::xZ b1 h u I0):=by
   intro b5
   rw [hR]
   exact iF (i:=5) (j:=6) (m:=7) (by kernel_rfl) (bY rfl (h2 _ _ aA) rfl rfl (by rintro _ _ _ ⟨rfl,rfl,rfl⟩;exact ⟨okF,bG hR (n35 b5)⟩)) (aV (d:=3) rfl rfl (fun b3=>⟨okF,bG hR (n235 b3 b5)⟩)) (aV (d:=4) rfl rfl (fun b4=>⟨okF,bG hR (n245 b4 b5)⟩))
  have n3:ND 22 (R 6 3 #[tt,tt,tt,tt,tt,tt,ff,ff,ff,ff,ff,ff]) .normal ((11,dH h.z)::(9,dH h.y)::(7,dH h.x)::yC h b2) X w0 (yD b2 M0) (aY h.z u::aY h.y u::aY h.x u::xZ b1 h u I0):=by
   rw [hR]
   exact iF (i:=6) (j:=7) (m:=8) (by kernel_rfl) (aV (d:=3) rfl rfl (fun b3=>⟨okF,bG hR (n33 b3)⟩)) (aV (d:=4) rfl rfl (fun b4=>⟨okF,bG hR (n34 b4)⟩)) (aV (d:=5) rfl rfl (fun b5=>⟨okF,bG hR (n35 b5)⟩))
  have n034:∀b3 b4:Nat,ND 22 (R 7 2 #[tt,ff,tt,ff,tt,ff,tt,tt,ff,ff,ff,ff]) .normal (rG 3 b3::rG 4 b4::yC h b2) X w0 (rH b3::rH b4::yD b2 M0) (xZ b1 h u I0):=by
   intro b3 b4
   rw [hR]
   exact bB (i:=1) (j:=8) (by kernel_rfl) (bY rfl (h0 _ _ aA) rfl rfl (by rintro _ _ _ ⟨rfl,rfl,rfl⟩;exact ⟨okF,bG hR (n134 b3 b4)⟩)) (aV (d:=5) rfl rfl (fun b5=>⟨okF,bG hR (n0345 b3 b4 b5)⟩))
  have n035:∀b3 b5:Nat,ND 22 (R 7 2 #[tt,ff,tt,ff,tt,ff,tt,ff,tt,ff,ff,ff]) .normal (rG 3 b3::rG 5 b5::yC h b2) X w0 (rH b3::rH b5::yD b2 M0) (xZ b1 h u I0):=by
   intro b3 b5
   rw [hR]
   exact bB (i:=1) (j:=7) (by kernel_rfl) (bY rfl (h0 _ _ aA) rfl rfl (by rintro _ _ _ ⟨rfl,rfl,rfl⟩;exact ⟨okF,bG hR (n135 b3 b5)⟩)) (aV (d:=4) rfl rfl (fun b4=>⟨okF,bG hR (n0345 b3 b4 b5)⟩))
  have n045:∀b4 b5:Nat,ND 22 (R 7 2 #[tt,ff,tt,ff,tt,ff,ff,tt,tt,ff,ff,ff]) .normal (rG 4 b4::rG 5 b5::yC h b2) X w0 (rH b4::rH b5::yD b2 M0) (xZ b1 h u I0):=by
   intro b4 b5
   rw [hR]
   exact bB (i:=1) (j:=6) (by kernel_rfl) (bY rfl (h0 _ _ aA) rfl rfl (by rintro _ _ _ ⟨rfl,rfl,rfl⟩;exact ⟨okF,bG hR (n145 b4 b5)⟩)) (aV (d:=3) rfl rfl (fun b3=>⟨okF,bG hR (n0345 b3 b4 b5)⟩))
  have n13:∀b3:Nat,ND 22 (R 7 2 #[tt,tt,tt,ff,tt,ff,tt,ff,ff,ff,ff,ff]) .normal ((7,dH h.x)::rG 3 b3::yC h b2) X w0 (rH b3::yD b2 M0) (aY h.x u::xZ b1 h u I0):=by
   intro b3
   rw [hR]
   exact iF (i:=3) (j:=7) (m:=8) (by kernel_rfl) (bY rfl (h1 _ _ aA) rfl rfl (by rintro _ _ _ ⟨rfl,rfl,rfl⟩;exact ⟨okF,bG hR (n23 b3)⟩)) (aV (d:=4) rfl rfl (fun b4=>⟨okF,bG hR (n134 b3 b4)⟩)) (aV (d:=5) rfl rfl (fun b5=>⟨okF,bG hR (n135 b3 b5)⟩))
  have n14:∀b4:Nat,ND 22 (R 7 2 #[tt,tt,tt,ff,tt,ff,ff,tt,ff,ff,ff,ff]) .normal ((7,dH h.x)::rG 4 b4::yC h b2) X w0 (rH b4::yD b2 M0) (aY h.x u::xZ b1 h u I0):=by
   intro b4
   rw [hR]
   exact iF (i:=3) (j:=6) (m:=8) (by kernel_rfl) (bY rfl (h1 _ _ aA) rfl rfl (by rintro _ _ _ ⟨rfl,rfl,rfl⟩;exact ⟨okF,bG hR (n24 b4)⟩)) (aV (d:=3) rfl rfl (fun b3=>⟨okF,bG hR (n134 b3 b4)⟩)) (aV (d:=5) rfl rfl (fun b5=>⟨okF,bG hR (n145 b4 b5)⟩))
  have n15:∀b5:Nat,ND 22 (R 7 2 #[tt,tt,tt,ff,tt,ff,ff,ff,tt,ff,ff,ff]) .normal ((7,dH h.x)::rG 5 b5::yC h b2) X w0 (rH b5::yD b2 M0) (aY h.x u::xZ b1 h u I0):=by
   intro b5
   rw [hR]
   exact iF (i:=3) (j:=6) (m:=7) (by kernel_rfl) (bY rfl (h1 _ _ aA) rfl rfl (by rintro _ _ _ ⟨rfl,rfl,rfl⟩;exact ⟨okF,bG hR (n25 b5)⟩)) (aV (d:=3) rfl rfl (fun b3=>⟨okF,bG hR (n135 b3 b5)⟩)) (aV (d:=4) rfl rfl (fun b4=>⟨okF,bG hR (n145 b4 b5)⟩))
  have n2:ND 22 (R 7 2 #[tt,tt,tt,tt,tt,ff,ff,ff,ff,ff,ff,ff]) .normal ((9,dH h.y)::(7,dH h.x)::yC h b2) X w0 (yD b2 M0) (aY h.y u::aY h.x u::xZ b1 h u I0):=by
   rw [hR]
   exact vU (i:=5) (j:=6) (m:=7) (o:=8) (by kernel_rfl) (bY rfl (h2 _ _ aA) rfl rfl (by rintro _ _ _ ⟨rfl,rfl,rfl⟩;exact ⟨okF,bG hR (n3)⟩)) (aV (d:=3) rfl rfl (fun b3=>⟨okF,bG hR (n23 b3)⟩)) (aV (d:=4) rfl rfl (fun b4=>⟨okF,bG hR (n24 b4)⟩)) (aV (d:=5) rfl rfl (fun b5=>⟨okF,bG hR (n25 b5)⟩))
  have n03:∀b3:Nat,ND 22 (R 8 1 #[tt,ff,tt,ff,tt,ff,tt,ff,ff,ff,ff,ff]) .normal (rG 3 b3::yC h b2) X w0 (rH b3::yD b2 M0) (xZ b1 h u I0):=by
   intro b3
   rw [hR]
   exact iF (i:=1) (j:=7) (m:=8) (by kernel_rfl) (bY rfl (h0 _ _ aA) rfl rfl (by rintro _ _ _ ⟨rfl,rfl,rfl⟩;exact ⟨okF,bG hR (n13 b3)⟩)) (aV (d:=4) rfl rfl (fun b4=>⟨okF,bG hR (n034 b3 b4)⟩)) (aV (d:=5) rfl rfl (fun b5=>⟨okF,bG hR (n035 b3 b5)⟩))
  have n04:∀b4:Nat,ND 22 (R 8 1 #[tt,ff,tt,ff,tt,ff,ff,tt,ff,ff,ff,ff]) .normal (rG 4 b4::yC h b2) X w0 (rH b4::yD b2 M0) (xZ b1 h u I0):=by
   intro b4
   rw [hR]
   exact iF (i:=1) (j:=6) (m:=8) (by kernel_rfl) (bY rfl (h0 _ _ aA) rfl rfl (by rintro _ _ _ ⟨rfl,rfl,rfl⟩;exact ⟨okF,bG hR (n14 b4)⟩)) (aV (d:=3) rfl rfl (fun b3=>⟨okF,bG hR (n034 b3 b4)⟩)) (aV (d:=5) rfl rfl (fun b5=>⟨okF,bG hR (n045 b4 b5)⟩))
  have n05:∀b5:Nat,ND 22 (R 8 1 #[tt,ff,tt,ff,tt,ff,ff,ff,tt,ff,ff,ff]) .normal (rG 5 b5::yC h b2) X w0 (rH b5::yD b2 M0) (xZ b1 h u I0):=by
   intro b5
   rw [hR]
   exact iF (i:=1) (j:=6) (m:=7) (by kernel_rfl) (bY rfl (h0 _ _ aA) rfl rfl (by rintro _ _ _ ⟨rfl,rfl,rfl⟩;exact ⟨okF,bG hR (n15 b5)⟩)) (aV (d:=3) rfl rfl (fun b3=>⟨okF,bG hR (n035 b3 b5)⟩)) (aV (d:=4) rfl rfl (fun b4=>⟨okF,bG hR (n045 b4 b5)⟩))
  have n1:ND 22 (R 8 1 #[tt,tt,tt,ff,tt,ff,ff,ff,ff,ff,ff,ff]) .normal ((7,dH h.x)::yC h b2) X w0 (yD b2 M0) (aY h.x u::xZ b1 h u I0):=by
   rw [hR]
   exact vU (i:=3) (j:=6) (m:=7) (o:=8) (by kernel_rfl) (bY rfl (h1 _ _ aA) rfl rfl (by rintro _ _ _ ⟨rfl,rfl,rfl⟩;exact ⟨okF,bG hR (n2)⟩)) (aV (d:=3) rfl rfl (fun b3=>⟨okF,bG hR (n13 b3)⟩)) (aV (d:=4) rfl rfl (fun b4=>⟨okF,bG hR (n14 b4)⟩)) (aV (d:=5) rfl rfl (fun b5=>⟨okF,bG hR (n15 b5)⟩))
  have n0:ND 22 (R 9 0 #[tt,ff,tt,ff,tt,ff,ff,ff,ff,ff,ff,ff]) .normal (yC h b2) X w0 (yD b2 M0) (xZ b1 h u I0):=by
   rw [hR]
   exact vU (i:=1) (j:=6) (m:=7) (o:=8) (by kernel_rfl) (bY rfl (h0 _ _ aA) rfl rfl (by rintro _ _ _ ⟨rfl,rfl,rfl⟩;exact ⟨okF,bG hR (n1)⟩)) (aV (d:=3) rfl rfl (fun b3=>⟨okF,bG hR (n03 b3)⟩)) (aV (d:=4) rfl rfl (fun b4=>⟨okF,bG hR (n04 b4)⟩)) (aV (d:=5) rfl rfl (fun b5=>⟨okF,bG hR (n05 b5)⟩))
  show ND 22 (R 12 0 #[false,false,false,false,false,false,false,false,false,false,false,false]) .normal _ X w0 _ _
  rw [hR]
  refine dM (fuel:=9) (listed':=#[tt,ff,tt,ff,tt,ff,ff,ff,ff,ff,ff,ff]) [0,2,4] [5,6,7] aF aD (by kernel_rfl) (by kernel_rfl) rfl rfl ?_
  repeat refine aB ?_
  rw [←hR]
  exact kU dE aF aD n0
 rintro G M I ⟨b3,b4,b5,rfl,rfl,rfl⟩
 (repeat refine aG ?_);refine qQ (.blk b5 (lW h.z) 100:: .blk b4 (lW h.y) 100:: .blk b3 (lW h.x) 100::M0) (I0) [0,1,3,4,6,7,2,5,8,9,10] [3,3,3,3,3,3,0,0,0,0,0] mixed ?_
 repeat refine aB ?_
 (refine aQ rfl (hC h.y h.z _ _ aA aA) ?_;rintro _ _ _ ⟨rfl,c0,rfl,hc0,rfl⟩;refine aL ?_)
 (refine aQ rfl (hC h.z h.x _ _ aA aA) ?_;rintro _ _ _ ⟨rfl,c1,rfl,hc1,rfl⟩;refine aL ?_)
 (refine aQ rfl (hC h.x h.y _ _ aA aA) ?_;rintro _ _ _ ⟨rfl,c2,rfl,hc2,rfl⟩;refine aL ?_)
 (refine aQ rfl (hR c0 c1 c2 _ _ aA aA aA) ?_;rintro _ _ _ ⟨rfl,rfl,rfl⟩;refine aL ?_)
 repeat refine aB ?_
 refine aT (cs:=vJ ⟨c0,c1,c2⟩) (.inl rfl) rfl rfl aA rfl M0 (iV ⟨c0,c1,c2⟩ (u+u+1)::I0) aF aD ⟨rfl,⟨c0,c1,c2⟩,rfl,by show (⟨c0.t,c1.t,c2.t⟩:M9 Int)=_;rw [hc0,hc1,hc2];rfl,rfl⟩
theorem aVY {g h:HZ} {ku m:Nat} (hk:63≤ku+m) (hk2:ku+m≤100000000000) (hg:iV g ku∈I0) (hh:iV h m∈I0):CD Tryz.prog 51 [hv9 g,hv9 h] X w0 M0 I0 (HQ (g.m.mul h.m) (ku+m+3) M0 I0):=by
 have hTg:=fun M0 I0 h1=>aHZ (X:=X) (w0:=w0) (M0:=M0) (I0:=I0) (h:=g) (u:=ku) h1
 have hTh:=fun M0 I0 h1=>aHZ (X:=X) (w0:=w0) (M0:=M0) (I0:=I0) (h:=h) (u:=m) h1
 have hC:=fun (i:Nat) (hi:i < 3) M0 I0 h1=>aUL (X:=X) (w0:=w0) (M0:=M0) (I0:=I0) (h:=g.tr) (u:=ku) (i:=i) hi h1
 have hTm:=fun (p:TZ) M0 I0 h1 h2=>aSE (X:=X) (w0:=w0) (M0:=M0) (I0:=I0) (h:=h.tr) (p:=p) (k:=m) (m:=ku) (by omega) (by omega) h1 h2
 have e9:m+ku+3=ku+m+3:=by omega
 rw [e9] at hTm
 have hR:=fun (p q r:TZ) M0 I0 h1 h2 h3=>zV (X:=X) (w0:=w0) (M0:=M0) (I0:=I0) (p:=p) (q:=q) (r:=r) (u:=ku+m+3) h1 h2 h3
 refine aX (φ:=iV g ku) (Hv.mem hg) (aX (φ:=iV h m) (Hv.mem (List.mem_cons_of_mem _ hh)) ?_)
 refine aN Tryz.func51 rfl Tryz.ntmps51 rfl ?_
 refine iH ?_
 refine gU rfl (fun b2=>?_)
 refine aI (cs:=vJ g) .here ?_
 refine gU rfl (fun b3=>?_)
 refine aI (cs:=vJ h) .here ?_
 refine dS (fun b4=>?_)
 repeat refine aB ?_
 (refine aQ rfl (hTg _ _ aA) ?_;rintro _ _ _ ⟨rfl,rfl,rfl⟩;refine aL ?_)
 refine dS (fun b5=>?_)
 repeat refine aB ?_
 refine dS (fun b6=>?_)
 repeat refine aB ?_
 refine bH (φ:=allT [none,none,none] (ku+m+3)) (Hv.tNil (n:=3)) ?_
 refine lV [3,4,5,6] rfl (fun k G M I=>∃(i:Nat) (os:List (Option TZ)),i≤3∧k=3 - i∧os.length=3∧(∀j:Nat,j < i→∃e:TZ,gt os (j:Int)=some e∧e.t=h.tr.m.app (gt [g.x,g.y,g.z] (j:Int)).t)∧G=[(10, .int .i64 i)]∧M= .blk b6 (recs wT os) 164:: .blk b5 (vJ g.tr) 44:: .blk b4 z18 44::M0∧I=allT os (ku+m+3)::iV g.tr ku::aH (some ⟨b3,0,none⟩) (vJ h)::iV h m::I0) (3) (⟨0,[none,none,none],by omega,rfl,rfl,fun j hj=>absurd hj (by omega),rfl,rfl,rfl⟩) ?_
 rintro kk G M I ⟨i,os,hi,rfl,hol,ho,rfl,rfl,rfl⟩
 by_cases hii:i < 3
 ·repeat refine aB ?_
  (repeat refine aG ?_);refine qQ (.blk b5 (vJ g.tr) 44::M0) (aH (some ⟨b3,0,none⟩) (vJ h)::I0) [0,1,3,4,2,5,6,7,8] [3,2,2,2,0,0,0,0,0] mixed ?_
  repeat refine aB ?_
  (refine aQ rfl (hTh _ _ aA) ?_;rintro _ _ _ ⟨rfl,rfl,rfl⟩;refine aL ?_)
  (refine aQ rfl (hC i hii _ _ aA) ?_;rintro _ _ _ ⟨rfl,rfl,rfl⟩;refine aL ?_)
  (refine aQ rfl (hTm (gt [g.tr.tr.x,g.tr.tr.y,g.tr.tr.z] (i:Int)) _ _ aA aA) ?_;rintro _ _ _ ⟨rfl,p,rfl,hp,rfl⟩;refine aL ?_)
  repeat refine yXh ?_
  refine fO (vs:=lW p) rfl rfl rfl (Ones.one p) jL (StAts.o0 (enc:=wT) (sz:=6) (ms:=os) (i:=(i:Int)) (some p) ⟨by omega,by omega⟩ rfl) rfl rfl ⟨okF,?_⟩
  repeat refine aB ?_
  refine dF (φ:=allT (st os (i:Int) (some p)) (ku+m+3)) (Hv.tSet aA aA) ?_
  refine gJ (3 - (i+1)) (⟨i+1,st os (i:Int) (some p),by omega,rfl,by rw [nY];exact hol,fun t ht=>by
   rw [oW (by omega) (by omega)]
   by_cases e:t=i
   ·subst e
    rw [if_pos rfl]
    exact ⟨p,rfl,hp⟩
   ·rw [if_neg e]
    exact ho t (by omega),rfl,rfl,rfl⟩)
 ·obtain rfl:i=3:=by omega
  obtain ⟨a,ha,hza⟩:=ho 0 (by omega)
  obtain ⟨b,hb,hzb⟩:=ho 1 (by omega)
  obtain ⟨c,hc,hzc⟩:=ho 2 (by omega)
  refine bH (φ:=aY a (ku+m+3)) (Hv.tAt (os:=os) (i:=((0:Nat):Int)) aA ⟨by omega,by omega⟩ ha) ?_
  refine bH (φ:=aY b (ku+m+3)) (Hv.tAt (os:=os) (i:=((1:Nat):Int)) aA ⟨by omega,by omega⟩ hb) ?_
  refine bH (φ:=aY c (ku+m+3)) (Hv.tAt (os:=os) (i:=((2:Nat):Int)) aA ⟨by omega,by omega⟩ hc) ?_
  have e3:recs wT os=recs lW [a,b,c]:=by rw [os3 hol,show gt os 0=some a from ha,show gt os 1=some b from hb,show gt os 2=some c from hc];rfl
  rw [e3]
  repeat refine aB ?_
  (apply bI;exact eY;exact rfl;exact aA;exact AtsZ.o0 (enc:=lW) (sz:=6) (ms:=[a,b,c]) (i:=0) ⟨by decide,by simp⟩;exact rfl;exact rfl)
  repeat refine aB ?_
  (apply bI;exact eY;exact rfl;exact aA;exact AtsZ.o0 (enc:=lW) (sz:=6) (ms:=[a,b,c]) (i:=1) ⟨by decide,by simp⟩;exact rfl;exact rfl)
  repeat refine aB ?_
  (apply bI;exact eY;exact rfl;exact aA;exact AtsZ.o0 (enc:=lW) (sz:=6) (ms:=[a,b,c]) (i:=2) ⟨by decide,by simp⟩;exact rfl;exact rfl)
  repeat refine aB ?_
  (refine aQ rfl (hR a b c _ _ aA aA aA) ?_;rintro _ _ _ ⟨rfl,rfl,rfl⟩;refine aL ?_)
  repeat refine aB ?_
  refine aT (cs:=vJ ⟨a,b,c⟩) (.inl rfl) rfl rfl aA rfl M0 (iV ⟨a,b,c⟩ (ku+m+3)::I0) aF aD ⟨rfl,⟨a,b,c⟩,rfl,by show (⟨a.t,b.t,c.t⟩:M9 Int)=_;rw [hza,hzb,hzc];rfl,rfl⟩
end
end Go.Proofs.YtmmmfphealhapaaGreat
