/- The common divisor; matrices reduced (package homography). -/
import Derived.Test.YtmmmfphealhapaaGreatZsaw
import Derived.Test.YtmmmfphealhapaaGreatZsax
import Derived.Test.YtmmmfphealhapaaGreatZsaj
import Derived.Test.YtmmmfphealhapaaGreatZsaq
set_option linter.unusedSimpArgs false
set_option linter.unusedVariables false
set_option maxRecDepth 100000
set_option maxHeartbeats 4000000
namespace Go.Proofs.YtmmmfphealhapaaGreat
open Go Go.Fx
theorem wH {es:List ZE} {i:Int} (hi:0≤i∧i < es.length):gt (es.map some) i=some (gt es i):=by
 obtain ⟨n,rfl⟩:∃n:Nat,i=(n:Int):=⟨i.toNat,by omega⟩
 rw [dP (by simp;omega),dP (by omega)]
 simp
theorem aWO {es:List ZE} {i:Int} {g:ZE}:(st es i g).map some=st (es.map some) i (some g):=by simp [st]
theorem es9 {es:List ZE} (h:es.length=9):es=[gt es 0,gt es 1,gt es 2,gt es 3,gt es 4,gt es 5,gt es 6,gt es 7,gt es 8]:=by
 match es,h with
 |[_,_,_,_,_,_,_,_,_],_=>rfl
abbrev HZ.l (h:HZ):List ZE:=[h.x.x,h.x.y,h.x.z,h.y.x,h.y.y,h.y.z,h.z.x,h.z.y,h.z.z]
theorem Hv.hAll {I:List aM} {h:HZ} {u:Nat} (hh:iV h u∈I):Hv I (oV (h.l.map some) u):=⟨fun X w hw=>⟨fun e he=>by
 have h1:IsHZ h u X w:=hw _ hh
 simp only [List.map_cons,List.map_nil,List.mem_cons,Option.some.injEq,List.not_mem_nil,or_false] at he
 rcases he with rfl|rfl|rfl|rfl|rfl|rfl|rfl|rfl|rfl
 ·exact h1.x.x
 ·exact h1.x.y
 ·exact h1.x.z
 ·exact h1.y.x
 ·exact h1.y.y
 ·exact h1.y.z
 ·exact h1.z.x
 ·exact h1.z.y
 ·exact h1.z.z⟩⟩
theorem Hv.ofAll {I:List aM} {a0 a1 a2 a3 a4 a5 a6 a7 a8:ZE} {u:Nat} (h:oV ([a0,a1,a2,a3,a4,a5,a6,a7,a8].map some) u∈I):Hv I (iV ⟨⟨a0,a1,a2⟩,⟨a3,a4,a5⟩,⟨a6,a7,a8⟩⟩ u):=⟨fun X w hw=>by
 have h1:AllO _ u X w:=hw _ h
 exact ⟨⟨h1.go _ (by simp),h1.go _ (by simp),h1.go _ (by simp)⟩,⟨h1.go _ (by simp),h1.go _ (by simp),h1.go _ (by simp)⟩,⟨h1.go _ (by simp),h1.go _ (by simp),h1.go _ (by simp)⟩⟩⟩
section
variable {X:List Nat} {w0:World} {M0:List Ent} {I0:List aM}
theorem NNeg {a:ZE} {k:Nat} (hk:k≤400000000000) (ha:jD a k∈I0):CD Tryz.prog 192 [nv a] X w0 M0 I0 (NQ (-a.z) k M0 I0):=CD.nq (aIA (by omega) ha)
theorem NGcd {a b:ZE} {k m:Nat} (hk:k≤400000000000) (hm:m≤400000000000) (ha:jD a k∈I0) (hb:jD b m∈I0):CD Tryz.prog 122 [nv a,nv b] X w0 M0 I0 (NQ (Int.gcd a.z b.z) (k+m) M0 I0):=CD.nq (aIW (by omega) (by omega) ha hb)
theorem NDiv {a b:ZE} {k m:Nat} (hk:k≤400000000000) (hm:m≤400000000000) (h0:b.z≠0) (ha:jD a k∈I0) (hb:jD b m∈I0):CD Tryz.prog 60 [nv a,nv b] X w0 M0 I0 (fun v M I=>M0=M∧∃q r:ZE,v= .tuple #[nv q,nv r, .int .i64 0]∧q.z=a.z.fdiv b.z∧I=jD q k::I0):=
 (aAX (by omega) (by omega) h0 ha hb).post (fun v M I w h hw=>by
  obtain ⟨rfl,v1,v2,rfl,rfl⟩:=h
  have h1:IsI v1 (a.z.fdiv b.z) k (muts M0) w:=(hw.imm _ (List.Mem.tail _ (List.Mem.head _))).2
  have h2:IsI v2 (a.z.fmod b.z) m (muts M0) w:=(hw.imm _ (List.Mem.head _)).2
  obtain ⟨q,c,rfl,_⟩:=h1.ex
  obtain ⟨q2,c2,rfl,_⟩:=h2.ex
  exact ⟨M0,_,⟨rfl,⟨_,q,c⟩,⟨_,q2,c2⟩,rfl,rfl,rfl⟩,hw.inc (Inc.wk Inc.refl)⟩)
theorem bBX {b:Nat} {es:List ZE} {u:Nat} {T:TypeId} (hu:u≤10000000000) (hl:es.length=9) (hm:Ent.blk b (recs eN es) T∈M0) (ha:oV (es.map some) u∈I0):
  CD Tryz.prog 113 [.slice (some ⟨b,0,none⟩) 9 9] X w0 M0 I0 (fun v M I=>M0=M∧∃(g:ZE) (ok:Bool),v= .tuple #[nv g, .bool ok]∧g.z=dvL (es.map ZE.z)∧ok=B (tH (es.map ZE.z)≠0)∧I=jD g (63+9*u)::I0):=by
 have hO:=fun M0 I0=>NOf (X:=X) (w0:=w0) (M0:=M0) (I0:=I0) (x:=0) (by decide)
 refine aX (φ:=oV (es.map some) u) (Hv.mem ha) ?_
 refine aS Tryz.func113 rfl Tryz.ntmps113 rfl ?_
 refine iH ?_
 refine dS (fun b2=>?_)
 repeat refine aB ?_
 (refine aQ rfl (hO _ _) ?_;rintro _ _ _ ⟨rfl,e0,rfl,he0,rfl⟩;refine aL ?_)
 refine dS (fun b4=>?_)
 repeat refine aB ?_
 refine bH (φ:=jD e0 (63+0*u)) (Hv.nUp (k:=63) (Hv.mem aA) (by omega)) ?_
 refine lV [2,4,9,10] rfl (fun k G M I=>∃(i:Nat) (g:ZE) (s:Int),i≤9∧k=9 - i∧g.z=(aBM ((es.map ZE.z).take i):Int)∧s=(tH ((es.map ZE.z).take i)).sign∧G=[(5, .int .i64 s),(11, .int .i64 i)]∧M= .blk b4 (eN g) 42:: .blk b2 zN 42::M0∧I=jD g (63+i*u)::oV (es.map some) u::I0) (9) (⟨0,e0,0,by omega,rfl,he0,rfl,rfl,rfl,rfl⟩) ?_
 rintro kk G M I ⟨i,g,s,hi,rfl,hg0,hs0,rfl,rfl,rfl⟩
 by_cases hii:i < 9
 ·have hmul:i*u≤9*u:=Nat.mul_le_mul_right _ hi
  obtain ⟨x,hx⟩:∃x,gt es (i:Int)=x:=⟨_,rfl⟩
  refine bH (φ:=jD x u) (Hv.oAt (os:=es.map some) (i:=(i:Int)) aA ⟨by omega,by rw [List.length_map];omega⟩ (by rw [wH ⟨by omega,by omega⟩,hx])) ?_
  have hG:=fun M0 I0 h1 h2=>NGcd (X:=X) (w0:=w0) (M0:=M0) (I0:=I0) (a:=g) (b:=x) (k:=63+i*u) (m:=u) (by omega) (by omega) h1 h2
  have e9:63+i*u+u=63+(i+1)*u:=by rw [Nat.succ_mul];omega
  rw [e9] at hG
  have hV:=fun M0 I0 h1=>rO (X:=X) (w0:=w0) (M0:=M0) (I0:=I0) (u:=nv x) (z:=x.z) (k:=u) (by omega) h1
  have hSg:=fun M0 I0 h1=>qB (X:=X) (w0:=w0) (M0:=M0) (I0:=I0) (u:=nv x) (z:=x.z) (k:=u) (by omega) h1
  repeat refine aB ?_
  rw [hx]
  refine dS (fun b7=>?_)
  repeat refine aB ?_
  refine dK rfl (hV _ _ aA) ?_
  repeat refine aB ?_
  (refine aQ rfl (hG _ _ aA aA) ?_;rintro _ _ _ ⟨rfl,g2,rfl,hg2,rfl⟩;refine aL ?_)
  have hzs:(es.map ZE.z).take (i+1)=(es.map ZE.z).take i++[x.z]:=by
   have hl9:i < (es.map ZE.z).length:=by rw [List.length_map];omega
   rw [←List.take_append_getElem hl9,List.getElem_map,←hx,dP (by omega)]
  have hg3:g2.z=(aBM ((es.map ZE.z).take (i+1)):Int):=by rw [hg2,hzs,aRL,hg0]
  by_cases hs:s=0
  ·repeat refine aB ?_
   refine dK rfl (hSg _ _ aA) ?_
   repeat refine aB ?_
   refine gJ (9 - (i+1)) (⟨i+1,g2,x.z.sign,by omega,rfl,hg3,by rw [hzs,aBO,if_pos (Int.sign_eq_zero_iff_zero.1 (hs0.symm.trans hs))],rfl,rfl,rfl⟩)
  ·repeat refine aB ?_
   refine gJ (9 - (i+1)) (⟨i+1,g2,s,by omega,rfl,hg3,by rw [hzs,aBO,if_neg (fun e=>hs (by rw [hs0,e];rfl))];exact hs0,rfl,rfl,rfl⟩)
 ·obtain rfl:i=9:=by omega
  rw [List.take_of_length_le (by rw [List.length_map];omega)] at hg0 hs0
  have hN:=fun M0 I0 h1=>NNeg (X:=X) (w0:=w0) (M0:=M0) (I0:=I0) (a:=g) (k:=63+9*u) (by omega) h1
  by_cases hs:s < 0
  ·repeat refine aB ?_
   (refine aQ rfl (hN _ _ aA) ?_;rintro _ _ _ ⟨rfl,g2,rfl,hg2,rfl⟩;refine aL ?_)
   repeat refine aB ?_
   refine fF (rs:=[.cell 2 42, .tmp 3]) (vs:=[nv g2, .bool (B (s≠0))]) (.inl rfl) rfl (.cellN (cs:=eN g2) inferInstance rfl aA rfl (.tmp rfl .nil)) rfl M0 (jD g2 (63+9*u)::I0) aF aD ⟨rfl,g2,_,rfl,by unfold dvL;rw [if_pos ((aPX _).1 (by rw [←hs0];exact hs)),hg2,hg0],iG (by rw [hs0];exact not_congr Int.sign_eq_zero_iff_zero),rfl⟩
  ·repeat refine aB ?_
   refine fF (rs:=[.cell 2 42, .tmp 3]) (vs:=[nv g, .bool (B (s≠0))]) (.inl rfl) rfl (.cellN (cs:=eN g) inferInstance rfl aA rfl (.tmp rfl .nil)) rfl M0 (jD g (63+9*u)::I0) aF aD ⟨rfl,g,_,rfl,by unfold dvL;rw [if_neg (fun e=>hs (by rw [hs0];exact (aPX _).2 e)),hg0],iG (by rw [hs0];exact not_congr Int.sign_eq_zero_iff_zero),rfl⟩
theorem aXT {b:Nat}:CD Tryz.prog 54 [.pointer (some ⟨b,0,none⟩)] X w0 M0 I0 (fun v M I=>M0=M∧I0=I∧v= .slice (some ⟨b,0,none⟩) 9 9):=by
 refine aS Tryz.func54 rfl Tryz.ntmps54 rfl ?_
 repeat refine aB ?_
 (refine aC rfl (fun _=>qW rfl) rfl rfl ?_)
 repeat refine aB ?_
 refine iA rfl rfl (⟨rfl,rfl,rfl⟩)
theorem bAO {h:HZ} {u:Nat} (hu:u≤10000000000) (hnz:∃x∈gN h.m,x≠0) (hh:iV h u∈I0):
  CD Tryz.prog 50 [hv9 h, .func (.func 54) #[] #[]] X w0 M0 I0 (fun v M I=>M0=M∧∃(h':HZ) (g:Int),v=hv9 h'∧g≠0∧(gN h'.m).map (fun x=>x*g)=gN h.m∧RedL (gN h'.m)∧I=iV h' u::I0):=by
 have hN:=fun (b:Nat) M0 I0=>aXT (X:=X) (w0:=w0) (M0:=M0) (I0:=I0) (b:=b)
 have hD:=fun (b:Nat) M0 I0 h1 h2=>bBX (X:=X) (w0:=w0) (M0:=M0) (I0:=I0) (b:=b) (es:=h.l) (u:=u) (T:=44) hu rfl h1 h2
 refine aX (φ:=iV h u) (Hv.mem hh) ?_
 refine aX (φ:=oV (h.l.map some) u) (Hv.hAll aA) ?_
 refine aN Tryz.func50 rfl Tryz.ntmps50 rfl ?_
 refine iH ?_
 refine gU rfl (fun b2=>?_)
 refine dS (fun b4=>?_)
 repeat refine aB ?_
 (refine eQ rfl rfl (hN b2 _ _) rfl rfl rfl ?_;rintro _ _ _ ⟨rfl,rfl,rfl⟩;refine aL ?_)
 repeat refine aB ?_
 (refine aQ rfl (hD b2 _ _ aA aA) ?_;rintro _ _ _ ⟨rfl,g,ok,rfl,hgd,_,rfl⟩;refine aL ?_)
 have hfl:h.l.map ZE.z=gN h.m:=rfl
 rw [hfl] at hgd
 have hgz:g.z≠0:=fun e=>by
  obtain ⟨x,hx,hx0⟩:=hnz
  exact hx0 (aXJ (hgd.symm.trans e) x hx)
 have hdv:∀j:Nat,j < 9→g.z ∣ (gt h.l (j:Int)).z:=fun j hj=>by
  rw [hgd]
  exact bAW (by rw [←hfl];exact List.mem_map_of_mem (bD ⟨by omega,by show (j:Int) < ((9:Nat):Int);omega⟩))
 repeat refine aB ?_
 refine dS (fun b6=>?_)
 repeat refine aB ?_
 refine lV [2,4,5,6,17,18] rfl (fun k G M I=>∃(i:Nat) (cur:List ZE),i≤9∧k=9 - i∧cur.length=9∧(∀j:Nat,j < i→(gt cur (j:Int)).z*g.z=(gt h.l (j:Int)).z)∧(∀j:Nat,i≤j→j < 9→gt cur (j:Int)=gt h.l (j:Int))∧G=[(19, .int .i64 i)]∧M= .blk b6 (eN g) 42:: .blk b4 z18 44:: .blk b2 (recs eN cur) 44::M0∧I=oV (cur.map some) u::jD g (63+9*u)::I0) (9) (⟨0,h.l,by omega,rfl,rfl,fun j hj=>absurd hj (by omega),fun j _ _=>rfl,rfl,rfl,rfl⟩) ?_
 rintro kk G M I ⟨i,cur,hi,rfl,hcl,hlo,hhi,rfl,rfl,rfl⟩
 by_cases hii:i < 9
 ·obtain ⟨x,hx⟩:∃x,gt cur (i:Int)=x:=⟨_,rfl⟩
  refine bH (φ:=jD x u) (Hv.oAt (os:=cur.map some) (i:=(i:Int)) aA ⟨by omega,by rw [List.length_map];omega⟩ (by rw [wH ⟨by omega,by omega⟩,hx])) ?_
  have hQ:=fun M0 I0 h1 h2=>NDiv (X:=X) (w0:=w0) (M0:=M0) (I0:=I0) (a:=x) (b:=g) (k:=u) (m:=63+9*u) (by omega) (by omega) hgz h1 h2
  repeat refine aB ?_
  rw [hx]
  refine dS (fun b9=>?_)
  repeat refine aB ?_
  (refine aQ rfl (hQ _ _ aA aA) ?_;rintro _ _ _ ⟨rfl,q,r,rfl,hq,rfl⟩;refine aL ?_)
  repeat refine yXh ?_
  refine fO (vs:=eN q) rfl rfl rfl (Ones.one q) jL (StAts.r (enc:=eN) (sz:=2) (ms:=cur) (i:=(i:Int)) q ⟨by omega,by omega⟩ rfl) rfl rfl ⟨okF,?_⟩
  repeat refine aB ?_
  refine dF (φ:=oV ((st cur (i:Int) q).map some) u) (by rw [aWO];exact Hv.oSet aA aA) ?_
  refine gJ (9 - (i+1)) (⟨i+1,st cur (i:Int) q,by omega,rfl,by rw [nY];exact hcl,fun t ht=>by
   rw [oW (by omega) (by omega)]
   by_cases e:t=i
   ·subst e
    rw [if_pos rfl,hq,←hhi t (Nat.le_refl _) hii,hx,Int.fdiv_mul_cancel (by rw [←hx,hhi t (Nat.le_refl _) hii];exact hdv t (by omega))]
   ·rw [if_neg e]
    exact hlo t (by omega),fun t ht h9=>by
   rw [oW (by omega) (by omega),if_neg (by omega)]
   exact hhi t (by omega) h9,rfl,rfl,rfl⟩)
 ·obtain rfl:i=9:=by omega
  have e9:=es9 hcl
  generalize gt cur 0=a0,gt cur 1=a1,gt cur 2=a2,gt cur 3=a3,gt cur 4=a4,gt cur 5=a5,gt cur 6=a6,gt cur 7=a7,gt cur 8=a8 at e9
  subst e9
  have hmm:(gN (HZ.m ⟨⟨a0,a1,a2⟩,⟨a3,a4,a5⟩,⟨a6,a7,a8⟩⟩)).map (fun x=>x*g.z)=gN h.m:=by
   show [a0.z*g.z,a1.z*g.z,a2.z*g.z,a3.z*g.z,a4.z*g.z,a5.z*g.z,a6.z*g.z,a7.z*g.z,a8.z*g.z]=[h.x.x.z,h.x.y.z,h.x.z.z,h.y.x.z,h.y.y.z,h.y.z.z,h.z.x.z,h.z.y.z,h.z.z.z]
   rw [show a0.z*g.z=h.x.x.z from hlo 0 (by omega),show a1.z*g.z=h.x.y.z from hlo 1 (by omega),show a2.z*g.z=h.x.z.z from hlo 2 (by omega),show a3.z*g.z=h.y.x.z from hlo 3 (by omega),show a4.z*g.z=h.y.y.z from hlo 4 (by omega),show a5.z*g.z=h.y.z.z from hlo 5 (by omega),show a6.z*g.z=h.z.x.z from hlo 6 (by omega),show a7.z*g.z=h.z.y.z from hlo 7 (by omega),show a8.z*g.z=h.z.z.z from hlo 8 (by omega)]
  refine bH (φ:=iV ⟨⟨a0,a1,a2⟩,⟨a3,a4,a5⟩,⟨a6,a7,a8⟩⟩ u) (Hv.ofAll aA) ?_
  repeat refine aB ?_
  refine aT (cs:=recs eN [a0,a1,a2,a3,a4,a5,a6,a7,a8]) (.inl rfl) rfl rfl aA rfl M0 (iV ⟨⟨a0,a1,a2⟩,⟨a3,a4,a5⟩,⟨a6,a7,a8⟩⟩ u::I0) aF aD ⟨rfl,⟨⟨a0,a1,a2⟩,⟨a3,a4,a5⟩,⟨a6,a7,a8⟩⟩,g.z,rfl,hgz,hmm,bEQ hnz (by rw [←hgd];exact hmm),rfl⟩
end
theorem AtsZ.o2 {α:Type} [Inhabited α] {enc:α→List Value} [hz:Sized enc 2] {ms:List α} {i j:Nat} (hi:3*i+j < ms.length):AtsZ (recs enc ms) (0+(i:Int).toNat*6+(j:Int).toNat*2) (enc (gt ms ((3*i+j:Nat):Int))) 2:=by
 have e:0+(i:Int).toNat*6+(j:Int).toNat*2=0+(((3*i+j:Nat):Int)).toNat*2:=by simp only [Int.toNat_natCast];omega
 rw [e]
 exact AtsZ.o0 ⟨by omega,by omega⟩
theorem StAts.o2 {α:Type} {enc:α→List Value} [hz:Sized enc 2] {ms:List α} {i j:Nat} {vs:List Value} (mm:α) (hi:3*i+j < ms.length) (hv:vs=enc mm):StAts (recs enc ms) (0+(i:Int).toNat*6+(j:Int).toNat*2) vs (recs enc (st ms ((3*i+j:Nat):Int) mm)):=by
 have e:0+(i:Int).toNat*6+(j:Int).toNat*2=0+(((3*i+j:Nat):Int)).toNat*2:=by simp only [Int.toNat_natCast];omega
 rw [e]
 exact StAts.o0 mm ⟨by omega,by omega⟩ hv
abbrev zK8:List Value:=recs wN [none,none,none,none]
structure QZ where
 p:TZ
 q:TZ
 r:TZ
 s:TZ
abbrev QZ.l (w:QZ):List TZ:=[w.p,w.q,w.r,w.s]
abbrev QZ.f (w:QZ):List ZE:=[w.p.x,w.p.y,w.p.z,w.q.x,w.q.y,w.q.z,w.r.x,w.r.y,w.r.z,w.s.x,w.s.y,w.s.z]
def QZ.t (w:QZ):P4 Int:=⟨w.p.t,w.q.t,w.r.t,w.s.t⟩
abbrev eQZ (w:QZ):List Value:=recs lW [w.p,w.q,w.r,w.s]
structure IsQZ (w:QZ) (k:Nat) (X:List Nat) (wd:World):Prop where
 p:IsTZ w.p k X wd
 q:IsTZ w.q k X wd
 r:IsTZ w.r k X wd
 s:IsTZ w.s k X wd
abbrev qZ (w:QZ) (k:Nat):aM:=IsQZ w k
instance (w:QZ) (k:Nat):Fx.Good (IsQZ w k):=⟨fun X Y w w' h he hY=>⟨Fx.Good.go (φ:=IsTZ _ _) X Y w w' h.p he hY,Fx.Good.go (φ:=IsTZ _ _) X Y w w' h.q he hY,Fx.Good.go (φ:=IsTZ _ _) X Y w w' h.r he hY,Fx.Good.go (φ:=IsTZ _ _) X Y w w' h.s he hY⟩⟩
theorem Hv.qp {I:List aM} {w:QZ} {k:Nat} (h:qZ w k∈I):Hv I (aY w.p k):=⟨fun X wd hw=>(hw _ h:IsQZ w k X wd).p⟩
theorem Hv.qq {I:List aM} {w:QZ} {k:Nat} (h:qZ w k∈I):Hv I (aY w.q k):=⟨fun X wd hw=>(hw _ h:IsQZ w k X wd).q⟩
theorem Hv.qr {I:List aM} {w:QZ} {k:Nat} (h:qZ w k∈I):Hv I (aY w.r k):=⟨fun X wd hw=>(hw _ h:IsQZ w k X wd).r⟩
theorem Hv.qs {I:List aM} {w:QZ} {k:Nat} (h:qZ w k∈I):Hv I (aY w.s k):=⟨fun X wd hw=>(hw _ h:IsQZ w k X wd).s⟩
theorem Hv.qAt {I:List aM} {w:QZ} {k i j:Nat} (h:qZ w k∈I) (hi:i < 4) (hj:j < 3):Hv I (jD (gt w.f ((3*i+j:Nat):Int)) k):=⟨fun X wd hw=>by
 have h1:IsQZ w k X wd:=hw _ h
 obtain ⟨⟨a0,a1,a2⟩,⟨b0,b1,b2⟩,⟨c0,c1,c2⟩,⟨d0,d1,d2⟩⟩:=h1
 obtain rfl|rfl|rfl|rfl:i=0∨i=1∨i=2∨i=3:=by omega
 all_goals obtain rfl|rfl|rfl:j=0∨j=1∨j=2:=by omega
 all_goals assumption⟩
structure KZ where
 a:ZE
 b:ZE
 c:ZE
 d:ZE
abbrev KZ.l (w:KZ):List ZE:=[w.a,w.b,w.c,w.d]
def colZ (K:KZ) (w:QZ) (i j:Nat):Int:=(gt K.l (i:Int)).z*(gt w.f ((3*i+j:Nat):Int)).z
def BasR (q:P4 Int) (u:Nat) (M0:List Ent) (I0:List aM) (v:Value) (M:List Ent) (I:List aM):Prop:=M0=M∧if colP q then (I0=I∧v= .tuple #[.agg z18.toArray, .bool false]) else ∃h:HZ,v= .tuple #[hv9 h, .bool true]∧h.m=q.bas∧I=iV h u::I0
section
variable {X:List Nat} {w0:World} {M0:List Ent} {I0:List aM}
theorem aGF {x y:Int} (hx: -32768≤x∧x≤32768) (hy: -32768≤y∧y≤32768):CD Tryz.prog 47 [.agg #[.int .i64 x, .int .i64 y]] X w0 M0 I0 (fun v M I=>M0=M∧I0=I∧v= .bool true):=by
 refine aS Tryz.func47 rfl Tryz.ntmps47 rfl ?_
 refine iH ?_
 refine gU rfl (fun b1=>?_)
 repeat refine aB ?_
 refine fB (M':=M0) (I':=I0) aF aD ?_
 refine iA rfl rfl (⟨rfl,rfl,congrArg Value.bool (bJ (by omega))⟩)
theorem aOS {x y:Int} (hx: -32768≤x∧x≤32768) (hy: -32768≤y∧y≤32768):CD Tryz.prog 48 [.agg #[.int .i64 x, .int .i64 y]] X w0 M0 I0 (VQ ⟨x,y,1⟩ 63 M0 I0):=by
 have hX:=fun M0 I0=>NOf (X:=X) (w0:=w0) (M0:=M0) (I0:=I0) (x:=x) (by omega)
 have hY:=fun M0 I0=>NOf (X:=X) (w0:=w0) (M0:=M0) (I0:=I0) (x:=y) (by omega)
 have hO:=fun M0 I0=>NOf (X:=X) (w0:=w0) (M0:=M0) (I0:=I0) (x:=1) (by omega)
 refine aS Tryz.func48 rfl Tryz.ntmps48 rfl ?_
 refine iH ?_
 refine gU rfl (fun b1=>?_)
 refine aI .here ?_
 refine dS (fun b2=>?_)
 repeat refine aB ?_
 (repeat refine aG ?_);refine qQ (M0) (aH (some ⟨b1,0,none⟩) [.int .i64 x, .int .i64 y]::I0) [0,1,3,4,2,5,6,7,8] [3,2,3,2,0,0,0,0,0] mixed ?_
 repeat refine aB ?_
 (refine aQ rfl (hX _ _) ?_;rintro _ _ _ ⟨rfl,a,rfl,ha,rfl⟩;refine aL ?_)
 (refine aQ rfl (hY _ _) ?_;rintro _ _ _ ⟨rfl,b,rfl,hb,rfl⟩;refine aL ?_)
 (refine aQ rfl (hO _ _) ?_;rintro _ _ _ ⟨rfl,c,rfl,hc,rfl⟩;refine aL ?_)
 refine cK (φ:=aY ⟨a,b,c⟩ 63) (Hv.mkZ aA aA aA) ?_
 (refine aC rfl (fun _=>dL (vals:=[nv a,nv b,nv c]) (cells:=lW ⟨a,b,c⟩) rfl ?hpl rfl ?hz) rfl rfl ?_;(case hpl=>exact (by intro v hv;repeat (first|exact absurd hv (List.not_mem_nil)|(rcases List.mem_cons.1 hv with rfl|hv; · rfl))));(case hz=>rfl))
 repeat refine aB ?_
 refine aT (cs:=lW ⟨a,b,c⟩) (.inl rfl) rfl rfl aA rfl M0 (aY ⟨a,b,c⟩ 63::I0) aF aD ⟨rfl,⟨a,b,c⟩,rfl,by show (⟨a.z,b.z,c.z⟩:T3 Int)=_;rw [ha,hb,hc],rfl⟩
theorem bAK {w:QZ} (hw:qZ w 63∈I0):CD Tryz.prog 49 [.agg (eQZ w).toArray] X w0 M0 I0 (BasR w.t 256 M0 I0):=by
 have hD:=fun (p q r:TZ) M0 I0 h1 h2 h3=>bAS (X:=X) (w0:=w0) (M0:=M0) (I0:=I0) (p:=p) (q:=q) (r:=r) (u:=63) (by omega) (by omega) h1 h2 h3
 have hR:=fun (p q r:TZ) M0 I0 h1 h2 h3=>zV (X:=X) (w0:=w0) (M0:=M0) (I0:=I0) (p:=p) (q:=q) (r:=r) (u:=256) h1 h2 h3
 have hT:=fun (h:HZ) M0 I0 h1=>aHZ (X:=X) (w0:=w0) (M0:=M0) (I0:=I0) (h:=h) (u:=256) h1
 refine aX (φ:=qZ w 63) (Hv.mem hw) (aX (φ:=aY w.p 63) (Hv.qp aA) (aX (φ:=aY w.q 63) (Hv.qq (w:=w) aA) (aX (φ:=aY w.r 63) (Hv.qr (w:=w) aA) (aX (φ:=aY w.s 63) (Hv.qs (w:=w) aA) ?_))))
 refine aS Tryz.func49 rfl Tryz.ntmps49 rfl ?_
 refine iH ?_
 refine gU rfl (fun b1=>?_)
 refine aI (cs:=eQZ w) .here ?_
 refine dS (fun b2=>?_)
 repeat refine aB ?_
 refine nJ (fun G M I=>∃(b4:Nat) (K:KZ),(K.a.z=w.t.k0∧K.b.z=w.t.k1∧K.c.z=w.t.k2∧K.d.z=w.t.k3)∧G=[(1, .pointer (some ⟨b1,0,none⟩)),(2, .pointer (some ⟨b2,0,none⟩)),(3, .bool false),(4, .pointer (some ⟨b4,0,none⟩))]∧M= .blk b4 (recs eN K.l) 163:: .blk b2 z18 44::M0∧I=jD K.a 193::jD K.b 193::jD K.c 193::jD K.d 193::aH (some ⟨b1,0,none⟩) (eQZ w)::qZ w 63::I0) ?_ ?_
 ·(repeat refine aG ?_)
  refine aKE (M0) (aH (some ⟨b1,0,none⟩) (eQZ w)::aY w.s 63::aY w.r 63::aY w.q 63::aY w.p 63::qZ w 63::I0) mixed (fun R hR=>?_)
  have n41:∀k0:ZE,k0.z=w.t.k0→∀k1:ZE,k1.z=w.t.k1→∀k2:ZE,k2.z=w.t.k2→∀k3:ZE,k3.z=w.t.k3→∀b4:Nat,ND 74 (R 2 5 #[true,true,true,true,true,true,true,true,true,true,true,true,true,true,true,true,true,true,true,true,true,true,true,true,true,true,true,true,false,true,false]) .normal [(35,nv k3),(28,nv k2),(21,nv k1),(14,nv k0),(4, .pointer (some ⟨b4,0,none⟩)),(9,dH w.s),(11,dH w.q),(13,dH w.r),(16,dH w.p),(18,dH w.s),(20,dH w.r),(23,dH w.p),(25,dH w.q),(27,dH w.s),(30,dH w.p),(32,dH w.q),(34,dH w.r),(1, .pointer (some ⟨b1,0,none⟩)),(2, .pointer (some ⟨b2,0,none⟩)),(3, .bool false)] X w0 (.blk b4 zK8 163:: .blk b2 z18 44::M0) (jD k3 193::jD k2 193::jD k1 193::jD k0 193::aH (some ⟨b1,0,none⟩) (eQZ w)::aY w.s 63::aY w.r 63::aY w.q 63::aY w.p 63::qZ w 63::I0):=by
   intro k0 hk0 k1 hk1 k2 hk2 k3 hk3 b4
   rw [hR]
   refine bL [28,30] [0,0] aF aD (by kernel_rfl) (by kernel_rfl) rfl rfl ?_
   (refine aC rfl (fun _=>dL (vals:=[nv k0,nv k1,nv k2,nv k3]) (cells:=recs eN [k0,k1,k2,k3]) rfl ?hpl rfl ?hz) rfl rfl ?_;(case hpl=>exact (by intro v hv;repeat (first|exact absurd hv (List.not_mem_nil)|(rcases List.mem_cons.1 hv with rfl|hv; · rfl))));(case hz=>rfl))
   repeat refine aB ?_
   refine yA ⟨b4,⟨k0,k1,k2,k3⟩,⟨hk0,hk1,hk2,hk3⟩,rfl,rfl,rfl⟩
  have n31:∀k0:ZE,k0.z=w.t.k0→∀k1:ZE,k1.z=w.t.k1→∀k2:ZE,k2.z=w.t.k2→∀b4:Nat,ND 74 (R 3 4 #[true,true,true,true,true,true,true,true,true,true,true,true,true,true,true,true,true,true,true,true,true,true,true,true,true,true,true,false,false,true,false]) .normal [(28,nv k2),(21,nv k1),(14,nv k0),(4, .pointer (some ⟨b4,0,none⟩)),(9,dH w.s),(11,dH w.q),(13,dH w.r),(16,dH w.p),(18,dH w.s),(20,dH w.r),(23,dH w.p),(25,dH w.q),(27,dH w.s),(30,dH w.p),(32,dH w.q),(34,dH w.r),(1, .pointer (some ⟨b1,0,none⟩)),(2, .pointer (some ⟨b2,0,none⟩)),(3, .bool false)] X w0 (.blk b4 zK8 163:: .blk b2 z18 44::M0) (jD k2 193::jD k1 193::jD k0 193::aH (some ⟨b1,0,none⟩) (eQZ w)::aY w.s 63::aY w.r 63::aY w.q 63::aY w.p 63::qZ w 63::I0):=by
   intro k0 hk0 k1 hk1 k2 hk2 b4
   rw [hR]
   refine dM (fuel:=2) (listed':=#[true,true,true,true,true,true,true,true,true,true,true,true,true,true,true,true,true,true,true,true,true,true,true,true,true,true,true,true,false,true,false]) [27] [0] aF aD (by kernel_rfl) (by kernel_rfl) rfl rfl ?_
   (refine aQ rfl (hD w.p w.q w.r _ _ aA aA aA) ?_;rintro _ _ _ ⟨rfl,k3,rfl,hk3,rfl⟩;refine aL ?_)
   refine bK ?_
   rw [←hR]
   exact kU dE aF aD (n41 k0 hk0 k1 hk1 k2 hk2 k3 hk3 b4)
  have n40:∀k0:ZE,k0.z=w.t.k0→∀k1:ZE,k1.z=w.t.k1→∀k2:ZE,k2.z=w.t.k2→∀k3:ZE,k3.z=w.t.k3→ND 74 (R 3 4 #[true,true,true,true,true,true,true,true,true,true,true,true,true,true,true,true,true,true,true,true,true,true,true,true,true,true,true,true,false,false,false]) .normal [(35,nv k3),(28,nv k2),(21,nv k1),(14,nv k0),(9,dH w.s),(11,dH w.q),(13,dH w.r),(16,dH w.p),(18,dH w.s),(20,dH w.r),(23,dH w.p),(25,dH w.q),(27,dH w.s),(30,dH w.p),(32,dH w.q),(34,dH w.r),(1, .pointer (some ⟨b1,0,none⟩)),(2, .pointer (some ⟨b2,0,none⟩)),(3, .bool false)] X w0 (.blk b2 z18 44::M0) (jD k3 193::jD k2 193::jD k1 193::jD k0 193::aH (some ⟨b1,0,none⟩) (eQZ w)::aY w.s 63::aY w.r 63::aY w.q 63::aY w.p 63::qZ w 63::I0):=by
   intro k0 hk0 k1 hk1 k2 hk2 k3 hk3
   rw [hR]
   refine dM (fuel:=1) (listed':=#[true,true,true,true,true,true,true,true,true,true,true,true,true,true,true,true,true,true,true,true,true,true,true,true,true,true,true,true,true,true,false]) [28,29] [1,0] aF aD (by kernel_rfl) (by kernel_rfl) rfl rfl ?_
   (refine aC rfl (fun _=>dL (vals:=[nv k0,nv k1,nv k2,nv k3]) (cells:=recs eN [k0,k1,k2,k3]) rfl ?hpl rfl ?hz) rfl rfl ?_;(case hpl=>exact (by intro v hv;repeat (first|exact absurd hv (List.not_mem_nil)|(rcases List.mem_cons.1 hv with rfl|hv; · rfl))));(case hz=>rfl))
   (refine aV (d:=4) rfl rfl ?_;intro b4;refine aL ?_)
   refine bK ?_
   refine bL [30] [0] aF aD (by kernel_rfl) (by kernel_rfl) rfl rfl ?_
   repeat refine aB ?_
   refine yA ⟨b4,⟨k0,k1,k2,k3⟩,⟨hk0,hk1,hk2,hk3⟩,rfl,rfl,rfl⟩
  have n21:∀k0:ZE,k0.z=w.t.k0→∀k1:ZE,k1.z=w.t.k1→∀b4:Nat,ND 74 (R 4 3 #[true,true,true,true,true,true,true,true,true,true,true,true,true,true,true,true,true,true,true,true,false,true,true,true,true,true,true,false,false,true,false]) .normal [(21,nv k1),(14,nv k0),(4, .pointer (some ⟨b4,0,none⟩)),(9,dH w.s),(11,dH w.q),(13,dH w.r),(16,dH w.p),(18,dH w.s),(20,dH w.r),(23,dH w.p),(25,dH w.q),(27,dH w.s),(30,dH w.p),(32,dH w.q),(34,dH w.r),(1, .pointer (some ⟨b1,0,none⟩)),(2, .pointer (some ⟨b2,0,none⟩)),(3, .bool false)] X w0 (.blk b4 zK8 163:: .blk b2 z18 44::M0) (jD k1 193::jD k0 193::aH (some ⟨b1,0,none⟩) (eQZ w)::aY w.s 63::aY w.r 63::aY w.q 63::aY w.p 63::qZ w 63::I0):=by
   intro k0 hk0 k1 hk1 b4
   rw [hR]
   refine dM (fuel:=3) (listed':=#[true,true,true,true,true,true,true,true,true,true,true,true,true,true,true,true,true,true,true,true,true,true,true,true,true,true,true,false,false,true,false]) [20] [0] aF aD (by kernel_rfl) (by kernel_rfl) rfl rfl ?_
   (refine aQ rfl (hD w.p w.q w.s _ _ aA aA aA) ?_;rintro _ _ _ ⟨rfl,k2,rfl,hk2,rfl⟩;refine aL ?_)
   refine bK ?_
   rw [←hR]
   exact kU dE aF aD (n31 k0 hk0 k1 hk1 k2 hk2 b4)
  have n30:∀k0:ZE,k0.z=w.t.k0→∀k1:ZE,k1.z=w.t.k1→∀k2:ZE,k2.z=w.t.k2→ND 74 (R 4 3 #[true,true,true,true,true,true,true,true,true,true,true,true,true,true,true,true,true,true,true,true,true,true,true,true,true,true,true,false,false,false,false]) .normal [(28,nv k2),(21,nv k1),(14,nv k0),(9,dH w.s),(11,dH w.q),(13,dH w.r),(16,dH w.p),(18,dH w.s),(20,dH w.r),(23,dH w.p),(25,dH w.q),(27,dH w.s),(30,dH w.p),(32,dH w.q),(34,dH w.r),(1, .pointer (some ⟨b1,0,none⟩)),(2, .pointer (some ⟨b2,0,none⟩)),(3, .bool false)] X w0 (.blk b2 z18 44::M0) (jD k2 193::jD k1 193::jD k0 193::aH (some ⟨b1,0,none⟩) (eQZ w)::aY w.s 63::aY w.r 63::aY w.q 63::aY w.p 63::qZ w 63::I0):=by
   intro k0 hk0 k1 hk1 k2 hk2
   rw [hR]
   refine bB (i:=27) (j:=29) (by kernel_rfl) ?_ ?_
   ·(refine aQ rfl (hD w.p w.q w.r _ _ aA aA aA) ?_;rintro _ _ _ ⟨rfl,k3,rfl,hk3,rfl⟩;refine aL ?_)
    refine bK ?_
    rw [←hR]
    exact kU dE aF aD (n40 k0 hk0 k1 hk1 k2 hk2 k3 hk3)
   ·(refine aV (d:=4) rfl rfl ?_;intro b4;refine aL ?_)
    refine bK ?_
    rw [←hR]
    exact kU dE aF aD (n31 k0 hk0 k1 hk1 k2 hk2 b4)
  have n11:∀k0:ZE,k0.z=w.t.k0→∀b4:Nat,ND 74 (R 5 2 #[true,true,true,true,true,true,true,true,true,true,true,true,true,false,true,true,true,true,true,true,false,true,true,true,true,true,true,false,false,true,false]) .normal [(14,nv k0),(4, .pointer (some ⟨b4,0,none⟩)),(9,dH w.s),(11,dH w.q),(13,dH w.r),(16,dH w.p),(18,dH w.s),(20,dH w.r),(23,dH w.p),(25,dH w.q),(27,dH w.s),(30,dH w.p),(32,dH w.q),(34,dH w.r),(1, .pointer (some ⟨b1,0,none⟩)),(2, .pointer (some ⟨b2,0,none⟩)),(3, .bool false)] X w0 (.blk b4 zK8 163:: .blk b2 z18 44::M0) (jD k0 193::aH (some ⟨b1,0,none⟩) (eQZ w)::aY w.s 63::aY w.r 63::aY w.q 63::aY w.p 63::qZ w 63::I0):=by
   intro k0 hk0 b4
   rw [hR]
   refine dM (fuel:=4) (listed':=#[true,true,true,true,true,true,true,true,true,true,true,true,true,true,true,true,true,true,true,true,false,true,true,true,true,true,true,false,false,true,false]) [13] [0] aF aD (by kernel_rfl) (by kernel_rfl) rfl rfl ?_
   (refine aQ rfl (hD w.p w.s w.r _ _ aA aA aA) ?_;rintro _ _ _ ⟨rfl,k1,rfl,hk1,rfl⟩;refine aL ?_)
   refine bK ?_
   rw [←hR]
   exact kU dE aF aD (n21 k0 hk0 k1 hk1 b4)
  have n20:∀k0:ZE,k0.z=w.t.k0→∀k1:ZE,k1.z=w.t.k1→ND 74 (R 5 2 #[true,true,true,true,true,true,true,true,true,true,true,true,true,true,true,true,true,true,true,true,false,true,true,true,true,true,true,false,false,false,false]) .normal [(21,nv k1),(14,nv k0),(9,dH w.s),(11,dH w.q),(13,dH w.r),(16,dH w.p),(18,dH w.s),(20,dH w.r),(23,dH w.p),(25,dH w.q),(27,dH w.s),(30,dH w.p),(32,dH w.q),(34,dH w.r),(1, .pointer (some ⟨b1,0,none⟩)),(2, .pointer (some ⟨b2,0,none⟩)),(3, .bool false)] X w0 (.blk b2 z18 44::M0) (jD k1 193::jD k0 193::aH (some ⟨b1,0,none⟩) (eQZ w)::aY w.s 63::aY w.r 63::aY w.q 63::aY w.p 63::qZ w 63::I0):=by
   intro k0 hk0 k1 hk1
   rw [hR]
   refine bB (i:=20) (j:=29) (by kernel_rfl) ?_ ?_
   ·(refine aQ rfl (hD w.p w.q w.s _ _ aA aA aA) ?_;rintro _ _ _ ⟨rfl,k2,rfl,hk2,rfl⟩;refine aL ?_)
    refine bK ?_
    rw [←hR]
    exact kU dE aF aD (n30 k0 hk0 k1 hk1 k2 hk2)
   ·(refine aV (d:=4) rfl rfl ?_;intro b4;refine aL ?_)
    refine bK ?_
    rw [←hR]
    exact kU dE aF aD (n21 k0 hk0 k1 hk1 b4)
  have n01:∀b4:Nat,ND 74 (R 6 1 #[true,true,true,true,true,true,false,true,true,true,true,true,true,false,true,true,true,true,true,true,false,true,true,true,true,true,true,false,false,true,false]) .normal [(4, .pointer (some ⟨b4,0,none⟩)),(9,dH w.s),(11,dH w.q),(13,dH w.r),(16,dH w.p),(18,dH w.s),(20,dH w.r),(23,dH w.p),(25,dH w.q),(27,dH w.s),(30,dH w.p),(32,dH w.q),(34,dH w.r),(1, .pointer (some ⟨b1,0,none⟩)),(2, .pointer (some ⟨b2,0,none⟩)),(3, .bool false)] X w0 (.blk b4 zK8 163:: .blk b2 z18 44::M0) (aH (some ⟨b1,0,none⟩) (eQZ w)::aY w.s 63::aY w.r 63::aY w.q 63::aY w.p 63::qZ w 63::I0):=by
   intro b4
   rw [hR]
   refine dM (fuel:=5) (listed':=#[true,true,true,true,true,true,true,true,true,true,true,true,true,false,true,true,true,true,true,true,false,true,true,true,true,true,true,false,false,true,false]) [6] [0] aF aD (by kernel_rfl) (by kernel_rfl) rfl rfl ?_
   (refine aQ rfl (hD w.s w.q w.r _ _ aA aA aA) ?_;rintro _ _ _ ⟨rfl,k0,rfl,hk0,rfl⟩;refine aL ?_)
   refine bK ?_
   rw [←hR]
   exact kU dE aF aD (n11 k0 hk0 b4)
  have n10:∀k0:ZE,k0.z=w.t.k0→ND 74 (R 6 1 #[true,true,true,true,true,true,true,true,true,true,true,true,true,false,true,true,true,true,true,true,false,true,true,true,true,true,true,false,false,false,false]) .normal [(14,nv k0),(9,dH w.s),(11,dH w.q),(13,dH w.r),(16,dH w.p),(18,dH w.s),(20,dH w.r),(23,dH w.p),(25,dH w.q),(27,dH w.s),(30,dH w.p),(32,dH w.q),(34,dH w.r),(1, .pointer (some ⟨b1,0,none⟩)),(2, .pointer (some ⟨b2,0,none⟩)),(3, .bool false)] X w0 (.blk b2 z18 44::M0) (jD k0 193::aH (some ⟨b1,0,none⟩) (eQZ w)::aY w.s 63::aY w.r 63::aY w.q 63::aY w.p 63::qZ w 63::I0):=by
   intro k0 hk0
   rw [hR]
   refine bB (i:=13) (j:=29) (by kernel_rfl) ?_ ?_
   ·(refine aQ rfl (hD w.p w.s w.r _ _ aA aA aA) ?_;rintro _ _ _ ⟨rfl,k1,rfl,hk1,rfl⟩;refine aL ?_)
    refine bK ?_
    rw [←hR]
    exact kU dE aF aD (n20 k0 hk0 k1 hk1)
   ·(refine aV (d:=4) rfl rfl ?_;intro b4;refine aL ?_)
    refine bK ?_
    rw [←hR]
    exact kU dE aF aD (n11 k0 hk0 b4)
  have n00:ND 74 (R 7 0 #[true,true,true,true,true,true,false,true,true,true,true,true,true,false,true,true,true,true,true,true,false,true,true,true,true,true,true,false,false,false,false]) .normal [(9,dH w.s),(11,dH w.q),(13,dH w.r),(16,dH w.p),(18,dH w.s),(20,dH w.r),(23,dH w.p),(25,dH w.q),(27,dH w.s),(30,dH w.p),(32,dH w.q),(34,dH w.r),(1, .pointer (some ⟨b1,0,none⟩)),(2, .pointer (some ⟨b2,0,none⟩)),(3, .bool false)] X w0 (.blk b2 z18 44::M0) (aH (some ⟨b1,0,none⟩) (eQZ w)::aY w.s 63::aY w.r 63::aY w.q 63::aY w.p 63::qZ w 63::I0):=by
   rw [hR]
   refine bB (i:=6) (j:=29) (by kernel_rfl) ?_ ?_
   ·(refine aQ rfl (hD w.s w.q w.r _ _ aA aA aA) ?_;rintro _ _ _ ⟨rfl,k0,rfl,hk0,rfl⟩;refine aL ?_)
    refine bK ?_
    rw [←hR]
    exact kU dE aF aD (n10 k0 hk0)
   ·(refine aV (d:=4) rfl rfl ?_;intro b4;refine aL ?_)
    refine bK ?_
    rw [←hR]
    exact kU dE aF aD (n01 b4)
  show ND 74 (R 31 0 #[false,false,false,false,false,false,false,false,false,false,false,false,false,false,false,false,false,false,false,false,false,false,false,false,false,false,false,false,false,false,false]) .normal _ X w0 _ _
  rw [hR]
  refine dM (fuel:=7) (listed':=#[true,true,true,true,true,true,false,true,true,true,true,true,true,false,true,true,true,true,true,true,false,true,true,true,true,true,true,false,false,false,false]) [0,1,2,3,4,5,7,8,9,10,11,12,14,15,16,17,18,19,21,22,23,24,25,26] [5,4,5,4,5,4,5,4,5,4,5,4,5,4,5,4,5,4,5,4,5,4,5,4] aF aD (by kernel_rfl) (by kernel_rfl) rfl rfl ?_
  repeat refine aB ?_
  (apply dW;exact eY;exact rfl;exact aA;exact AtsZ.o0 (enc:=lW) (sz:=6) (ms:=[w.p,w.q,w.r,w.s]) (i:=3) ⟨by decide,by simp⟩;exact rfl;exact rfl)
  repeat refine aB ?_
  (apply dW;exact eY;exact rfl;exact aA;exact AtsZ.o0 (enc:=lW) (sz:=6) (ms:=[w.p,w.q,w.r,w.s]) (i:=1) ⟨by decide,by simp⟩;exact rfl;exact rfl)
  repeat refine aB ?_
  (apply dW;exact eY;exact rfl;exact aA;exact AtsZ.o0 (enc:=lW) (sz:=6) (ms:=[w.p,w.q,w.r,w.s]) (i:=2) ⟨by decide,by simp⟩;exact rfl;exact rfl)
  repeat refine aB ?_
  (apply dW;exact eY;exact rfl;exact aA;exact AtsZ.o0 (enc:=lW) (sz:=6) (ms:=[w.p,w.q,w.r,w.s]) (i:=0) ⟨by decide,by simp⟩;exact rfl;exact rfl)
  repeat refine aB ?_
  (apply dW;exact eY;exact rfl;exact aA;exact AtsZ.o0 (enc:=lW) (sz:=6) (ms:=[w.p,w.q,w.r,w.s]) (i:=3) ⟨by decide,by simp⟩;exact rfl;exact rfl)
  repeat refine aB ?_
  (apply dW;exact eY;exact rfl;exact aA;exact AtsZ.o0 (enc:=lW) (sz:=6) (ms:=[w.p,w.q,w.r,w.s]) (i:=2) ⟨by decide,by simp⟩;exact rfl;exact rfl)
  repeat refine aB ?_
  (apply dW;exact eY;exact rfl;exact aA;exact AtsZ.o0 (enc:=lW) (sz:=6) (ms:=[w.p,w.q,w.r,w.s]) (i:=0) ⟨by decide,by simp⟩;exact rfl;exact rfl)
  repeat refine aB ?_
  (apply dW;exact eY;exact rfl;exact aA;exact AtsZ.o0 (enc:=lW) (sz:=6) (ms:=[w.p,w.q,w.r,w.s]) (i:=1) ⟨by decide,by simp⟩;exact rfl;exact rfl)
  repeat refine aB ?_
  (apply dW;exact eY;exact rfl;exact aA;exact AtsZ.o0 (enc:=lW) (sz:=6) (ms:=[w.p,w.q,w.r,w.s]) (i:=3) ⟨by decide,by simp⟩;exact rfl;exact rfl)
  repeat refine aB ?_
  (apply dW;exact eY;exact rfl;exact aA;exact AtsZ.o0 (enc:=lW) (sz:=6) (ms:=[w.p,w.q,w.r,w.s]) (i:=0) ⟨by decide,by simp⟩;exact rfl;exact rfl)
  repeat refine aB ?_
  (apply dW;exact eY;exact rfl;exact aA;exact AtsZ.o0 (enc:=lW) (sz:=6) (ms:=[w.p,w.q,w.r,w.s]) (i:=1) ⟨by decide,by simp⟩;exact rfl;exact rfl)
  repeat refine aB ?_
  (apply dW;exact eY;exact rfl;exact aA;exact AtsZ.o0 (enc:=lW) (sz:=6) (ms:=[w.p,w.q,w.r,w.s]) (i:=2) ⟨by decide,by simp⟩;exact rfl;exact rfl)
  repeat refine aB ?_
  rw [←hR]
  exact kU dE aF aD n00
 rintro G M I ⟨b4,K,⟨hk0,hk1,hk2,hk3⟩,rfl,rfl,rfl⟩
 have hKP:∀i:Nat,i < 4→((gt K.l (i:Int)).z=0→colP w.t):=fun i hi h=>by
  obtain rfl|rfl|rfl|rfl:i=0∨i=1∨i=2∨i=3:=by omega
  ·exact .inl (hk0.symm.trans h)
  ·exact .inr (.inl (hk1.symm.trans h))
  ·exact .inr (.inr (.inl (hk2.symm.trans h)))
  ·exact .inr (.inr (.inr (hk3.symm.trans h)))
 repeat refine aB ?_
 refine dS (fun b5=>?_)
 repeat refine aB ?_
 refine bH (φ:=oV [none,none,none,none,none,none,none,none,none] 256) (Hv.oNil (n:=9)) ?_
 refine bH (φ:=oV (K.l.map some) 193) ⟨fun X wd hw2=>⟨fun e he=>by
  simp only [List.map_cons,List.map_nil,List.mem_cons,Option.some.injEq,List.not_mem_nil,or_false] at he
  rcases he with rfl|rfl|rfl|rfl
  ·exact hw2 (jD K.a 193) aA
  ·exact hw2 (jD K.b 193) aA
  ·exact hw2 (jD K.c 193) aA
  ·exact hw2 (jD K.d 193) aA⟩⟩ ?_
 refine lV [1,2,4,5] rfl (fun k G M I=>∃(i:Nat) (os:List (Option ZE)),i≤4∧k=4 - i∧os.length=9∧(∀a b:Nat,a < i→a < 3→b < 3→∃e:ZE,gt os ((3*a+b:Nat):Int)=some e∧e.z=colZ K w a b)∧(∀a:Nat,a < i→(gt K.l (a:Int)).z≠0)∧G=[(37, .int .i64 i)]∧M= .blk b5 (recs wN os) 164:: .blk b4 (recs eN K.l) 163:: .blk b2 z18 44::M0∧I=oV os 256::oV (K.l.map some) 193::aH (some ⟨b1,0,none⟩) (eQZ w)::qZ w 63::I0) (4) (⟨0,[none,none,none,none,none,none,none,none,none],by omega,rfl,rfl,fun a b ha=>absurd ha (by omega),fun a ha=>absurd ha (by omega),rfl,rfl,rfl⟩) ?_
 rintro kk G M I ⟨i,os,hi,rfl,hol,ho,hnz,rfl,rfl,rfl⟩
 by_cases hii:i < 4
 ·obtain ⟨x,hx⟩:∃x,gt K.l (i:Int)=x:=⟨_,rfl⟩
  refine bH (φ:=jD x 193) (Hv.oAt (os:=K.l.map some) (i:=(i:Int)) aA ⟨by omega,by show (i:Int) < ((4:Nat):Int);omega⟩ (by rw [wH ⟨by omega,by show (i:Int) < ((4:Nat):Int);omega⟩,hx])) ?_
  have hSg:=fun M0 I0 h1=>qB (X:=X) (w0:=w0) (M0:=M0) (I0:=I0) (u:=nv x) (z:=x.z) (k:=193) (by omega) h1
  repeat refine aB ?_
  (apply bI;exact eY;exact rfl;exact aA;exact AtsZ.o0 (enc:=eN) (sz:=2) (ms:=K.l) (i:=(i:Int)) ⟨by omega,by show (i:Int) < ((4:Nat):Int);omega⟩;exact rfl;exact rfl)
  rw [hx]
  repeat refine aB ?_
  refine dK rfl (hSg _ _ aA) ?_
  by_cases hx0:x.z=0
  ·rw [show x.z.sign=0 by rw [hx0];rfl]
   repeat refine aB ?_
   (refine aC rfl (fun _=>tT (pvs:=[]) (cells:=z18) rfl rfl) rfl rfl ?_)
   repeat refine aB ?_
   refine fF (rs:=[.cell 2 44, .tmp 3]) (vs:=[.agg z18.toArray, .bool false]) (.inl rfl) rfl (.cellN (cs:=z18) inferInstance rfl aA rfl (.tmp rfl .nil)) rfl M0 I0 aF aD ⟨rfl,by rw [if_pos (hKP i hii (by rw [hx];exact hx0))];exact ⟨rfl,rfl⟩⟩
  ·have hsn:¬x.z.sign=0:=fun h=>hx0 (Int.sign_eq_zero_iff_zero.1 h)
   repeat refine aB ?_
   refine lV [1,2,4,5,6,37] rfl (fun k G M I=>∃(j:Nat) (os:List (Option ZE)),j≤3∧k=3 - j∧os.length=9∧(∀a b:Nat,(a < i∨(a=i∧b < j))→a < 3→b < 3→∃e:ZE,gt os ((3*a+b:Nat):Int)=some e∧e.z=colZ K w a b)∧G=[(46, .int .i64 j)]∧M= .blk b5 (recs wN os) 164:: .blk b4 (recs eN K.l) 163:: .blk b2 z18 44::M0∧I=oV os 256::jD x 193::oV (K.l.map some) 193::aH (some ⟨b1,0,none⟩) (eQZ w)::qZ w 63::I0) (3) (⟨0,os,by omega,rfl,hol,fun a b hab h3 hb=>ho a b (by omega) h3 hb,rfl,rfl,rfl⟩) ?_
   rintro kk G M I ⟨j,os2,hj,rfl,hol2,ho2,rfl,rfl,rfl⟩
   by_cases hjj:j < 3
   ·by_cases hi3:i < 3
    ·obtain ⟨y,hy⟩:∃y,gt w.f ((3*i+j:Nat):Int)=y:=⟨_,rfl⟩
     refine bH (φ:=jD y 63) (by rw [←hy];exact Hv.qAt aA hii hjj) ?_
     have hM:=fun M0 I0 h1 h2=>NMul (X:=X) (w0:=w0) (M0:=M0) (I0:=I0) (a:=x) (b:=y) (k:=193) (m:=63) (by omega) h1 h2
     repeat refine aB ?_
     (repeat refine aG ?_);refine qQ (.blk b4 (recs eN K.l) 163::M0) (aH (some ⟨b1,0,none⟩) (eQZ w)::I0) [0,1,2,3,4,5,6,7,8,9,11,10,12,13] [1,1,1,1,0,1,1,1,1,0,2,0,0,0] mixed ?_
     repeat refine aB ?_
     (apply bI;exact eY;exact rfl;exact aA;exact AtsZ.o0 (enc:=eN) (sz:=2) (ms:=K.l) (i:=(i:Int)) ⟨by omega,by show (i:Int) < ((4:Nat):Int);omega⟩;exact rfl;exact rfl)
     rw [hx]
     repeat refine aB ?_
     (apply dW;exact eY;exact rfl;exact aA;exact AtsZ.o2 (enc:=eN) (ms:=w.f) (i:=i) (j:=j) (by show 3*i+j < 12;omega);exact rfl;exact rfl)
     rw [hy]
     repeat refine aB ?_
     (refine aQ rfl (hM _ _ aA aA) ?_;rintro _ _ _ ⟨rfl,g,rfl,hg,rfl⟩;refine aL ?_)
     repeat refine yXh ?_
     refine fO (vs:=eN g) rfl rfl rfl (Ones.one g) jL (StAts.o2 (enc:=wN) (ms:=os2) (i:=i) (j:=j) (some g) (by omega) rfl) rfl rfl ⟨okF,?_⟩
     repeat refine aB ?_
     refine dF (φ:=oV (st os2 ((3*i+j:Nat):Int) (some g)) 256) (Hv.oSet aA aA) ?_
     refine gJ (3 - (j+1)) (⟨j+1,st os2 ((3*i+j:Nat):Int) (some g),by omega,rfl,by rw [nY];exact hol2,fun a b hab h3 hb=>by
      rw [oW (by omega) (by omega)]
      by_cases e:3*a+b=3*i+j
      ·obtain ⟨rfl,rfl⟩:a=i∧b=j:=by omega
       rw [if_pos rfl]
       exact ⟨g,rfl,by rw [hg];unfold colZ;rw [hx,hy]⟩
      ·rw [if_neg e]
       exact ho2 a b (by omega) h3 hb,rfl,rfl,rfl⟩)
    ·repeat refine aB ?_
     refine gJ (3 - (j+1)) (⟨j+1,os2,by omega,rfl,hol2,fun a b hab h3 hb=>ho2 a b (by omega) h3 hb,rfl,rfl,rfl⟩)
   ·obtain rfl:j=3:=by omega
    repeat refine aB ?_
    refine gJ (4 - (i+1)) (⟨i+1,os2,by omega,rfl,hol2,fun a b ha h3 hb=>ho2 a b (by omega) h3 hb,fun a ha=>by
     by_cases e:a=i
     ·subst e;rw [hx];exact hx0
     ·exact hnz a (by omega),rfl,rfl,rfl⟩)
 ·obtain rfl:i=4:=by omega
  have hnc:¬colP w.t:=fun h=>by
   rcases h with h|h|h|h
   ·exact hnz 0 (by omega) (hk0.trans h)
   ·exact hnz 1 (by omega) (hk1.trans h)
   ·exact hnz 2 (by omega) (hk2.trans h)
   ·exact hnz 3 (by omega) (hk3.trans h)
  obtain ⟨a0,ea0,za0⟩:=ho 0 0 (by omega) (by omega) (by omega)
  obtain ⟨a1,ea1,za1⟩:=ho 0 1 (by omega) (by omega) (by omega)
  obtain ⟨a2,ea2,za2⟩:=ho 0 2 (by omega) (by omega) (by omega)
  obtain ⟨c0,ec0,zc0⟩:=ho 1 0 (by omega) (by omega) (by omega)
  obtain ⟨c1,ec1,zc1⟩:=ho 1 1 (by omega) (by omega) (by omega)
  obtain ⟨c2,ec2,zc2⟩:=ho 1 2 (by omega) (by omega) (by omega)
  obtain ⟨d0,ed0,zd0⟩:=ho 2 0 (by omega) (by omega) (by omega)
  obtain ⟨d1,ed1,zd1⟩:=ho 2 1 (by omega) (by omega) (by omega)
  obtain ⟨d2,ed2,zd2⟩:=ho 2 2 (by omega) (by omega) (by omega)
  have eos:os=[some a0,some a1,some a2,some c0,some c1,some c2,some d0,some d1,some d2]:=by
   match os,hol with
   |[x0,x1,x2,x3,x4,x5,x6,x7,x8],_=>
    have h0:x0=some a0:=ea0
    have h1:x1=some a1:=ea1
    have h2:x2=some a2:=ea2
    have h3:x3=some c0:=ec0
    have h4:x4=some c1:=ec1
    have h5:x5=some c2:=ec2
    have h6:x6=some d0:=ed0
    have h7:x7=some d1:=ed1
    have h8:x8=some d2:=ed2
    rw [h0,h1,h2,h3,h4,h5,h6,h7,h8]
  subst eos
  have hZ:=fun (a b c:ZE) (ha:some a∈[some a0,some a1,some a2,some c0,some c1,some c2,some d0,some d1,some d2]) (hb:some b∈[some a0,some a1,some a2,some c0,some c1,some c2,some d0,some d1,some d2]) (hc:some c∈[some a0,some a1,some a2,some c0,some c1,some c2,some d0,some d1,some d2]) (I:List aM) (h:oV [some a0,some a1,some a2,some c0,some c1,some c2,some d0,some d1,some d2] 256∈I)=>(⟨fun X wd hw2=>⟨(hw2 _ h:AllO _ _ X wd).go a ha,(hw2 _ h:AllO _ _ X wd).go b hb,(hw2 _ h:AllO _ _ X wd).go c hc⟩⟩:Hv I (aY ⟨a,b,c⟩ 256))
  refine bH (φ:=aY ⟨a0,a1,a2⟩ 256) (hZ a0 a1 a2 (by simp) (by simp) (by simp) _ aA) ?_
  refine bH (φ:=aY ⟨c0,c1,c2⟩ 256) (hZ c0 c1 c2 (by simp) (by simp) (by simp) _ aA) ?_
  refine bH (φ:=aY ⟨d0,d1,d2⟩ 256) (hZ d0 d1 d2 (by simp) (by simp) (by simp) _ aA) ?_
  have e3:recs wN [some a0,some a1,some a2,some c0,some c1,some c2,some d0,some d1,some d2]=recs lW [⟨a0,a1,a2⟩,⟨c0,c1,c2⟩,⟨d0,d1,d2⟩]:=rfl
  rw [e3]
  repeat refine aB ?_
  (apply bI;exact eY;exact rfl;exact aA;exact AtsZ.o0 (enc:=lW) (sz:=6) (ms:=[⟨a0,a1,a2⟩,⟨c0,c1,c2⟩,⟨d0,d1,d2⟩]) (i:=0) ⟨by decide,by simp⟩;exact rfl;exact rfl)
  repeat refine aB ?_
  (apply bI;exact eY;exact rfl;exact aA;exact AtsZ.o0 (enc:=lW) (sz:=6) (ms:=[⟨a0,a1,a2⟩,⟨c0,c1,c2⟩,⟨d0,d1,d2⟩]) (i:=1) ⟨by decide,by simp⟩;exact rfl;exact rfl)
  repeat refine aB ?_
  (apply bI;exact eY;exact rfl;exact aA;exact AtsZ.o0 (enc:=lW) (sz:=6) (ms:=[⟨a0,a1,a2⟩,⟨c0,c1,c2⟩,⟨d0,d1,d2⟩]) (i:=2) ⟨by decide,by simp⟩;exact rfl;exact rfl)
  repeat refine aB ?_
  (refine aQ rfl (hR ⟨a0,a1,a2⟩ ⟨c0,c1,c2⟩ ⟨d0,d1,d2⟩ _ _ aA aA aA) ?_;rintro _ _ _ ⟨rfl,rfl,rfl⟩;refine aL ?_)
  (refine aQ rfl (hT ⟨⟨a0,a1,a2⟩,⟨c0,c1,c2⟩,⟨d0,d1,d2⟩⟩ _ _ aA) ?_;rintro _ _ _ ⟨rfl,rfl,rfl⟩;refine aL ?_)
  repeat refine aB ?_
  refine fF (rs:=[.cell 2 44, .tmp 3]) (vs:=[hv9 (HZ.tr ⟨⟨a0,a1,a2⟩,⟨c0,c1,c2⟩,⟨d0,d1,d2⟩⟩), .bool true]) (.inl rfl) rfl (.cellN (cs:=vJ (HZ.tr ⟨⟨a0,a1,a2⟩,⟨c0,c1,c2⟩,⟨d0,d1,d2⟩⟩)) inferInstance rfl aA rfl (.tmp rfl .nil)) rfl M0 (iV (HZ.tr ⟨⟨a0,a1,a2⟩,⟨c0,c1,c2⟩,⟨d0,d1,d2⟩⟩) 256::I0) aF aD ⟨rfl,by
   rw [if_neg hnc]
   refine ⟨_,rfl,?_,rfl⟩
   have q0:(⟨a0,a1,a2⟩:TZ).t=w.p.t.smul w.t.k0:=by show (⟨a0.z,a1.z,a2.z⟩:T3 Int)=_;rw [za0,za1,za2,←hk0];rfl
   have q1:(⟨c0,c1,c2⟩:TZ).t=w.q.t.smul w.t.k1:=by show (⟨c0.z,c1.z,c2.z⟩:T3 Int)=_;rw [zc0,zc1,zc2,←hk1];rfl
   have q2:(⟨d0,d1,d2⟩:TZ).t=w.r.t.smul w.t.k2:=by show (⟨d0.z,d1.z,d2.z⟩:T3 Int)=_;rw [zd0,zd1,zd2,←hk2];rfl
   rw [HZ.tr_m]
   show (M9.mk (⟨a0,a1,a2⟩:TZ).t (⟨c0,c1,c2⟩:TZ).t (⟨d0,d1,d2⟩:TZ).t).tr=_
   rw [q0,q1,q2]
   rfl⟩
end
end Go.Proofs.YtmmmfphealhapaaGreat
