/- The common divisor; matrices reduced (package homography). -/
import Derived.Test.YtmmmfphealhapaaGreatZtas
import Derived.Test.YtmmmfphealhapaaGreatZtag
import Derived.Test.YtmmmfphealhapaaGreatZtal
import Derived.Test.YtmmmfphealhapaaGreatZtah
import Derived.Test.YtmmmfphealhapaaGreatZtap
import Derived.Test.YtmmmfphealhapaaGreatZtaj
import Derived.Test.YtmmmfphealhapaaGreatZtar
import Derived.Test.YtmmmfphealhapaaGreatZtam
set_option linter.unusedSimpArgs false
set_option linter.unusedVariables false
set_option maxRecDepth 100000
set_option maxHeartbeats 4000000
namespace Go.Proofs.YtmmmfphealhapaaGreat
open Go Go.Fx
theorem xM {es:List ZE} {i:Int} (hi:0≤i∧i < es.length):gt (es.map some) i=some (gt es i):=by
 obtain ⟨n,rfl⟩:∃n:Nat,i=(n:Int):=⟨i.toNat,by omega⟩
 rw [dP (by simp;omega),dP (by omega)]
 simp
theorem aWZ {es:List ZE} {i:Int} {g:ZE}:(st es i g).map some=st (es.map some) i (some g):=by simp [st]
theorem es9 {es:List ZE} (h:es.length=9):es=[gt es 0,gt es 1,gt es 2,gt es 3,gt es 4,gt es 5,gt es 6,gt es 7,gt es 8]:=by
 match es,h with
 |[_,_,_,_,_,_,_,_,_],_=>rfl
abbrev HZ.l (h:HZ):List ZE:=[h.x.x,h.x.y,h.x.z,h.y.x,h.y.y,h.y.z,h.z.x,h.z.y,h.z.z]
theorem Hv.hAll {I:List aL} {h:HZ} {u:Nat} (hh:iY h u∈I):Hv I (pJ (h.l.map some) u):=⟨fun X w hw=>⟨fun e he=>by
 have h1:IsHZ h u X w:=hw _ hh
 simp only [List.map_cons,List.map_nil,List.mem_cons,Option.some.injEq,List.not_mem_nil,or_false] at he
 rcases he with rfl|rfl|rfl|rfl|rfl|rfl|rfl|rfl|rfl
 ·exact h1.x.x
 ·exact h1.x.y
 ·exact h1.x.z
 ·exact h1.y.x
 ·exact h1.y.y
 ·exact h1.y.z
 ·exact h1.z.x
 ·exact h1.z.y
 ·exact h1.z.z⟩⟩
theorem Hv.ofAll {I:List aL} {a0 a1 a2 a3 a4 a5 a6 a7 a8:ZE} {u:Nat} (h:pJ ([a0,a1,a2,a3,a4,a5,a6,a7,a8].map some) u∈I):Hv I (iY ⟨⟨a0,a1,a2⟩,⟨a3,a4,a5⟩,⟨a6,a7,a8⟩⟩ u):=⟨fun X w hw=>by
 have h1:AllO _ u X w:=hw _ h
 exact ⟨⟨h1.go _ (by simp),h1.go _ (by simp),h1.go _ (by simp)⟩,⟨h1.go _ (by simp),h1.go _ (by simp),h1.go _ (by simp)⟩,⟨h1.go _ (by simp),h1.go _ (by simp),h1.go _ (by simp)⟩⟩⟩
section
variable {X:List Nat} {w0:World} {M0:List Ent} {I0:List aL}
theorem NNeg {a:ZE} {k:Nat} (hk:k≤400000000000) (ha:jF a k∈I0):CD Tryz.prog 192 [nv a] X w0 M0 I0 (NQ (-a.z) k M0 I0):=CD.nq (aJO (by omega) ha)
theorem NGcd {a b:ZE} {k m:Nat} (hk:k≤400000000000) (hm:m≤400000000000) (ha:jF a k∈I0) (hb:jF b m∈I0):CD Tryz.prog 122 [nv a,nv b] X w0 M0 I0 (NQ (Int.gcd a.z b.z) (k+m) M0 I0):=CD.nq (aIL (by omega) (by omega) ha hb)
theorem NDiv {a b:ZE} {k m:Nat} (hk:k≤400000000000) (hm:m≤400000000000) (h0:b.z≠0) (ha:jF a k∈I0) (hb:jF b m∈I0):CD Tryz.prog 60 [nv a,nv b] X w0 M0 I0 (fun v M I=>M0=M∧∃q r:ZE,v= .tuple #[nv q,nv r, .int .i64 0]∧q.z=a.z.fdiv b.z∧I=jF q k::I0):=
 (aBP (by omega) (by omega) h0 ha hb).post (fun v M I w h hw=>by
  obtain ⟨rfl,v1,v2,rfl,rfl⟩:=h
  have h1:IsI v1 (a.z.fdiv b.z) k (muts M0) w:=(hw.imm _ (List.Mem.tail _ (List.Mem.head _))).2
  have h2:IsI v2 (a.z.fmod b.z) m (muts M0) w:=(hw.imm _ (List.Mem.head _)).2
  obtain ⟨q,c,rfl,_⟩:=h1.ex
  obtain ⟨q2,c2,rfl,_⟩:=h2.ex
  exact ⟨M0,_,⟨rfl,⟨_,q,c⟩,⟨_,q2,c2⟩,rfl,rfl,rfl⟩,hw.inc (Inc.wk Inc.refl)⟩)
theorem bCZ {b:Nat} {es:List ZE} {u:Nat} {T:TypeId} (hu:u≤10000000000) (hl:es.length=9) (hm:Ent.blk b (recs eN es) T∈M0) (ha:pJ (es.map some) u∈I0):
  CD Tryz.prog 113 [.slice (some ⟨b,0,none⟩) 9 9] X w0 M0 I0 (fun v M I=>M0=M∧∃(g:ZE) (ok:Bool),v= .tuple #[nv g, .bool ok]∧g.z=dvL (es.map ZE.z)∧ok=B (tT (es.map ZE.z)≠0)∧I=jF g (63+9*u)::I0):=by
 have hO:=fun M0 I0=>NOf (X:=X) (w0:=w0) (M0:=M0) (I0:=I0) (x:=0) (by decide)
 refine aV (φ:=pJ (es.map some) u) (Hv.mem ha) ?_
 refine aR Tryz.func113 rfl Tryz.ntmps113 rfl ?_
 refine gG ?_
 refine cK (fun b2=>?_)
 repeat refine aB ?_
 (refine bD rfl (hO _ _) ?_;rintro _ _ _ ⟨rfl,e0,rfl,he0,rfl⟩;refine aN ?_)
 refine cK (fun b4=>?_)
 repeat refine aB ?_
 refine bG (φ:=jF e0 (63+0*u)) (Hv.nUp (k:=63) (Hv.mem aA) (by omega)) ?_
 refine lX [2,4,9,10] rfl (fun k G M I=>∃(i:Nat) (g:ZE) (s:Int),i≤9∧k=9 - i∧g.z=(aBK ((es.map ZE.z).take i):Int)∧s=(tT ((es.map ZE.z).take i)).sign∧G=[(5, .int .i64 s),(11, .int .i64 i)]∧M= .blk b4 (eN g) 42:: .blk b2 zN 42::M0∧I=jF g (63+i*u)::pJ (es.map some) u::I0) (9) (⟨0,e0,0,by omega,rfl,he0,rfl,rfl,rfl,rfl⟩) ?_
 rintro kk G M I ⟨i,g,s,hi,rfl,hg0,hs0,rfl,rfl,rfl⟩
 by_cases hii:i < 9
 ·have hmul:i*u≤9*u:=Nat.mul_le_mul_right _ hi
  obtain ⟨x,hx⟩:∃x,gt es (i:Int)=x:=⟨_,rfl⟩
  refine bG (φ:=jF x u) (Hv.oAt (os:=es.map some) (i:=(i:Int)) aA ⟨by omega,by rw [List.length_map];omega⟩ (by rw [xM ⟨by omega,by omega⟩,hx])) ?_
  have hG:=fun M0 I0 h1 h2=>NGcd (X:=X) (w0:=w0) (M0:=M0) (I0:=I0) (a:=g) (b:=x) (k:=63+i*u) (m:=u) (by omega) (by omega) h1 h2
  have e9:63+i*u+u=63+(i+1)*u:=by rw [Nat.succ_mul];omega
  rw [e9] at hG
  have hV:=fun M0 I0 h1=>rY (X:=X) (w0:=w0) (M0:=M0) (I0:=I0) (u:=nv x) (z:=x.z) (k:=u) (by omega) h1
  have hSg:=fun M0 I0 h1=>qG (X:=X) (w0:=w0) (M0:=M0) (I0:=I0) (u:=nv x) (z:=x.z) (k:=u) (by omega) h1
  repeat refine aB ?_
  rw [hx]
  refine cK (fun b7=>?_)
  repeat refine aB ?_
  refine dH rfl (hV _ _ aA) ?_
  repeat refine aB ?_
  (refine bD rfl (hG _ _ aA aA) ?_;rintro _ _ _ ⟨rfl,g2,rfl,hg2,rfl⟩;refine aN ?_)
  have hzs:(es.map ZE.z).take (i+1)=(es.map ZE.z).take i++[x.z]:=by
   have hl9:i < (es.map ZE.z).length:=by rw [List.length_map];omega
   rw [←List.take_append_getElem hl9,List.getElem_map,←hx,dP (by omega)]
  have hg3:g2.z=(aBK ((es.map ZE.z).take (i+1)):Int):=by rw [hg2,hzs,aTR,hg0]
  by_cases hs:s=0
  ·repeat refine aB ?_
   refine dH rfl (hSg _ _ aA) ?_
   repeat refine aB ?_
   refine gL (9 - (i+1)) (⟨i+1,g2,x.z.sign,by omega,rfl,hg3,by rw [hzs,aBV,if_pos (Int.sign_eq_zero_iff_zero.1 (hs0.symm.trans hs))],rfl,rfl,rfl⟩)
  ·repeat refine aB ?_
   refine gL (9 - (i+1)) (⟨i+1,g2,s,by omega,rfl,hg3,by rw [hzs,aBV,if_neg (fun e=>hs (by rw [hs0,e];rfl))];exact hs0,rfl,rfl,rfl⟩)
 ·obtain rfl:i=9:=by omega
  rw [List.take_of_length_le (by rw [List.length_map];omega)] at hg0 hs0
  have hN:=fun M0 I0 h1=>NNeg (X:=X) (w0:=w0) (M0:=M0) (I0:=I0) (a:=g) (k:=63+9*u) (by omega) h1
  by_cases hs:s < 0
  ·repeat refine aB ?_
   (refine bD rfl (hN _ _ aA) ?_;rintro _ _ _ ⟨rfl,g2,rfl,hg2,rfl⟩;refine aN ?_)
   repeat refine aB ?_
   refine dW (rs:=[.cell 2 42, .tmp 3]) (vs:=[nv g2, .bool (B (s≠0))]) (.inl rfl) rfl (.cellN (cs:=eN g2) inferInstance rfl aA rfl (.tmp rfl .nil)) rfl M0 (jF g2 (63+9*u)::I0) aF aC ⟨rfl,g2,_,rfl,by unfold dvL;rw [if_pos ((aQD _).1 (by rw [←hs0];exact hs)),hg2,hg0],iZ (by rw [hs0];exact not_congr Int.sign_eq_zero_iff_zero),rfl⟩
  ·repeat refine aB ?_
   refine dW (rs:=[.cell 2 42, .tmp 3]) (vs:=[nv g, .bool (B (s≠0))]) (.inl rfl) rfl (.cellN (cs:=eN g) inferInstance rfl aA rfl (.tmp rfl .nil)) rfl M0 (jF g (63+9*u)::I0) aF aC ⟨rfl,g,_,rfl,by unfold dvL;rw [if_neg (fun e=>hs (by rw [hs0];exact (aQD _).2 e)),hg0],iZ (by rw [hs0];exact not_congr Int.sign_eq_zero_iff_zero),rfl⟩
theorem aYI {b:Nat}:CD Tryz.prog 54 [.pointer (some ⟨b,0,none⟩)] X w0 M0 I0 (fun v M I=>M0=M∧I0=I∧v= .slice (some ⟨b,0,none⟩) 9 9):=by
 refine aR Tryz.func54 rfl Tryz.ntmps54 rfl ?_
 repeat refine aB ?_
 (refine aD rfl (fun _=>rF rfl) rfl rfl ?_)
 repeat refine aB ?_
 refine iR rfl rfl (⟨rfl,rfl,rfl⟩)
theorem bBS {h:HZ} {u:Nat} (hu:u≤10000000000) (hnz:∃x∈fA h.m,x≠0) (hh:iY h u∈I0):
  CD Tryz.prog 50 [hv9 h, .func (.func 54) #[] #[]] X w0 M0 I0 (fun v M I=>M0=M∧∃(h':HZ) (g:Int),v=hv9 h'∧g≠0∧(fA h'.m).map (fun x=>x*g)=fA h.m∧RedL (fA h'.m)∧I=iY h' u::I0):=by
 have hN:=fun (b:Nat) M0 I0=>aYI (X:=X) (w0:=w0) (M0:=M0) (I0:=I0) (b:=b)
 have hD:=fun (b:Nat) M0 I0 h1 h2=>bCZ (X:=X) (w0:=w0) (M0:=M0) (I0:=I0) (b:=b) (es:=h.l) (u:=u) (T:=44) hu rfl h1 h2
 refine aV (φ:=iY h u) (Hv.mem hh) ?_
 refine aV (φ:=pJ (h.l.map some) u) (Hv.hAll aA) ?_
 refine aM Tryz.func50 rfl Tryz.ntmps50 rfl ?_
 refine gG ?_
 refine gN rfl (fun b2=>?_)
 refine cK (fun b4=>?_)
 repeat refine aB ?_
 (refine dJ rfl rfl (hN b2 _ _) rfl rfl rfl ?_;rintro _ _ _ ⟨rfl,rfl,rfl⟩;refine aN ?_)
 repeat refine aB ?_
 (refine bD rfl (hD b2 _ _ aA aA) ?_;rintro _ _ _ ⟨rfl,g,ok,rfl,hgd,_,rfl⟩;refine aN ?_)
 have hfl:h.l.map ZE.z=fA h.m:=rfl
 rw [hfl] at hgd
 have hgz:g.z≠0:=fun e=>by
  obtain ⟨x,hx,hx0⟩:=hnz
  exact hx0 (aZM (hgd.symm.trans e) x hx)
 have hdv:∀j:Nat,j < 9→g.z ∣ (gt h.l (j:Int)).z:=fun j hj=>by
  rw [hgd]
  exact bAK (by rw [←hfl];exact List.mem_map_of_mem (bF ⟨by omega,by show (j:Int) < ((9:Nat):Int);omega⟩))
 repeat refine aB ?_
 refine cK (fun b6=>?_)
 repeat refine aB ?_
 refine lX [2,4,5,6,17,18] rfl (fun k G M I=>∃(i:Nat) (cur:List ZE),i≤9∧k=9 - i∧cur.length=9∧(∀j:Nat,j < i→(gt cur (j:Int)).z*g.z=(gt h.l (j:Int)).z)∧(∀j:Nat,i≤j→j < 9→gt cur (j:Int)=gt h.l (j:Int))∧G=[(19, .int .i64 i)]∧M= .blk b6 (eN g) 42:: .blk b4 z18 44:: .blk b2 (recs eN cur) 44::M0∧I=pJ (cur.map some) u::jF g (63+9*u)::I0) (9) (⟨0,h.l,by omega,rfl,rfl,fun j hj=>absurd hj (by omega),fun j _ _=>rfl,rfl,rfl,rfl⟩) ?_
 rintro kk G M I ⟨i,cur,hi,rfl,hcl,hlo,hhi,rfl,rfl,rfl⟩
 by_cases hii:i < 9
 ·obtain ⟨x,hx⟩:∃x,gt cur (i:Int)=x:=⟨_,rfl⟩
  refine bG (φ:=jF x u) (Hv.oAt (os:=cur.map some) (i:=(i:Int)) aA ⟨by omega,by rw [List.length_map];omega⟩ (by rw [xM ⟨by omega,by omega⟩,hx])) ?_
  have hQ:=fun M0 I0 h1 h2=>NDiv (X:=X) (w0:=w0) (M0:=M0) (I0:=I0) (a:=x) (b:=g) (k:=u) (m:=63+9*u) (by omega) (by omega) hgz h1 h2
  repeat refine aB ?_
  rw [hx]
  refine cK (fun b9=>?_)
  repeat refine aB ?_
  (refine bD rfl (hQ _ _ aA aA) ?_;rintro _ _ _ ⟨rfl,q,r,rfl,hq,rfl⟩;refine aN ?_)
  repeat refine yXh ?_
  refine fJ (vs:=eN q) rfl rfl rfl (Ones.one q) jJ (StAts.r (enc:=eN) (sz:=2) (ms:=cur) (i:=(i:Int)) q ⟨by omega,by omega⟩ rfl) rfl rfl ⟨okF,?_⟩
  repeat refine aB ?_
  refine dF (φ:=pJ ((st cur (i:Int) q).map some) u) (by rw [aWZ];exact Hv.oSet aA aA) ?_
  refine gL (9 - (i+1)) (⟨i+1,st cur (i:Int) q,by omega,rfl,by rw [oP];exact hcl,fun t ht=>by
   rw [pM (by omega) (by omega)]
   by_cases e:t=i
   ·subst e
    rw [if_pos rfl,hq,←hhi t (Nat.le_refl _) hii,hx,Int.fdiv_mul_cancel (by rw [←hx,hhi t (Nat.le_refl _) hii];exact hdv t (by omega))]
   ·rw [if_neg e]
    exact hlo t (by omega),fun t ht h9=>by
   rw [pM (by omega) (by omega),if_neg (by omega)]
   exact hhi t (by omega) h9,rfl,rfl,rfl⟩)
 ·obtain rfl:i=9:=by omega
  have e9:=es9 hcl
  generalize gt cur 0=a0,gt cur 1=a1,gt cur 2=a2,gt cur 3=a3,gt cur 4=a4,gt cur 5=a5,gt cur 6=a6,gt cur 7=a7,gt cur 8=a8 at e9
  subst e9
  have hmm:(fA (HZ.m ⟨⟨a0,a1,a2⟩,⟨a3,a4,a5⟩,⟨a6,a7,a8⟩⟩)).map (fun x=>x*g.z)=fA h.m:=by
   show [a0.z*g.z,a1.z*g.z,a2.z*g.z,a3.z*g.z,a4.z*g.z,a5.z*g.z,a6.z*g.z,a7.z*g.z,a8.z*g.z]=[h.x.x.z,h.x.y.z,h.x.z.z,h.y.x.z,h.y.y.z,h.y.z.z,h.z.x.z,h.z.y.z,h.z.z.z]
   rw [show a0.z*g.z=h.x.x.z from hlo 0 (by omega),show a1.z*g.z=h.x.y.z from hlo 1 (by omega),show a2.z*g.z=h.x.z.z from hlo 2 (by omega),show a3.z*g.z=h.y.x.z from hlo 3 (by omega),show a4.z*g.z=h.y.y.z from hlo 4 (by omega),show a5.z*g.z=h.y.z.z from hlo 5 (by omega),show a6.z*g.z=h.z.x.z from hlo 6 (by omega),show a7.z*g.z=h.z.y.z from hlo 7 (by omega),show a8.z*g.z=h.z.z.z from hlo 8 (by omega)]
  refine bG (φ:=iY ⟨⟨a0,a1,a2⟩,⟨a3,a4,a5⟩,⟨a6,a7,a8⟩⟩ u) (Hv.ofAll aA) ?_
  repeat refine aB ?_
  refine aO (cs:=recs eN [a0,a1,a2,a3,a4,a5,a6,a7,a8]) (.inl rfl) rfl rfl aA rfl M0 (iY ⟨⟨a0,a1,a2⟩,⟨a3,a4,a5⟩,⟨a6,a7,a8⟩⟩ u::I0) aF aC ⟨rfl,⟨⟨a0,a1,a2⟩,⟨a3,a4,a5⟩,⟨a6,a7,a8⟩⟩,g.z,rfl,hgz,hmm,bDW hnz (by rw [←hgd];exact hmm),rfl⟩
end
theorem AtsZ.o2 {α:Type} [Inhabited α] {enc:α→List Value} [hz:Sized enc 2] {ms:List α} {i j:Nat} (hi:3*i+j < ms.length):AtsZ (recs enc ms) (0+(i:Int).toNat*6+(j:Int).toNat*2) (enc (gt ms ((3*i+j:Nat):Int))) 2:=by
 have e:0+(i:Int).toNat*6+(j:Int).toNat*2=0+(((3*i+j:Nat):Int)).toNat*2:=by simp only [Int.toNat_natCast];omega
 rw [e]
 exact AtsZ.o0 ⟨by omega,by omega⟩
theorem StAts.o2 {α:Type} {enc:α→List Value} [hz:Sized enc 2] {ms:List α} {i j:Nat} {vs:List Value} (mm:α) (hi:3*i+j < ms.length) (hv:vs=enc mm):StAts (recs enc ms) (0+(i:Int).toNat*6+(j:Int).toNat*2) vs (recs enc (st ms ((3*i+j:Nat):Int) mm)):=by
 have e:0+(i:Int).toNat*6+(j:Int).toNat*2=0+(((3*i+j:Nat):Int)).toNat*2:=by simp only [Int.toNat_natCast];omega
 rw [e]
 exact StAts.o0 mm ⟨by omega,by omega⟩ hv
abbrev zK8:List Value:=recs wN [none,none,none,none]
structure QZ where
 p:TZ
 q:TZ
 r:TZ
 s:TZ
abbrev QZ.l (w:QZ):List TZ:=[w.p,w.q,w.r,w.s]
abbrev QZ.f (w:QZ):List ZE:=[w.p.x,w.p.y,w.p.z,w.q.x,w.q.y,w.q.z,w.r.x,w.r.y,w.r.z,w.s.x,w.s.y,w.s.z]
def QZ.t (w:QZ):P4 Int:=⟨w.p.t,w.q.t,w.r.t,w.s.t⟩
abbrev eQZ (w:QZ):List Value:=recs mH [w.p,w.q,w.r,w.s]
structure IsQZ (w:QZ) (k:Nat) (X:List Nat) (wd:World):Prop where
 p:IsTZ w.p k X wd
 q:IsTZ w.q k X wd
 r:IsTZ w.r k X wd
 s:IsTZ w.s k X wd
abbrev rD (w:QZ) (k:Nat):aL:=IsQZ w k
instance (w:QZ) (k:Nat):Fx.Good (IsQZ w k):=⟨fun X Y w w' h he hY=>⟨Fx.Good.go (φ:=IsTZ _ _) X Y w w' h.p he hY,Fx.Good.go (φ:=IsTZ _ _) X Y w w' h.q he hY,Fx.Good.go (φ:=IsTZ _ _) X Y w w' h.r he hY,Fx.Good.go (φ:=IsTZ _ _) X Y w w' h.s he hY⟩⟩
theorem Hv.qp {I:List aL} {w:QZ} {k:Nat} (h:rD w k∈I):Hv I (aX w.p k):=⟨fun X wd hw=>(hw _ h:IsQZ w k X wd).p⟩
theorem Hv.qq {I:List aL} {w:QZ} {k:Nat} (h:rD w k∈I):Hv I (aX w.q k):=⟨fun X wd hw=>(hw _ h:IsQZ w k X wd).q⟩
theorem Hv.qr {I:List aL} {w:QZ} {k:Nat} (h:rD w k∈I):Hv I (aX w.r k):=⟨fun X wd hw=>(hw _ h:IsQZ w k X wd).r⟩
theorem Hv.qs {I:List aL} {w:QZ} {k:Nat} (h:rD w k∈I):Hv I (aX w.s k):=⟨fun X wd hw=>(hw _ h:IsQZ w k X wd).s⟩
theorem Hv.qAt {I:List aL} {w:QZ} {k i j:Nat} (h:rD w k∈I) (hi:i < 4) (hj:j < 3):Hv I (jF (gt w.f ((3*i+j:Nat):Int)) k):=⟨fun X wd hw=>by
 have h1:IsQZ w k X wd:=hw _ h
 obtain ⟨⟨a0,a1,a2⟩,⟨b0,b1,b2⟩,⟨c0,c1,c2⟩,⟨d0,d1,d2⟩⟩:=h1
 obtain rfl|rfl|rfl|rfl:i=0∨i=1∨i=2∨i=3:=by omega
 all_goals obtain rfl|rfl|rfl:j=0∨j=1∨j=2:=by omega
 all_goals assumption⟩
structure KZ where
 a:ZE
 b:ZE
 c:ZE
 d:ZE
abbrev KZ.l (w:KZ):List ZE:=[w.a,w.b,w.c,w.d]
def colZ (K:KZ) (w:QZ) (i j:Nat):Int:=(gt K.l (i:Int)).z*(gt w.f ((3*i+j:Nat):Int)).z
def BasR (q:P4 Int) (u:Nat) (M0:List Ent) (I0:List aL) (v:Value) (M:List Ent) (I:List aL):Prop:=M0=M∧if colP q then (I0=I∧v= .tuple #[.agg z18.toArray, .bool false]) else ∃h:HZ,v= .tuple #[hv9 h, .bool true]∧h.m=q.bas∧I=iY h u::I0
section
variable {X:List Nat} {w0:World} {M0:List Ent} {I0:List aL}
theorem aGR {x y:Int} (hx: -32768≤x∧x≤32768) (hy: -32768≤y∧y≤32768):CD Tryz.prog 47 [.agg #[.int .i64 x, .int .i64 y]] X w0 M0 I0 (fun v M I=>M0=M∧I0=I∧v= .bool true):=by
 refine aR Tryz.func47 rfl Tryz.ntmps47 rfl ?_
 refine gG ?_
 refine gN rfl (fun b1=>?_)
 repeat refine aB ?_
 refine fC (M':=M0) (I':=I0) aF aC ?_
 refine iR rfl rfl (⟨rfl,rfl,congrArg Value.bool (bK (by omega))⟩)
theorem aPS {x y:Int} (hx: -32768≤x∧x≤32768) (hy: -32768≤y∧y≤32768):CD Tryz.prog 48 [.agg #[.int .i64 x, .int .i64 y]] X w0 M0 I0 (VQ ⟨x,y,1⟩ 63 M0 I0):=by
 have hX:=fun M0 I0=>NOf (X:=X) (w0:=w0) (M0:=M0) (I0:=I0) (x:=x) (by omega)
 have hY:=fun M0 I0=>NOf (X:=X) (w0:=w0) (M0:=M0) (I0:=I0) (x:=y) (by omega)
 have hO:=fun M0 I0=>NOf (X:=X) (w0:=w0) (M0:=M0) (I0:=I0) (x:=1) (by omega)
 refine aR Tryz.func48 rfl Tryz.ntmps48 rfl ?_
 refine gG ?_
 refine gN rfl (fun b1=>?_)
 refine aH .here ?_
 refine cK (fun b2=>?_)
 repeat refine aB ?_
 (repeat refine aG ?_);refine pW (M0) (aI (some ⟨b1,0,none⟩) [.int .i64 x, .int .i64 y]::I0) [0,1,3,4,2,5,6,7,8] [3,2,3,2,0,0,0,0,0] mixed ?_
 repeat refine aB ?_
 (refine bD rfl (hX _ _) ?_;rintro _ _ _ ⟨rfl,a,rfl,ha,rfl⟩;refine aN ?_)
 (refine bD rfl (hY _ _) ?_;rintro _ _ _ ⟨rfl,b,rfl,hb,rfl⟩;refine aN ?_)
 (refine bD rfl (hO _ _) ?_;rintro _ _ _ ⟨rfl,c,rfl,hc,rfl⟩;refine aN ?_)
 refine bQ (φ:=aX ⟨a,b,c⟩ 63) (Hv.mkZ aA aA aA) ?_
 (refine aD rfl (fun _=>dM (vals:=[nv a,nv b,nv c]) (cells:=mH ⟨a,b,c⟩) rfl ?hpl rfl ?hz) rfl rfl ?_;(case hpl=>exact (by intro v hv;repeat (first|exact absurd hv (List.not_mem_nil)|(rcases List.mem_cons.1 hv with rfl|hv; · rfl))));(case hz=>rfl))
 repeat refine aB ?_
 refine aO (cs:=mH ⟨a,b,c⟩) (.inl rfl) rfl rfl aA rfl M0 (aX ⟨a,b,c⟩ 63::I0) aF aC ⟨rfl,⟨a,b,c⟩,rfl,by show (⟨a.z,b.z,c.z⟩:T3 Int)=_;rw [ha,hb,hc],rfl⟩
theorem bCC {w:QZ} (hw:rD w 63∈I0):CD Tryz.prog 49 [.agg (eQZ w).toArray] X w0 M0 I0 (BasR w.t 256 M0 I0):=by
 have hD:=fun (p q r:TZ) M0 I0 h1 h2 h3=>bAR (X:=X) (w0:=w0) (M0:=M0) (I0:=I0) (p:=p) (q:=q) (r:=r) (u:=63) (by omega) (by omega) h1 h2 h3
 have hR:=fun (p q r:TZ) M0 I0 h1 h2 h3=>zQ (X:=X) (w0:=w0) (M0:=M0) (I0:=I0) (p:=p) (q:=q) (r:=r) (u:=256) h1 h2 h3
 have hT:=fun (h:HZ) M0 I0 h1=>aJM (X:=X) (w0:=w0) (M0:=M0) (I0:=I0) (h:=h) (u:=256) h1
 refine aV (φ:=rD w 63) (Hv.mem hw) (aV (φ:=aX w.p 63) (Hv.qp aA) (aV (φ:=aX w.q 63) (Hv.qq (w:=w) aA) (aV (φ:=aX w.r 63) (Hv.qr (w:=w) aA) (aV (φ:=aX w.s 63) (Hv.qs (w:=w) aA) ?_))))
 refine aR Tryz.func49 rfl Tryz.ntmps49 rfl ?_
 refine gG ?_
 refine gN rfl (fun b1=>?_)
 refine aH (cs:=eQZ w) .here ?_
 refine cK (fun b2=>?_)
 repeat refine aB ?_
 refine jQ (fun G M I=>∃(b4:Nat) (K:KZ),(K.a.z=w.t.k0∧K.b.z=w.t.k1∧K.c.z=w.t.k2∧K.d.z=w.t.k3)∧G=[(1, .pointer (some ⟨b1,0,none⟩)),(2, .pointer (some ⟨b2,0,none⟩)),(3, .bool false),(4, .pointer (some ⟨b4,0,none⟩))]∧M= .blk b4 (recs eN K.l) 163:: .blk b2 z18 44::M0∧I=jF K.a 193::jF K.b 193::jF K.c 193::jF K.d 193::aI (some ⟨b1,0,none⟩) (eQZ w)::rD w 63::I0) ?_ ?_
 ·(repeat refine aG ?_)
  refine aML (M0) (aI (some ⟨b1,0,none⟩) (eQZ w)::aX w.s 63::aX w.r 63::aX w.q 63::aX w.p 63::rD w 63::I0) mixed (fun R hR=>?_)
  have n41:∀k0:ZE,k0.z=w.t.k0→∀k1:ZE,k1.z=w.t.k1→∀k2:ZE,k2.z=w.t.k2→∀k3:ZE,k3.z=w.t.k3→∀b4:Nat,ND 74 (R 2 5 #[true,true,true,true,true,true,true,true,true,true,true,true,true,true,true,true,true,true,true,true,true,true,true,true,true,true,true,true,false,true,false]) .normal [(35,nv k3),(28,nv k2),(21,nv k1),(14,nv k0),(4, .pointer (some ⟨b4,0,none⟩)),(9,dL w.s),(11,dL w.q),(13,dL w.r),(16,dL w.p),(18,dL w.s),(20,dL w.r),(23,dL w.p),(25,dL w.q),(27,dL w.s),(30,dL w.p),(32,dL w.q),(34,dL w.r),(1, .pointer (some ⟨b1,0,none⟩)),(2, .pointer (some ⟨b2,0,none⟩)),(3, .bool false)] X w0 (.blk b4 zK8 163:: .blk b2 z18 44::M0) (jF k3 193::jF k2 193::jF k1 193::jF k0 193::aI (some ⟨b1,0,none⟩) (eQZ w)::aX w.s 63::aX w.r 63::aX w.q 63::aX w.p 63::rD w 63::I0):=by
   intro k0 hk0 k1 hk1 k2 hk2 k3 hk3 b4
   rw [hR]
   refine aY [28,30] [0,0] aF aC (by kernel_rfl) (by kernel_rfl) rfl rfl ?_
   (refine aD rfl (fun _=>dM (vals:=[nv k0,nv k1,nv k2,nv k3]) (cells:=recs eN [k0,k1,k2,k3]) rfl ?hpl rfl ?hz) rfl rfl ?_;(case hpl=>exact (by intro v hv;repeat (first|exact absurd hv (List.not_mem_nil)|(rcases List.mem_cons.1 hv with rfl|hv; · rfl))));(case hz=>rfl))
   repeat refine aB ?_
   refine tV ⟨b4,⟨k0,k1,k2,k3⟩,⟨hk0,hk1,hk2,hk3⟩,rfl,rfl,rfl⟩
  have n31:∀k0:ZE,k0.z=w.t.k0→∀k1:ZE,k1.z=w.t.k1→∀k2:ZE,k2.z=w.t.k2→∀b4:Nat,ND 74 (R 3 4 #[true,true,true,true,true,true,true,true,true,true,true,true,true,true,true,true,true,true,true,true,true,true,true,true,true,true,true,false,false,true,false]) .normal [(28,nv k2),(21,nv k1),(14,nv k0),(4, .pointer (some ⟨b4,0,none⟩)),(9,dL w.s),(11,dL w.q),(13,dL w.r),(16,dL w.p),(18,dL w.s),(20,dL w.r),(23,dL w.p),(25,dL w.q),(27,dL w.s),(30,dL w.p),(32,dL w.q),(34,dL w.r),(1, .pointer (some ⟨b1,0,none⟩)),(2, .pointer (some ⟨b2,0,none⟩)),(3, .bool false)] X w0 (.blk b4 zK8 163:: .blk b2 z18 44::M0) (jF k2 193::jF k1 193::jF k0 193::aI (some ⟨b1,0,none⟩) (eQZ w)::aX w.s 63::aX w.r 63::aX w.q 63::aX w.p 63::rD w 63::I0):=by
   intro k0 hk0 k1 hk1 k2 hk2 b4
   rw [hR]
   refine cB (fuel:=2) (listed':=#[true,true,true,true,true,true,true,true,true,true,true,true,true,true,true,true,true,true,true,true,true,true,true,true,true,true,true,true,false,true,false]) [27] [0] aF aC (by kernel_rfl) (by kernel_rfl) rfl rfl ?_
   (refine bD rfl (hD w.p w.q w.r _ _ aA aA aA) ?_;rintro _ _ _ ⟨rfl,k3,rfl,hk3,rfl⟩;refine aN ?_)
   refine bE ?_
   rw [←hR]
   exact lH dB aF aC (n41 k0 hk0 k1 hk1 k2 hk2 k3 hk3 b4)
  have n40:∀k0:ZE,k0.z=w.t.k0→∀k1:ZE,k1.z=w.t.k1→∀k2:ZE,k2.z=w.t.k2→∀k3:ZE,k3.z=w.t.k3→ND 74 (R 3 4 #[true,true,true,true,true,true,true,true,true,true,true,true,true,true,true,true,true,true,true,true,true,true,true,true,true,true,true,true,false,false,false]) .normal [(35,nv k3),(28,nv k2),(21,nv k1),(14,nv k0),(9,dL w.s),(11,dL w.q),(13,dL w.r),(16,dL w.p),(18,dL w.s),(20,dL w.r),(23,dL w.p),(25,dL w.q),(27,dL w.s),(30,dL w.p),(32,dL w.q),(34,dL w.r),(1, .pointer (some ⟨b1,0,none⟩)),(2, .pointer (some ⟨b2,0,none⟩)),(3, .bool false)] X w0 (.blk b2 z18 44::M0) (jF k3 193::jF k2 193::jF k1 193::jF k0 193::aI (some ⟨b1,0,none⟩) (eQZ w)::aX w.s 63::aX w.r 63::aX w.q 63::aX w.p 63::rD w 63::I0):=by
   intro k0 hk0 k1 hk1 k2 hk2 k3 hk3
   rw [hR]
   refine cB (fuel:=1) (listed':=#[true,true,true,true,true,true,true,true,true,true,true,true,true,true,true,true,true,true,true,true,true,true,true,true,true,true,true,true,true,true,false]) [28,29] [1,0] aF aC (by kernel_rfl) (by kernel_rfl) rfl rfl ?_
   (refine aD rfl (fun _=>dM (vals:=[nv k0,nv k1,nv k2,nv k3]) (cells:=recs eN [k0,k1,k2,k3]) rfl ?hpl rfl ?hz) rfl rfl ?_;(case hpl=>exact (by intro v hv;repeat (first|exact absurd hv (List.not_mem_nil)|(rcases List.mem_cons.1 hv with rfl|hv; · rfl))));(case hz=>rfl))
   (refine bB (d:=4) rfl rfl ?_;intro b4;refine aN ?_)
   refine bE ?_
   refine aY [30] [0] aF aC (by kernel_rfl) (by kernel_rfl) rfl rfl ?_
   repeat refine aB ?_
   refine tV ⟨b4,⟨k0,k1,k2,k3⟩,⟨hk0,hk1,hk2,hk3⟩,rfl,rfl,rfl⟩
  have n21:∀k0:ZE,k0.z=w.t.k0→∀k1:ZE,k1.z=w.t.k1→∀b4:Nat,ND 74 (R 4 3 #[true,true,true,true,true,true,true,true,true,true,true,true,true,true,true,true,true,true,true,true,false,true,true,true,true,true,true,false,false,true,false]) .normal [(21,nv k1),(14,nv k0),(4, .pointer (some ⟨b4,0,none⟩)),(9,dL w.s),(11,dL w.q),(13,dL w.r),(16,dL w.p),(18,dL w.s),(20,dL w.r),(23,dL w.p),(25,dL w.q),(27,dL w.s),(30,dL w.p),(32,dL w.q),(34,dL w.r),(1, .pointer (some ⟨b1,0,none⟩)),(2, .pointer (some ⟨b2,0,none⟩)),(3, .bool false)] X w0 (.blk b4 zK8 163:: .blk b2 z18 44::M0) (jF k1 193::jF k0 193::aI (some ⟨b1,0,none⟩) (eQZ w)::aX w.s 63::aX w.r 63::aX w.q 63::aX w.p 63::rD w 63::I0):=by
   intro k0 hk0 k1 hk1 b4
   rw [hR]
   refine cB (fuel:=3) (listed':=#[true,true,true,true,true,true,true,true,true,true,true,true,true,true,true,true,true,true,true,true,true,true,true,true,true,true,true,false,false,true,false]) [20] [0] aF aC (by kernel_rfl) (by kernel_rfl) rfl rfl ?_
   (refine bD rfl (hD w.p w.q w.s _ _ aA aA aA) ?_;rintro _ _ _ ⟨rfl,k2,rfl,hk2,rfl⟩;refine aN ?_)
   refine bE ?_
   rw [←hR]
   exact lH dB aF aC (n31 k0 hk0 k1 hk1 k2 hk2 b4)
  have n30:∀k0:ZE,k0.z=w.t.k0→∀k1:ZE,k1.z=w.t.k1→∀k2:ZE,k2.z=w.t.k2→ND 74 (R 4 3 #[true,true,true,true,true,true,true,true,true,true,true,true,true,true,true,true,true,true,true,true,true,true,true,true,true,true,true,false,false,false,false]) .normal [(28,nv k2),(21,nv k1),(14,nv k0),(9,dL w.s),(11,dL w.q),(13,dL w.r),(16,dL w.p),(18,dL w.s),(20,dL w.r),(23,dL w.p),(25,dL w.q),(27,dL w.s),(30,dL w.p),(32,dL w.q),(34,dL w.r),(1, .pointer (some ⟨b1,0,none⟩)),(2, .pointer (some ⟨b2,0,none⟩)),(3, .bool false)] X w0 (.blk b2 z18 44::M0) (jF k2 193::jF k1 193::jF k0 193::aI (some ⟨b1,0,none⟩) (eQZ w)::aX w.s 63::aX w.r 63::aX w.q 63::aX w.p 63::rD w 63::I0):=by
   intro k0 hk0 k1 hk1 k2 hk2
   rw [hR]
   refine aS (i:=27) (j:=29) (by kernel_rfl) ?_ ?_
   ·(refine bD rfl (hD w.p w.q w.r _ _ aA aA aA) ?_;rintro _ _ _ ⟨rfl,k3,rfl,hk3,rfl⟩;refine aN ?_)
    refine bE ?_
    rw [←hR]
    exact lH dB aF aC (n40 k0 hk0 k1 hk1 k2 hk2 k3 hk3)
   ·(refine bB (d:=4) rfl rfl ?_;intro b4;refine aN ?_)
    refine bE ?_
    rw [←hR]
    exact lH dB aF aC (n31 k0 hk0 k1 hk1 k2 hk2 b4)
  have n11:∀k0:ZE,k0.z=w.t.k0→∀b4:Nat,ND 74 (R 5 2 #[true,true,true,true,true,true,true,true,true,true,true,true,true,false,true,true,true,true,true,true,false,true,true,true,true,true,true,false,false,true,false]) .normal [(14,nv k0),(4, .pointer (some ⟨b4,0,none⟩)),(9,dL w.s),(11,dL w.q),(13,dL w.r),(16,dL w.p),(18,dL w.s),(20,dL w.r),(23,dL w.p),(25,dL w.q),(27,dL w.s),(30,dL w.p),(32,dL w.q),(34,dL w.r),(1, .pointer (some ⟨b1,0,none⟩)),(2, .pointer (some ⟨b2,0,none⟩)),(3, .bool false)] X w0 (.blk b4 zK8 163:: .blk b2 z18 44::M0) (jF k0 193::aI (some ⟨b1,0,none⟩) (eQZ w)::aX w.s 63::aX w.r 63::aX w.q 63::aX w.p 63::rD w 63::I0):=by
   intro k0 hk0 b4
   rw [hR]
   refine cB (fuel:=4) (listed':=#[true,true,true,true,true,true,true,true,true,true,true,true,true,true,true,true,true,true,true,true,false,true,true,true,true,true,true,false,false,true,false]) [13] [0] aF aC (by kernel_rfl) (by kernel_rfl) rfl rfl ?_
   (refine bD rfl (hD w.p w.s w.r _ _ aA aA aA) ?_;rintro _ _ _ ⟨rfl,k1,rfl,hk1,rfl⟩;refine aN ?_)
   refine bE ?_
   rw [←hR]
   exact lH dB aF aC (n21 k0 hk0 k1 hk1 b4)
  have n20:∀k0:ZE,k0.z=w.t.k0→∀k1:ZE,k1.z=w.t.k1→ND 74 (R 5 2 #[true,true,true,true,true,true,true,true,true,true,true,true,true,true,true,true,true,true,true,true,false,true,true,true,true,true,true,false,false,false,false]) .normal [(21,nv k1),(14,nv k0),(9,dL w.s),(11,dL w.q),(13,dL w.r),(16,dL w.p),(18,dL w.s),(20,dL w.r),(23,dL w.p),(25,dL w.q),(27,dL w.s),(30,dL w.p),(32,dL w.q),(34,dL w.r),(1, .pointer (some ⟨b1,0,none⟩)),(2, .pointer (some ⟨b2,0,none⟩)),(3, .bool false)] X w0 (.blk b2 z18 44::M0) (jF k1 193::jF k0 193::aI (some ⟨b1,0,none⟩) (eQZ w)::aX w.s 63::aX w.r 63::aX w.q 63::aX w.p 63::rD w 63::I0):=by
   intro k0 hk0 k1 hk1
   rw [hR]
   refine aS (i:=20) (j:=29) (by kernel_rfl) ?_ ?_
   ·(refine bD rfl (hD w.p w.q w.s _ _ aA aA aA) ?_;rintro _ _ _ ⟨rfl,k2,rfl,hk2,rfl⟩;refine aN ?_)
    refine bE ?_
    rw [←hR]
    exact lH dB aF aC (n30 k0 hk0 k1 hk1 k2 hk2)
   ·(refine bB (d:=4) rfl rfl ?_;intro b4;refine aN ?_)
    refine bE ?_
    rw [←hR]
    exact lH dB aF aC (n21 k0 hk0 k1 hk1 b4)
  have n01:∀b4:Nat,ND 74 (R 6 1 #[true,true,true,true,true,true,false,true,true,true,true,true,true,false,true,true,true,true,true,true,false,true,true,true,true,true,true,false,false,true,false]) .normal [(4, .pointer (some ⟨b4,0,none⟩)),(9,dL w.s),(11,dL w.q),(13,dL w.r),(16,dL w.p),(18,dL w.s),(20,dL w.r),(23,dL w.p),(25,dL w.q),(27,dL w.s),(30,dL w.p),(32,dL w.q),(34,dL w.r),(1, .pointer (some ⟨b1,0,none⟩)),(2, .pointer (some ⟨b2,0,none⟩)),(3, .bool false)] X w0 (.blk b4 zK8 163:: .blk b2 z18 44::M0) (aI (some ⟨b1,0,none⟩) (eQZ w)::aX w.s 63::aX w.r 63::aX w.q 63::aX w.p 63::rD w 63::I0):=by
   intro b4
   rw [hR]
   refine cB (fuel:=5) (listed':=#[true,true,true,true,true,true,true,true,true,true,true,true,true,false,true,true,true,true,true,true,false,true,true,true,true,true,true,false,false,true,false]) [6] [0] aF aC (by kernel_rfl) (by kernel_rfl) rfl rfl ?_
   (refine bD rfl (hD w.s w.q w.r _ _ aA aA aA) ?_;rintro _ _ _ ⟨rfl,k0,rfl,hk0,rfl⟩;refine aN ?_)
   refine bE ?_
   rw [←hR]
   exact lH dB aF aC (n11 k0 hk0 b4)
  have n10:∀k0:ZE,k0.z=w.t.k0→ND 74 (R 6 1 #[true,true,true,true,true,true,true,true,true,true,true,true,true,false,true,true,true,true,true,true,false,true,true,true,true,true,true,false,false,false,false]) .normal [(14,nv k0),(9,dL w.s),(11,dL w.q),(13,dL w.r),(16,dL w.p),(18,dL w.s),(20,dL w.r),(23,dL w.p),(25,dL w.q),(27,dL w.s),(30,dL w.p),(32,dL w.q),(34,dL w.r),(1, .pointer (some ⟨b1,0,none⟩)),(2, .pointer (some ⟨b2,0,none⟩)),(3, .bool false)] X w0 (.blk b2 z18 44::M0) (jF k0 193::aI (some ⟨b1,0,none⟩) (eQZ w)::aX w.s 63::aX w.r 63::aX w.q 63::aX w.p 63::rD w 63::I0):=by
   intro k0 hk0
   rw [hR]
   refine aS (i:=13) (j:=29) (by kernel_rfl) ?_ ?_
   ·(refine bD rfl (hD w.p w.s w.r _ _ aA aA aA) ?_;rintro _ _ _ ⟨rfl,k1,rfl,hk1,rfl⟩;refine aN ?_)
    refine bE ?_
    rw [←hR]
    exact lH dB aF aC (n20 k0 hk0 k1 hk1)
   ·(refine bB (d:=4) rfl rfl ?_;intro b4;refine aN ?_)
    refine bE ?_
    rw [←hR]
    exact lH dB aF aC (n11 k0 hk0 b4)
  have n00:ND 74 (R 7 0 #[true,true,true,true,true,true,false,true,true,true,true,true,true,false,true,true,true,true,true,true,false,true,true,true,true,true,true,false,false,false,false]) .normal [(9,dL w.s),(11,dL w.q),(13,dL w.r),(16,dL w.p),(18,dL w.s),(20,dL w.r),(23,dL w.p),(25,dL w.q),(27,dL w.s),(30,dL w.p),(32,dL w.q),(34,dL w.r),(1, .pointer (some ⟨b1,0,none⟩)),(2, .pointer (some ⟨b2,0,none⟩)),(3, .bool false)] X w0 (.blk b2 z18 44::M0) (aI (some ⟨b1,0,none⟩) (eQZ w)::aX w.s 63::aX w.r 63::aX w.q 63::aX w.p 63::rD w 63::I0):=by
   rw [hR]
   refine aS (i:=6) (j:=29) (by kernel_rfl) ?_ ?_
   ·(refine bD rfl (hD w.s w.q w.r _ _ aA aA aA) ?_;rintro _ _ _ ⟨rfl,k0,rfl,hk0,rfl⟩;refine aN ?_)
    refine bE ?_
    rw [←hR]
    exact lH dB aF aC (n10 k0 hk0)
   ·(refine bB (d:=4) rfl rfl ?_;intro b4;refine aN ?_)
    refine bE ?_
    rw [←hR]
    exact lH dB aF aC (n01 b4)
  show ND 74 (R 31 0 #[false,false,false,false,false,false,false,false,false,false,false,false,false,false,false,false,false,false,false,false,false,false,false,false,false,false,false,false,false,false,false]) .normal _ X w0 _ _
  rw [hR]
  refine cB (fuel:=7) (listed':=#[true,true,true,true,true,true,false,true,true,true,true,true,true,false,true,true,true,true,true,true,false,true,true,true,true,true,true,false,false,false,false]) [0,1,2,3,4,5,7,8,9,10,11,12,14,15,16,17,18,19,21,22,23,24,25,26] [5,4,5,4,5,4,5,4,5,4,5,4,5,4,5,4,5,4,5,4,5,4,5,4] aF aC (by kernel_rfl) (by kernel_rfl) rfl rfl ?_
  repeat refine aB ?_
  (apply dS;exact eX;exact rfl;exact aA;exact AtsZ.o0 (enc:=mH) (sz:=6) (ms:=[w.p,w.q,w.r,w.s]) (i:=3) ⟨by decide,by simp⟩;exact rfl;exact rfl)
  repeat refine aB ?_
  (apply dS;exact eX;exact rfl;exact aA;exact AtsZ.o0 (enc:=mH) (sz:=6) (ms:=[w.p,w.q,w.r,w.s]) (i:=1) ⟨by decide,by simp⟩;exact rfl;exact rfl)
  repeat refine aB ?_
  (apply dS;exact eX;exact rfl;exact aA;exact AtsZ.o0 (enc:=mH) (sz:=6) (ms:=[w.p,w.q,w.r,w.s]) (i:=2) ⟨by decide,by simp⟩;exact rfl;exact rfl)
  repeat refine aB ?_
  (apply dS;exact eX;exact rfl;exact aA;exact AtsZ.o0 (enc:=mH) (sz:=6) (ms:=[w.p,w.q,w.r,w.s]) (i:=0) ⟨by decide,by simp⟩;exact rfl;exact rfl)
  repeat refine aB ?_
  (apply dS;exact eX;exact rfl;exact aA;exact AtsZ.o0 (enc:=mH) (sz:=6) (ms:=[w.p,w.q,w.r,w.s]) (i:=3) ⟨by decide,by simp⟩;exact rfl;exact rfl)
  repeat refine aB ?_
  (apply dS;exact eX;exact rfl;exact aA;exact AtsZ.o0 (enc:=mH) (sz:=6) (ms:=[w.p,w.q,w.r,w.s]) (i:=2) ⟨by decide,by simp⟩;exact rfl;exact rfl)
  repeat refine aB ?_
  (apply dS;exact eX;exact rfl;exact aA;exact AtsZ.o0 (enc:=mH) (sz:=6) (ms:=[w.p,w.q,w.r,w.s]) (i:=0) ⟨by decide,by simp⟩;exact rfl;exact rfl)
  repeat refine aB ?_
  (apply dS;exact eX;exact rfl;exact aA;exact AtsZ.o0 (enc:=mH) (sz:=6) (ms:=[w.p,w.q,w.r,w.s]) (i:=1) ⟨by decide,by simp⟩;exact rfl;exact rfl)
  repeat refine aB ?_
  (apply dS;exact eX;exact rfl;exact aA;exact AtsZ.o0 (enc:=mH) (sz:=6) (ms:=[w.p,w.q,w.r,w.s]) (i:=3) ⟨by decide,by simp⟩;exact rfl;exact rfl)
  repeat refine aB ?_
  (apply dS;exact eX;exact rfl;exact aA;exact AtsZ.o0 (enc:=mH) (sz:=6) (ms:=[w.p,w.q,w.r,w.s]) (i:=0) ⟨by decide,by simp⟩;exact rfl;exact rfl)
  repeat refine aB ?_
  (apply dS;exact eX;exact rfl;exact aA;exact AtsZ.o0 (enc:=mH) (sz:=6) (ms:=[w.p,w.q,w.r,w.s]) (i:=1) ⟨by decide,by simp⟩;exact rfl;exact rfl)
  repeat refine aB ?_
  (apply dS;exact eX;exact rfl;exact aA;exact AtsZ.o0 (enc:=mH) (sz:=6) (ms:=[w.p,w.q,w.r,w.s]) (i:=2) ⟨by decide,by simp⟩;exact rfl;exact rfl)
  repeat refine aB ?_
  rw [←hR]
  exact lH dB aF aC n00
 rintro G M I ⟨b4,K,⟨hk0,hk1,hk2,hk3⟩,rfl,rfl,rfl⟩
 have hKP:∀i:Nat,i < 4→((gt K.l (i:Int)).z=0→colP w.t):=fun i hi h=>by
  obtain rfl|rfl|rfl|rfl:i=0∨i=1∨i=2∨i=3:=by omega
  ·exact .inl (hk0.symm.trans h)
  ·exact .inr (.inl (hk1.symm.trans h))
  ·exact .inr (.inr (.inl (hk2.symm.trans h)))
  ·exact .inr (.inr (.inr (hk3.symm.trans h)))
 repeat refine aB ?_
 refine cK (fun b5=>?_)
 repeat refine aB ?_
 refine bG (φ:=pJ [none,none,none,none,none,none,none,none,none] 256) (Hv.oNil (n:=9)) ?_
 refine bG (φ:=pJ (K.l.map some) 193) ⟨fun X wd hw2=>⟨fun e he=>by
  simp only [List.map_cons,List.map_nil,List.mem_cons,Option.some.injEq,List.not_mem_nil,or_false] at he
  rcases he with rfl|rfl|rfl|rfl
  ·exact hw2 (jF K.a 193) aA
  ·exact hw2 (jF K.b 193) aA
  ·exact hw2 (jF K.c 193) aA
  ·exact hw2 (jF K.d 193) aA⟩⟩ ?_
 refine lX [1,2,4,5] rfl (fun k G M I=>∃(i:Nat) (os:List (Option ZE)),i≤4∧k=4 - i∧os.length=9∧(∀a b:Nat,a < i→a < 3→b < 3→∃e:ZE,gt os ((3*a+b:Nat):Int)=some e∧e.z=colZ K w a b)∧(∀a:Nat,a < i→(gt K.l (a:Int)).z≠0)∧G=[(37, .int .i64 i)]∧M= .blk b5 (recs wN os) 164:: .blk b4 (recs eN K.l) 163:: .blk b2 z18 44::M0∧I=pJ os 256::pJ (K.l.map some) 193::aI (some ⟨b1,0,none⟩) (eQZ w)::rD w 63::I0) (4) (⟨0,[none,none,none,none,none,none,none,none,none],by omega,rfl,rfl,fun a b ha=>absurd ha (by omega),fun a ha=>absurd ha (by omega),rfl,rfl,rfl⟩) ?_
 rintro kk G M I ⟨i,os,hi,rfl,hol,ho,hnz,rfl,rfl,rfl⟩
 by_cases hii:i < 4
 ·obtain ⟨x,hx⟩:∃x,gt K.l (i:Int)=x:=⟨_,rfl⟩
  refine bG (φ:=jF x 193) (Hv.oAt (os:=K.l.map some) (i:=(i:Int)) aA ⟨by omega,by show (i:Int) < ((4:Nat):Int);omega⟩ (by rw [xM ⟨by omega,by show (i:Int) < ((4:Nat):Int);omega⟩,hx])) ?_
  have hSg:=fun M0 I0 h1=>qG (X:=X) (w0:=w0) (M0:=M0) (I0:=I0) (u:=nv x) (z:=x.z) (k:=193) (by omega) h1
  repeat refine aB ?_
  (apply bJ;exact eX;exact rfl;exact aA;exact AtsZ.o0 (enc:=eN) (sz:=2) (ms:=K.l) (i:=(i:Int)) ⟨by omega,by show (i:Int) < ((4:Nat):Int);omega⟩;exact rfl;exact rfl)
  rw [hx]
  repeat refine aB ?_
  refine dH rfl (hSg _ _ aA) ?_
  by_cases hx0:x.z=0
  ·rw [show x.z.sign=0 by rw [hx0];rfl]
   repeat refine aB ?_
   (refine aD rfl (fun _=>uC (pvs:=[]) (cells:=z18) rfl rfl) rfl rfl ?_)
   repeat refine aB ?_
   refine dW (rs:=[.cell 2 44, .tmp 3]) (vs:=[.agg z18.toArray, .bool false]) (.inl rfl) rfl (.cellN (cs:=z18) inferInstance rfl aA rfl (.tmp rfl .nil)) rfl M0 I0 aF aC ⟨rfl,by rw [if_pos (hKP i hii (by rw [hx];exact hx0))];exact ⟨rfl,rfl⟩⟩
  ·have hsn:¬x.z.sign=0:=fun h=>hx0 (Int.sign_eq_zero_iff_zero.1 h)
   repeat refine aB ?_
   refine lX [1,2,4,5,6,37] rfl (fun k G M I=>∃(j:Nat) (os:List (Option ZE)),j≤3∧k=3 - j∧os.length=9∧(∀a b:Nat,(a < i∨(a=i∧b < j))→a < 3→b < 3→∃e:ZE,gt os ((3*a+b:Nat):Int)=some e∧e.z=colZ K w a b)∧G=[(46, .int .i64 j)]∧M= .blk b5 (recs wN os) 164:: .blk b4 (recs eN K.l) 163:: .blk b2 z18 44::M0∧I=pJ os 256::jF x 193::pJ (K.l.map some) 193::aI (some ⟨b1,0,none⟩) (eQZ w)::rD w 63::I0) (3) (⟨0,os,by omega,rfl,hol,fun a b hab h3 hb=>ho a b (by omega) h3 hb,rfl,rfl,rfl⟩) ?_
   rintro kk G M I ⟨j,os2,hj,rfl,hol2,ho2,rfl,rfl,rfl⟩
   by_cases hjj:j < 3
   ·by_cases hi3:i < 3
    ·obtain ⟨y,hy⟩:∃y,gt w.f ((3*i+j:Nat):Int)=y:=⟨_,rfl⟩
     refine bG (φ:=jF y 63) (by rw [←hy];exact Hv.qAt aA hii hjj) ?_
     have hM:=fun M0 I0 h1 h2=>NMul (X:=X) (w0:=w0) (M0:=M0) (I0:=I0) (a:=x) (b:=y) (k:=193) (m:=63) (by omega) h1 h2
     repeat refine aB ?_
     (repeat refine aG ?_);refine pW (.blk b4 (recs eN K.l) 163::M0) (aI (some ⟨b1,0,none⟩) (eQZ w)::I0) [0,1,2,3,4,5,6,7,8,9,11,10,12,13] [1,1,1,1,0,1,1,1,1,0,2,0,0,0] mixed ?_
     repeat refine aB ?_
     (apply bJ;exact eX;exact rfl;exact aA;exact AtsZ.o0 (enc:=eN) (sz:=2) (ms:=K.l) (i:=(i:Int)) ⟨by omega,by show (i:Int) < ((4:Nat):Int);omega⟩;exact rfl;exact rfl)
     rw [hx]
     repeat refine aB ?_
     (apply dS;exact eX;exact rfl;exact aA;exact AtsZ.o2 (enc:=eN) (ms:=w.f) (i:=i) (j:=j) (by show 3*i+j < 12;omega);exact rfl;exact rfl)
     rw [hy]
     repeat refine aB ?_
     (refine bD rfl (hM _ _ aA aA) ?_;rintro _ _ _ ⟨rfl,g,rfl,hg,rfl⟩;refine aN ?_)
     repeat refine yXh ?_
     refine fJ (vs:=eN g) rfl rfl rfl (Ones.one g) jJ (StAts.o2 (enc:=wN) (ms:=os2) (i:=i) (j:=j) (some g) (by omega) rfl) rfl rfl ⟨okF,?_⟩
     repeat refine aB ?_
     refine dF (φ:=pJ (st os2 ((3*i+j:Nat):Int) (some g)) 256) (Hv.oSet aA aA) ?_
     refine gL (3 - (j+1)) (⟨j+1,st os2 ((3*i+j:Nat):Int) (some g),by omega,rfl,by rw [oP];exact hol2,fun a b hab h3 hb=>by
      rw [pM (by omega) (by omega)]
      by_cases e:3*a+b=3*i+j
      ·obtain ⟨rfl,rfl⟩:a=i∧b=j:=by omega
       rw [if_pos rfl]
       exact ⟨g,rfl,by rw [hg];unfold colZ;rw [hx,hy]⟩
      ·rw [if_neg e]
       exact ho2 a b (by omega) h3 hb,rfl,rfl,rfl⟩)
    ·repeat refine aB ?_
     refine gL (3 - (j+1)) (⟨j+1,os2,by omega,rfl,hol2,fun a b hab h3 hb=>ho2 a b (by omega) h3 hb,rfl,rfl,rfl⟩)
   ·obtain rfl:j=3:=by omega
    repeat refine aB ?_
    refine gL (4 - (i+1)) (⟨i+1,os2,by omega,rfl,hol2,fun a b ha h3 hb=>ho2 a b (by omega) h3 hb,fun a ha=>by
     by_cases e:a=i
     ·subst e;rw [hx];exact hx0
     ·exact hnz a (by omega),rfl,rfl,rfl⟩)
 ·obtain rfl:i=4:=by omega
  have hnc:¬colP w.t:=fun h=>by
   rcases h with h|h|h|h
   ·exact hnz 0 (by omega) (hk0.trans h)
   ·exact hnz 1 (by omega) (hk1.trans h)
   ·exact hnz 2 (by omega) (hk2.trans h)
   ·exact hnz 3 (by omega) (hk3.trans h)
  obtain ⟨a0,ea0,za0⟩:=ho 0 0 (by omega) (by omega) (by omega)
  obtain ⟨a1,ea1,za1⟩:=ho 0 1 (by omega) (by omega) (by omega)
  obtain ⟨a2,ea2,za2⟩:=ho 0 2 (by omega) (by omega) (by omega)
  obtain ⟨c0,ec0,zc0⟩:=ho 1 0 (by omega) (by omega) (by omega)
  obtain ⟨c1,ec1,zc1⟩:=ho 1 1 (by omega) (by omega) (by omega)
  obtain ⟨c2,ec2,zc2⟩:=ho 1 2 (by omega) (by omega) (by omega)
  obtain ⟨d0,ed0,zd0⟩:=ho 2 0 (by omega) (by omega) (by omega)
  obtain ⟨d1,ed1,zd1⟩:=ho 2 1 (by omega) (by omega) (by omega)
  obtain ⟨d2,ed2,zd2⟩:=ho 2 2 (by omega) (by omega) (by omega)
  have eos:os=[some a0,some a1,some a2,some c0,some c1,some c2,some d0,some d1,some d2]:=by
   match os,hol with
   |[x0,x1,x2,x3,x4,x5,x6,x7,x8],_=>
    have h0:x0=some a0:=ea0
    have h1:x1=some a1:=ea1
    have h2:x2=some a2:=ea2
    have h3:x3=some c0:=ec0
    have h4:x4=some c1:=ec1
    have h5:x5=some c2:=ec2
    have h6:x6=some d0:=ed0
    have h7:x7=some d1:=ed1
    have h8:x8=some d2:=ed2
    rw [h0,h1,h2,h3,h4,h5,h6,h7,h8]
  subst eos
  have hZ:=fun (a b c:ZE) (ha:some a∈[some a0,some a1,some a2,some c0,some c1,some c2,some d0,some d1,some d2]) (hb:some b∈[some a0,some a1,some a2,some c0,some c1,some c2,some d0,some d1,some d2]) (hc:some c∈[some a0,some a1,some a2,some c0,some c1,some c2,some d0,some d1,some d2]) (I:List aL) (h:pJ [some a0,some a1,some a2,some c0,some c1,some c2,some d0,some d1,some d2] 256∈I)=>(⟨fun X wd hw2=>⟨(hw2 _ h:AllO _ _ X wd).go a ha,(hw2 _ h:AllO _ _ X wd).go b hb,(hw2 _ h:AllO _ _ X wd).go c hc⟩⟩:Hv I (aX ⟨a,b,c⟩ 256))
  refine bG (φ:=aX ⟨a0,a1,a2⟩ 256) (hZ a0 a1 a2 (by simp) (by simp) (by simp) _ aA) ?_
  refine bG (φ:=aX ⟨c0,c1,c2⟩ 256) (hZ c0 c1 c2 (by simp) (by simp) (by simp) _ aA) ?_
  refine bG (φ:=aX ⟨d0,d1,d2⟩ 256) (hZ d0 d1 d2 (by simp) (by simp) (by simp) _ aA) ?_
  have e3:recs wN [some a0,some a1,some a2,some c0,some c1,some c2,some d0,some d1,some d2]=recs mH [⟨a0,a1,a2⟩,⟨c0,c1,c2⟩,⟨d0,d1,d2⟩]:=rfl
  rw [e3]
  repeat refine aB ?_
  (apply bJ;exact eX;exact rfl;exact aA;exact AtsZ.o0 (enc:=mH) (sz:=6) (ms:=[⟨a0,a1,a2⟩,⟨c0,c1,c2⟩,⟨d0,d1,d2⟩]) (i:=0) ⟨by decide,by simp⟩;exact rfl;exact rfl)
  repeat refine aB ?_
  (apply bJ;exact eX;exact rfl;exact aA;exact AtsZ.o0 (enc:=mH) (sz:=6) (ms:=[⟨a0,a1,a2⟩,⟨c0,c1,c2⟩,⟨d0,d1,d2⟩]) (i:=1) ⟨by decide,by simp⟩;exact rfl;exact rfl)
  repeat refine aB ?_
  (apply bJ;exact eX;exact rfl;exact aA;exact AtsZ.o0 (enc:=mH) (sz:=6) (ms:=[⟨a0,a1,a2⟩,⟨c0,c1,c2⟩,⟨d0,d1,d2⟩]) (i:=2) ⟨by decide,by simp⟩;exact rfl;exact rfl)
  repeat refine aB ?_
  (refine bD rfl (hR ⟨a0,a1,a2⟩ ⟨c0,c1,c2⟩ ⟨d0,d1,d2⟩ _ _ aA aA aA) ?_;rintro _ _ _ ⟨rfl,rfl,rfl⟩;refine aN ?_)
  (refine bD rfl (hT ⟨⟨a0,a1,a2⟩,⟨c0,c1,c2⟩,⟨d0,d1,d2⟩⟩ _ _ aA) ?_;rintro _ _ _ ⟨rfl,rfl,rfl⟩;refine aN ?_)
  repeat refine aB ?_
  refine dW (rs:=[.cell 2 44, .tmp 3]) (vs:=[hv9 (HZ.tr ⟨⟨a0,a1,a2⟩,⟨c0,c1,c2⟩,⟨d0,d1,d2⟩⟩), .bool true]) (.inl rfl) rfl (.cellN (cs:=vU (HZ.tr ⟨⟨a0,a1,a2⟩,⟨c0,c1,c2⟩,⟨d0,d1,d2⟩⟩)) inferInstance rfl aA rfl (.tmp rfl .nil)) rfl M0 (iY (HZ.tr ⟨⟨a0,a1,a2⟩,⟨c0,c1,c2⟩,⟨d0,d1,d2⟩⟩) 256::I0) aF aC ⟨rfl,by
   rw [if_neg hnc]
   refine ⟨_,rfl,?_,rfl⟩
   have q0:(⟨a0,a1,a2⟩:TZ).t=w.p.t.smul w.t.k0:=by show (⟨a0.z,a1.z,a2.z⟩:T3 Int)=_;rw [za0,za1,za2,←hk0];rfl
   have q1:(⟨c0,c1,c2⟩:TZ).t=w.q.t.smul w.t.k1:=by show (⟨c0.z,c1.z,c2.z⟩:T3 Int)=_;rw [zc0,zc1,zc2,←hk1];rfl
   have q2:(⟨d0,d1,d2⟩:TZ).t=w.r.t.smul w.t.k2:=by show (⟨d0.z,d1.z,d2.z⟩:T3 Int)=_;rw [zd0,zd1,zd2,←hk2];rfl
   rw [HZ.tr_m]
   show (M9.mk (⟨a0,a1,a2⟩:TZ).t (⟨c0,c1,c2⟩:TZ).t (⟨d0,d1,d2⟩:TZ).t).tr=_
   rw [q0,q1,q2]
   rfl⟩
end
theorem os4 {α:Type} [Inhabited α] {os:List α} (h:os.length=4):os=[gt os 0,gt os 1,gt os 2,gt os 3]:=by
 match os,h with
 |[_,_,_,_],_=>rfl
abbrev z24:List Value:=recs wT [none,none,none,none]
def aWX (ps:List Q4) (M0:List Ent) (I0:List aL) (v:Value) (M:List Ent) (I:List aL):Prop:=M0=M∧if colP (l4 ps)∨colP (m4 ps) then (I0=I∧v= .tuple #[.agg z18.toArray, .int .i64 13]) else ∃(h:HZ) (g:Int),v= .tuple #[hv9 h, .int .i64 0]∧g≠0∧(fA h.m).map (fun x=>x*g)=fA (lI ps)∧RedL (fA h.m)∧I=iY h 772::I0
section
variable {X:List Nat} {w0:World} {M0:List Ent} {I0:List aL}
theorem aYN {ps:List Q4} (hp:ps.length=4) (hs:∀s∈ps,s.near):CD Tryz.prog 10 [.agg (recs gX ps).toArray] X w0 M0 I0 (aWX ps M0 I0):=by
 have hB:=fun (w:QZ) M0 I0 h1=>bCC (X:=X) (w0:=w0) (M0:=M0) (I0:=I0) (w:=w) h1
 unfold aWX
 refine aR Tryz.func10 rfl Tryz.ntmps10 rfl ?_
 refine gG ?_
 refine gN rfl (fun b1=>?_)
 refine aH (cs:=recs gX ps) .here ?_
 refine cK (fun b2=>?_)
 repeat refine aB ?_
 refine cK (fun b4=>?_)
 refine cK (fun b5=>?_)
 repeat refine aB ?_
 (apply dS;exact eX;exact rfl;exact aA;exact AtsZ.all (by rw [fG,hp]);exact rfl;exact rfl)
 repeat refine aB ?_
 refine bG (φ:=allT [none,none,none,none] 63) (Hv.tNil (n:=4)) ?_
 refine lX [2,4,5,12] rfl (fun k G M I=>∃(i:Nat) (o1 o2:List (Option TZ)),i≤4∧k=4 - i∧o1.length=4∧o2.length=4∧(∀j:Nat,j < i→∃e:TZ,gt o1 (j:Int)=some e∧e.t=ptF (gt ps (j:Int)))∧(∀j:Nat,j < i→∃e:TZ,gt o2 (j:Int)=some e∧e.t=ptT (gt ps (j:Int)))∧G=[(13, .int .i64 i)]∧M= .blk b5 (recs wT o2) 101:: .blk b4 (recs wT o1) 101:: .blk b2 z18 44::M0∧I=allT o1 63::allT o2 63::aI (some ⟨b1,0,none⟩) (recs gX ps)::I0) (4) (⟨0,[none,none,none,none],[none,none,none,none],by omega,rfl,rfl,rfl,fun j hj=>absurd hj (by omega),fun j hj=>absurd hj (by omega),rfl,rfl,rfl⟩) ?_
 rintro kk G M I ⟨i,o1,o2,hi,rfl,hl1,hl2,ho1,ho2,rfl,rfl,rfl⟩
 by_cases hii:i < 4
 ·obtain ⟨s,hss⟩:∃s,gt ps (i:Int)=s:=⟨_,rfl⟩
  have hsn:s.near:=hs s (by rw [←hss];exact bF ⟨by omega,by omega⟩)
  have hR1:=fun M0 I0=>aGR (X:=X) (w0:=w0) (M0:=M0) (I0:=I0) hsn.x hsn.y
  have hR2:=fun M0 I0=>aGR (X:=X) (w0:=w0) (M0:=M0) (I0:=I0) hsn.u hsn.v
  have hH1:=fun M0 I0=>aPS (X:=X) (w0:=w0) (M0:=M0) (I0:=I0) hsn.x hsn.y
  have hH2:=fun M0 I0=>aPS (X:=X) (w0:=w0) (M0:=M0) (I0:=I0) hsn.u hsn.v
  repeat refine aB ?_
  (refine aD rfl (fun _=>aAM (cs:=recs gX ps) (vs:=gX s) (i:=(i:Int)) rfl rfl ⟨by omega,by omega⟩ (by rw [←hss];exact aGW ⟨by omega,by omega⟩)) rfl rfl ?_)
  refine cK (fun b7=>?_)
  repeat refine aB ?_
  refine dH rfl (hR1 _ _) ?_
  repeat refine aB ?_
  refine dH rfl (hR2 _ _) ?_
  repeat refine aB ?_
  (repeat refine aG ?_);refine pW (.blk b7 (gX s) 30::M0) (I0) [0,1,2,3,5,6,4,8,7,9,10,11] [2,3,2,1,3,2,0,1,0,0,0,0] mixed ?_
  repeat refine aB ?_
  (refine bD rfl (hH1 _ _) ?_;rintro _ _ _ ⟨rfl,p,rfl,hp1,rfl⟩;refine aN ?_)
  repeat refine yXh ?_
  (refine bD rfl (hH2 _ _) ?_;rintro _ _ _ ⟨rfl,q,rfl,hq1,rfl⟩;refine aN ?_)
  refine fJ (vs:=mH p) rfl rfl rfl (Ones.one p) jJ (StAts.o0 (enc:=wT) (sz:=6) (ms:=o1) (i:=(i:Int)) (some p) ⟨by omega,by omega⟩ rfl) rfl rfl ⟨okF,?_⟩
  repeat refine yXh ?_
  refine fJ (vs:=mH q) rfl rfl rfl (Ones.one q) jJ (StAts.o0 (enc:=wT) (sz:=6) (ms:=o2) (i:=(i:Int)) (some q) ⟨by omega,by omega⟩ rfl) rfl rfl ⟨okF,?_⟩
  repeat refine aB ?_
  refine dF (φ:=allT (st o1 (i:Int) (some p)) 63) (Hv.tSet aA aA) ?_
  refine dF (φ:=allT (st o2 (i:Int) (some q)) 63) (Hv.tSet (os:=o2) (g:=q) aA aA) ?_
  refine gL (4 - (i+1)) (⟨i+1,st o1 (i:Int) (some p),st o2 (i:Int) (some q),by omega,rfl,by rw [oP];exact hl1,by rw [oP];exact hl2,fun t ht=>by
   rw [pM (by omega) (by omega)]
   by_cases e:t=i
   ·subst e
    rw [if_pos rfl,hss]
    exact ⟨p,rfl,hp1⟩
   ·rw [if_neg e]
    exact ho1 t (by omega),fun t ht=>by
   rw [pM (by omega) (by omega)]
   by_cases e:t=i
   ·subst e
    rw [if_pos rfl,hss]
    exact ⟨q,rfl,hq1⟩
   ·rw [if_neg e]
    exact ho2 t (by omega),rfl,rfl,rfl⟩)
 obtain rfl:i=4:=by omega
 obtain ⟨a0,ea0,ta0⟩:=ho1 0 (by omega)
 obtain ⟨a1,ea1,ta1⟩:=ho1 1 (by omega)
 obtain ⟨a2,ea2,ta2⟩:=ho1 2 (by omega)
 obtain ⟨a3,ea3,ta3⟩:=ho1 3 (by omega)
 obtain ⟨c0,ec0,tc0⟩:=ho2 0 (by omega)
 obtain ⟨c1,ec1,tc1⟩:=ho2 1 (by omega)
 obtain ⟨c2,ec2,tc2⟩:=ho2 2 (by omega)
 obtain ⟨c3,ec3,tc3⟩:=ho2 3 (by omega)
 have e1:o1=[some a0,some a1,some a2,some a3]:=by rw [os4 hl1,show gt o1 0=some a0 from ea0,show gt o1 1=some a1 from ea1,show gt o1 2=some a2 from ea2,show gt o1 3=some a3 from ea3]
 have e2:o2=[some c0,some c1,some c2,some c3]:=by rw [os4 hl2,show gt o2 0=some c0 from ec0,show gt o2 1=some c1 from ec1,show gt o2 2=some c2 from ec2,show gt o2 3=some c3 from ec3]
 clear ho1 ho2
 subst e1
 subst e2
 have hZ:=fun (a b c d:TZ) (I:List aL) (h:allT [some a,some b,some c,some d] 63∈I)=>(⟨fun X wd hw2=>by
  have h1:AllT _ _ X wd:=hw2 _ h
  exact ⟨h1.go _ (by simp),h1.go _ (by simp),h1.go _ (by simp),h1.go _ (by simp)⟩⟩:Hv I (rD ⟨a,b,c,d⟩ 63))
 refine bG (φ:=rD ⟨a0,a1,a2,a3⟩ 63) (hZ a0 a1 a2 a3 _ aA) ?_
 refine bG (φ:=rD ⟨c0,c1,c2,c3⟩ 63) (hZ c0 c1 c2 c3 _ aA) ?_
 have w1:(QZ.mk a0 a1 a2 a3).t=l4 ps:=by show (⟨a0.t,a1.t,a2.t,a3.t⟩:P4 Int)=_;rw [ta0,ta1,ta2,ta3];rfl
 have w2:(QZ.mk c0 c1 c2 c3).t=m4 ps:=by show (⟨c0.t,c1.t,c2.t,c3.t⟩:P4 Int)=_;rw [tc0,tc1,tc2,tc3];rfl
 have e3:∀a b c d:TZ,recs wT [some a,some b,some c,some d]=eQZ ⟨a,b,c,d⟩:=fun _ _ _ _=>rfl
 rw [e3,e3]
 have hB1:=hB ⟨a0,a1,a2,a3⟩
 have hB2:=hB ⟨c0,c1,c2,c3⟩
 unfold BasR at hB1 hB2
 rw [w1] at hB1
 rw [w2] at hB2
 by_cases k1:colP (l4 ps)
 ·simp only [if_pos k1] at hB1
  by_cases k2:colP (m4 ps)
  ·simp only [if_pos k2] at hB2
   repeat refine aB ?_
   (refine bD rfl (hB1 _ _ aA) ?_;rintro _ _ _ ⟨rfl,rfl,rfl⟩;refine aN ?_)
   repeat refine aB ?_
   refine cK (fun b8=>?_)
   repeat refine aB ?_
   (refine bD rfl (hB2 _ _ aA) ?_;rintro _ _ _ ⟨rfl,rfl,rfl⟩;refine aN ?_)
   repeat refine aB ?_
   refine cK (fun b10=>?_)
   repeat refine aB ?_
   (refine aD rfl (fun _=>uC (pvs:=[]) (cells:=z18) rfl rfl) rfl rfl ?_)
   repeat refine aB ?_
   refine dW (rs:=[.cell 2 44, .tmp 3]) (vs:=[.agg z18.toArray, .int .i64 13]) (.inl rfl) rfl (.cellN (cs:=z18) inferInstance rfl aA rfl (.tmp rfl .nil)) rfl M0 I0 aF aC ⟨rfl,by rw [if_pos (show colP (l4 ps)∨colP (m4 ps) from .inl k1)];exact ⟨rfl,rfl⟩⟩
  ·simp only [if_neg k2] at hB2
   repeat refine aB ?_
   (refine bD rfl (hB1 _ _ aA) ?_;rintro _ _ _ ⟨rfl,rfl,rfl⟩;refine aN ?_)
   repeat refine aB ?_
   refine cK (fun b8=>?_)
   repeat refine aB ?_
   (refine bD rfl (hB2 _ _ aA) ?_;rintro _ _ _ ⟨rfl,hb,rfl,hbm,rfl⟩;refine aN ?_)
   repeat refine aB ?_
   refine cK (fun b10=>?_)
   repeat refine aB ?_
   (refine aD rfl (fun _=>uC (pvs:=[]) (cells:=z18) rfl rfl) rfl rfl ?_)
   repeat refine aB ?_
   refine dW (rs:=[.cell 2 44, .tmp 3]) (vs:=[.agg z18.toArray, .int .i64 13]) (.inl rfl) rfl (.cellN (cs:=z18) inferInstance rfl aA rfl (.tmp rfl .nil)) rfl M0 I0 aF aC ⟨rfl,by rw [if_pos (show colP (l4 ps)∨colP (m4 ps) from .inl k1)];exact ⟨rfl,rfl⟩⟩
 ·simp only [if_neg k1] at hB1
  by_cases k2:colP (m4 ps)
  ·simp only [if_pos k2] at hB2
   repeat refine aB ?_
   (refine bD rfl (hB1 _ _ aA) ?_;rintro _ _ _ ⟨rfl,ha,rfl,ham,rfl⟩;refine aN ?_)
   repeat refine aB ?_
   refine cK (fun b8=>?_)
   repeat refine aB ?_
   (refine bD rfl (hB2 _ _ aA) ?_;rintro _ _ _ ⟨rfl,rfl,rfl⟩;refine aN ?_)
   repeat refine aB ?_
   refine cK (fun b10=>?_)
   repeat refine aB ?_
   (refine aD rfl (fun _=>uC (pvs:=[]) (cells:=z18) rfl rfl) rfl rfl ?_)
   repeat refine aB ?_
   refine dW (rs:=[.cell 2 44, .tmp 3]) (vs:=[.agg z18.toArray, .int .i64 13]) (.inl rfl) rfl (.cellN (cs:=z18) inferInstance rfl aA rfl (.tmp rfl .nil)) rfl M0 I0 aF aC ⟨rfl,by rw [if_pos (show colP (l4 ps)∨colP (m4 ps) from .inr k2)];exact ⟨rfl,rfl⟩⟩
  ·simp only [if_neg k2] at hB2
   repeat refine aB ?_
   (refine bD rfl (hB1 _ _ aA) ?_;rintro _ _ _ ⟨rfl,ha,rfl,ham,rfl⟩;refine aN ?_)
   repeat refine aB ?_
   refine cK (fun b8=>?_)
   repeat refine aB ?_
   (refine bD rfl (hB2 _ _ aA) ?_;rintro _ _ _ ⟨rfl,hb,rfl,hbm,rfl⟩;refine aN ?_)
   repeat refine aB ?_
   refine cK (fun b10=>?_)
   repeat refine aB ?_
   have hC:=fun M0 I0 h1=>bCX (X:=X) (w0:=w0) (M0:=M0) (I0:=I0) (h:=ha) (u:=256) (by omega) h1
   have hT:=fun (c:HZ) M0 I0 h1=>aJM (X:=X) (w0:=w0) (M0:=M0) (I0:=I0) (h:=c) (u:=513) h1
   have hP:=fun (c:HZ) M0 I0 h1 h2=>aYR (X:=X) (w0:=w0) (M0:=M0) (I0:=I0) (g:=hb) (h:=c) (ku:=256) (m:=513) (by omega) (by omega) h1 h2
   have hRd:=fun (p:HZ) (hnz:∃x∈fA p.m,x≠0) M0 I0 h1=>bBS (X:=X) (w0:=w0) (M0:=M0) (I0:=I0) (h:=p) (u:=772) (by omega) hnz h1
   (repeat refine aG ?_);refine pW (.blk b10 (vU hb) 44:: .blk b8 (vU ha) 44::M0) (I0) [0,1,2,3,4,5,6,7] [3,3,0,0,0,0,0,0] mixed ?_
   repeat refine aB ?_
   (refine bD rfl (hC _ _ aA) ?_;rintro _ _ _ ⟨rfl,c,rfl,hc,rfl⟩;refine aN ?_)
   (refine bD rfl (hT c _ _ aA) ?_;rintro _ _ _ ⟨rfl,rfl,rfl⟩;refine aN ?_)
   (refine bD rfl (hP c.tr _ _ aA aA) ?_;rintro _ _ _ ⟨rfl,p,rfl,hpm,rfl⟩;refine aN ?_)
   have hpG:p.m=lI ps:=by rw [hpm,HZ.tr_m,hc,ham,hbm];rfl
   (refine bR rfl (hRd p (by rw [hpG];exact aIH k1 k2) _ _ aA) rfl rfl ?_;rintro _ _ _ ⟨rfl,r,g,rfl,hg0,hrm,hrr,rfl⟩;refine aN ?_)
   rw [hpG] at hrm
   repeat refine aB ?_
   refine dW (rs:=[.cell 2 44, .tmp 3]) (vs:=[hv9 r, .int .i64 0]) (.inl rfl) rfl (.cellN (cs:=vU r) inferInstance rfl aA rfl (.tmp rfl .nil)) rfl M0 (iY r 772::I0) aF aC ⟨rfl,by rw [if_neg (show ¬(colP (l4 ps)∨colP (m4 ps)) from fun h=>h.elim k1 k2)];exact ⟨r,g,rfl,hg0,hrm,hrr,rfl⟩⟩
theorem aXB {x:ZE}:CD Tryz.prog 108 [nv x] X w0 M0 I0 (fun v M I=>M0=M∧I0=I∧v= .bool (B (x.z≠0))):=by
 refine aR Tryz.func108 rfl Tryz.ntmps108 rfl ?_
 refine gG ?_
 refine gN rfl (fun b1=>?_)
 repeat refine aB ?_
 refine fC (M':=M0) (I':=I0) aF aC ?_
 refine iR rfl rfl (⟨rfl,rfl,congrArg Value.bool (iZ (by
  have h0:gr x.z.natAbs=[]↔x.z.natAbs=0:=oZ
  rw [←List.length_eq_zero_iff] at h0
  omega))⟩)
theorem bBX {b:Nat} {es:List ZE} {T:TypeId} (hl:es.length=9) (hm:Ent.blk b (recs eN es) T∈M0) (hnz:∃j:Nat,j < 9∧(gt es (j:Int)).z≠0):
  CD Tryz.prog 107 [.slice (some ⟨b,0,none⟩) 9 9, .func (.func 108) #[] #[]] X w0 M0 I0 (fun v M I=>M0=M∧I0=I∧∃f:Nat,v= .int .i64 (f:Int)∧f < 9∧(gt es (f:Int)).z≠0∧∀j:Nat,j < f→(gt es (j:Int)).z=0):=by
 have hC:=fun (x:ZE) M0 I0=>aXB (X:=X) (w0:=w0) (M0:=M0) (I0:=I0) (x:=x)
 refine aM Tryz.func107 rfl Tryz.ntmps107 rfl ?_
 repeat refine aB ?_
 refine lX [0,1,7] rfl (fun k G M I=>∃(i:Nat),i≤9∧k=9 - i∧(∀j:Nat,j < i→(gt es (j:Int)).z=0)∧G=[(8, .int .i64 i)]∧M=M0∧I=I0) (9) (⟨0,by omega,rfl,fun j hj=>absurd hj (by omega),rfl,rfl,rfl⟩) ?_
 rintro kk G M I ⟨i,hi,rfl,hz,rfl,rfl,rfl⟩
 by_cases hii:i < 9
 ·obtain ⟨x,hx⟩:∃x,gt es (i:Int)=x:=⟨_,rfl⟩
  repeat refine aB ?_
  rw [hx]
  (refine dJ rfl rfl (hC x _ _) rfl rfl rfl ?_;rintro _ _ _ ⟨rfl,rfl,rfl⟩;refine aN ?_)
  by_cases hx0:x.z=0
  ·rw [bH (show ¬x.z≠0 from fun h=>h hx0)]
   repeat refine aB ?_
   refine gL (9 - (i+1)) (⟨i+1,by omega,rfl,fun j hj=>by
    by_cases e:j=i
    ·subst e;rw [hx];exact hx0
    ·exact hz j (by omega),rfl,rfl,rfl⟩)
  ·rw [bK (show x.z≠0 from hx0)]
   repeat refine aB ?_
   refine aU (by first|exact .inl rfl|exact .inr rfl) rfl rfl _ _ aF aC (⟨rfl,rfl,i,rfl,hii,by rw [hx];exact hx0,hz⟩)
 ·obtain ⟨j,hj,hj0⟩:=hnz
  exact absurd (hz j (by omega)) hj0
theorem aMP {x:ZE} {u:Nat} (hu:u≤100000000000) (hx:jF x u∈I0):CD Tryz.prog 189 [nv x] X w0 M0 I0 (fun v M I=>M0=M∧I0=I∧v=nv x):=by
 have hV:=fun M0 I0 h1=>rY (X:=X) (w0:=w0) (M0:=M0) (I0:=I0) (u:=nv x) (z:=x.z) (k:=u) (by omega) h1
 refine CD.mono (K:=fun v M I=>M0=M∧I0=I∧v=nv x) ?_ (fun _ _ _ h=>h)
 refine aR Tryz.func189 rfl Tryz.ntmps189 rfl ?_
 refine gG ?_
 refine gN rfl (fun b1=>?_)
 refine cK (fun b2=>?_)
 repeat refine aB ?_
 refine dH rfl (hV _ _ aA) ?_
 repeat refine aB ?_
 refine aO (cs:=eN x) (.inl rfl) rfl rfl aA rfl M0 I0 aF aC ⟨rfl,rfl,rfl⟩
theorem bAL {x y:ZE} {u:Nat} (hu:u≤100000000000) (hy0:y.z≠0) (hx:jF x u∈I0) (hy:jF y u∈I0):CD Tryz.prog 109 [nv x,nv y] X w0 M0 I0 (RQc (Rat.divInt x.z y.z) u M0 I0):=by
 have hC:=fun (x:ZE) M0 I0 h=>aMP (X:=X) (w0:=w0) (M0:=M0) (I0:=I0) (x:=x) (u:=u) hu h
 have hS:=fun M0 I0 h=>qG (X:=X) (w0:=w0) (M0:=M0) (I0:=I0) (u:=nv y) (z:=y.z) (k:=u) (by omega) h
 have hR:=fun M0 I0 h1 h2=>vV (X:=X) (w0:=w0) (M0:=M0) (I0:=I0) (u:=nv x) (v:=nv y) (n:=x.z) (d:=y.z) (k:=u) (by omega) hy0 h1 h2
 have hs0:¬y.z.sign=0:=fun h=>hy0 (Int.sign_eq_zero_iff_zero.1 h)
 refine aM Tryz.func109 rfl Tryz.ntmps109 rfl ?_
 refine gG ?_
 refine gN rfl (fun b2=>?_)
 refine gN rfl (fun b3=>?_)
 refine cK (fun b4=>?_)
 repeat refine aB ?_
 (repeat refine aG ?_);refine aW 2 [0,2,1,3,4,5] [1,2,0,0,0,0] mixed (by kernel_rfl) ?_
 repeat refine aB ?_
 refine dH rfl (hC x _ _ aA) ?_
 repeat refine aB ?_
 refine dH rfl (hC y _ _ aA) ?_
 repeat refine aB ?_
 refine dH rfl (hS _ _ aA) ?_
 repeat refine aB ?_
 refine fK rfl (hR _ _ aA aA) (fun e he=>?_)
 repeat refine aB ?_
 refine dW (rs:=[.cell 4 77, .tmp 5]) (vs:=[rv e, .int .i64 0]) (.inl rfl) rfl (.cellN (cs:=eR e) inferInstance rfl aA rfl (.tmp rfl .nil)) rfl M0 (bL e u::I0) aF aC ⟨rfl,e,rfl,he,rfl⟩
end
theorem aQN:∀(l:List Int) (f:Nat),l.getD f 0≠0→(∀j,j < f→l.getD j 0=0)→qP (l.map (fun x:Int=>(x:Rat)))=((l.getD f 0:Int):Rat)
 |[],f,h,_=>absurd (by simp) h
 |x::r,0,h,_=>by
  have hx:x≠0:=h
  show (if ((x:Int):Rat)=0 then _ else ((x:Int):Rat))=_
  rw [if_neg (int_ne hx)]
  rfl
 |x::r,f+1,h,hz=>by
  have hx:x=0:=hz 0 (by omega)
  show (if ((x:Int):Rat)=0 then qP (r.map (fun x:Int=>(x:Rat))) else _)=_
  rw [if_pos (by rw [hx];rfl)]
  exact aQN r f h (fun j hj=>hz (j+1) (by omega))
def qH (h:HZ) (f i:Nat):Rat:=Rat.divInt (gt h.l (i:Int)).z (gt h.l (f:Int)).z
theorem xP {h:HZ} {i:Nat} (hi:i < 9):(fA h.m).getD i 0=(gt h.l (i:Int)).z:=by
 obtain rfl|rfl|rfl|rfl|rfl|rfl|rfl|rfl|rfl:i=0∨i=1∨i=2∨i=3∨i=4∨i=5∨i=6∨i=7∨i=8:=by omega
 all_goals rfl
theorem bER {ps:List Q4} {h:HZ} {g:Int} {f:Nat} (hg:g≠0) (hm:(fA h.m).map (fun x=>x*g)=fA (lI ps)) (hf:f < 9) (h0:(gt h.l (f:Int)).z≠0) (hz:∀j:Nat,j < f→(gt h.l (j:Int)).z=0):
  [[qH h f 0,qH h f 1,qH h f 2],[qH h f 3,qH h f 4,qH h f 5],[qH h f 6,qH h f 7,qH h f 8]]=aFZ (qL (fA (iI (lI ps)))):=by
 have e1:fA (iI (lI ps))=((fA h.m).map (fun x:Int=>(x:Rat))).map (fun x=>(g:Rat)*x):=by
  show (fA (lI ps)).map (fun x:Int=>(x:Rat))=_
  rw [←hm,List.map_map,List.map_map]
  refine List.map_congr_left (fun x _=>?_)
  show ((x*g:Int):Rat)=(g:Rat)*(x:Rat)
  rw [Rat.intCast_mul,Rat.mul_comm]
 have e2:=aQN (fA h.m) f (by rw [xP hf];exact h0) (fun j hj=>by rw [xP (by omega)];exact hz j hj)
 rw [xP hf] at e2
 rw [e1,aBU (int_ne hg)]
 unfold qL
 rw [e2]
 have e3:∀a:Int,Rat.divInt a (gt h.l (f:Int)).z=(a:Rat) / ((gt h.l (f:Int)).z:Rat):=fun a=>Rat.divInt_eq_div _ _
 unfold qH
 simp only [e3]
 rfl
abbrev zRL:RL:=⟨none,0,[]⟩
def rwH (h:HZ) (f r:Nat):List (List Rat):=(List.range r).map (fun a=>(List.range 3).map (fun b=>qH h f (3*a+b)))
theorem aWE {h:HZ} {f r:Nat}:rwH h f (r+1)=rwH h f r++[(List.range 3).map (fun b=>qH h f (3*r+b))]:=by unfold rwH;rw [show List.range (r+1)=List.range r++[r] from List.range_succ,List.map_append];rfl
section
variable {X:List Nat} {w0:World} {M0:List Ent} {I0:List aL}
theorem aKD {q qs_:Option Addr} {l:List Q4} {smp:List Int} {n c cs:Nat} (hl:l.length=n) (hn:n≤64) (hs:∀s∈l,s.near) (hsl:smp.length=4) (hin:∀x∈smp,0≤x∧x < n) (hq:aI q (recs gX l)∈I0):
  CD Tryz.prog 44 [.int .i64 3, .slice q n c, .slice qs_ 4 cs] X w0 (.row qs_ 4 cs (recs eZ smp) 3 1::M0) I0 (aFX (aAN (bM l smp)) kX (.row qs_ 4 cs (recs eZ smp) 3 1::M0) I0):=by
 refine aV (φ:=aI q (recs gX l)) (Hv.mem hq) ?_
 refine iC Tryz.func44 rfl Tryz.ntmps44 rfl ?_
 repeat refine aB ?_
 refine gZ 30 4 ?_
 refine lX [0,1,19,20] rfl (fun k G M I=>∃(i:Nat) (ps:List Q4) (qe:Option Addr) (ce:Nat),i≤4∧k=4 - i∧ps=bM l (smp.take i)∧G=[(8, .slice qe ps.length ce),(21, .int .i64 i)]∧M= .row qe ps.length ce (recs gX ps) 30 4:: .row qs_ 4 cs (recs eZ smp) 3 1::M0∧I=aI q (recs gX l)::I0) (4) (⟨0,[],none,0,by omega,rfl,rfl,rfl,rfl,rfl⟩) ?_
 rintro kk G M I ⟨i,ps,qe,ce,hi,rfl,hps,rfl,rfl,rfl⟩
 have hpl:ps.length=i:=by rw [hps,oC,List.length_take];omega
 by_cases hin2:i < 4
 ·have hz:=hin _ (bF (ms:=smp) (i:=(i:Int)) (by omega))
  have ht:smp.take (i+1)=smp.take i++[gt smp (i:Int)]:=by rw [gtQ (by omega)];exact (List.take_append_getElem (by omega)).symm
  repeat refine aB ?_
  refine gK (cs:=recs gX [gt l (gt smp (i:Int))]) ([vQ4 (gt l (gt smp (i:Int)))]) rfl (fun b=>?_)
  refine wM (ys:=[gt l (gt smp (i:Int))]) 1 rfl rfl rfl (fun q2 c2=>?_)
  repeat refine aB ?_
  refine gL (4 - (i+1)) (⟨i+1,ps++[gt l (gt smp (i:Int))],q2,c2,by omega,rfl,by rw [ht,wE,←hps],rfl,rfl,rfl⟩)
 obtain rfl:i=4:=by omega
 rw [←hsl,List.take_length] at hps
 have hnr:=zG hs (by rw [hl];exact hin)
 rw [←hps] at hnr ⊢
 have hF:=fun M0 I0=>aYN (X:=X) (w0:=w0) (M0:=M0) (I0:=I0) (ps:=ps) hpl hnr
 unfold aWX at hF
 refine aHE (fun _ e _=>by omega) (fun b tl hqe hce=>?_)
 subst hqe
 rw [hpl]
 repeat refine aB ?_
 (refine aD rfl (fun _=>aOX rfl (by omega)) rfl rfl ?_)
 (apply bJ;exact eX;exact rfl;exact aA;exact AtsZ.app (AtsZ.all (by rw [fG,hpl]));exact rfl;exact rfl)
 repeat refine aB ?_
 by_cases hc:colP (l4 ps)∨colP (m4 ps)
 ·have hp:aAN ps=none:=by unfold aAN;rw [if_pos hc]
  rw [hp]
  simp only [if_pos hc] at hF
  (refine bD rfl (hF _ _) ?_;rintro _ _ _ ⟨rfl,rfl,rfl⟩;refine aN ?_)
  repeat refine aB ?_
  refine cK (fun b11=>?_)
  repeat refine aB ?_
  refine fC (M':= .row qs_ 4 cs (recs eZ smp) 3 1::M0) (I':=I0) aF aC ?_
  refine gJ [6,7] (by first|exact .inl rfl|exact .inr rfl) rfl rfl rfl _ _ aF aC (⟨rfl,rfl,_,rfl⟩)
 have hp:aAN ps=some (aFZ (qL (fA (iI (lI ps))))):=by unfold aAN;rw [if_neg hc]
 rw [hp]
 simp only [if_neg hc] at hF
 (refine bD rfl (hF _ _) ?_;rintro _ _ _ ⟨rfl,h,g,rfl,hg0,hhm,_,rfl⟩;refine aN ?_)
 obtain ⟨hc1,hc2⟩:¬colP (l4 ps)∧¬colP (m4 ps):=⟨fun h=>hc (.inl h),fun h=>hc (.inr h)⟩
 have hnz:∃j:Nat,j < 9∧(gt h.l (j:Int)).z≠0:=Classical.byContradiction (fun hn=>by
  obtain ⟨x,hx,hx0⟩:=aIH hc1 hc2
  rw [←hhm] at hx
  obtain ⟨y,hy,rfl⟩:=List.mem_map.1 hx
  obtain ⟨j,hj,rfl⟩:=List.mem_iff_getElem.1 hy
  have hj9:j < 9:=hj
  refine hn ⟨j,hj9,fun e=>hx0 ?_⟩
  have h2:=xP (h:=h) hj9
  rw [e,List.getD_eq_getElem?_getD,List.getElem?_eq_getElem hj] at h2
  have h3:(fA h.m)[j]=0:=h2
  exact (congrArg (· *g) h3).trans (Int.zero_mul g))
 repeat refine aB ?_
 refine cK (fun b11=>?_)
 repeat refine aB ?_
 (refine aD rfl (fun _=>rF rfl) rfl rfl ?_)
 (refine bD rfl (bBX (b:=b11) (es:=h.l) rfl aA hnz) ?_;rintro _ _ _ ⟨rfl,rfl,f,rfl,hf9,hf0,hfz⟩;refine aN ?_)
 repeat refine aB ?_
 (refine jO (3) rfl rfl (by omega) (by omega) (by omega) (by omega) (rX (enc:=eL) (by decide) zRL 3) rfl rfl ?_;intro bm;refine aN ?_)
 repeat refine aB ?_
 obtain ⟨zf,hzf⟩:∃zf,gt h.l (f:Int)=zf:=⟨_,rfl⟩
 rw [hzf] at hf0
 refine bG (φ:=pJ (h.l.map some) 772) (Hv.hAll aA) ?_
 refine bG (φ:=jF zf 772) (Hv.oAt (os:=h.l.map some) (i:=(f:Int)) aA ⟨by omega,by show (f:Int) < ((9:Nat):Int);omega⟩ (by rw [xM ⟨by omega,by show (f:Int) < ((9:Nat):Int);omega⟩,hzf])) ?_
 refine bG (φ:=aP [] 772) Hv.nilR ?_
 refine bG (φ:=dX [] 772) Hv.nilL ?_
 refine gZ 77 4 ?_
 refine lX [11,13,14,52] rfl (fun k G M I=>∃(r j:Nat) (dn:List RL) (cur:RL) (hdr:List RL),3*r+j≤9∧k=9 - (3*r+j)∧j < 3∧dn.length=r∧cur.es.length=j∧((hdr=dn++cur::List.replicate (2 - r) zRL∧r < 3)∨(hdr=dn∧r=3))∧dn.map RL.q=rwH h f r∧(∀x∈dn,x.es.length=3)∧qs cur.es=(List.range j).map (fun b=>qH h f (3*r+b))∧G=[(53, .int .i64 ((3*r+j:Nat):Int))]∧M= .row cur.p cur.es.length cur.c (recs eR cur.es) 77 4:: .blk bm (recs eL hdr) 70:: .blk b11 (vU h) 44:: .row qs_ 4 cs (recs eZ smp) 3 1::M0∧I=aP cur.es 772::dX dn 772::jF zf 772::pJ (h.l.map some) 772::I0) (9) (⟨0,0,[],zRL,List.replicate 3 zRL,by omega,rfl,by omega,rfl,rfl, .inl ⟨rfl,by omega⟩,rfl,fun x hx=>absurd hx List.not_mem_nil,rfl,rfl,rfl,rfl⟩) ?_
 rintro kk G M I ⟨r,j,dn,cur,hdr,hrj,rfl,hj3,hdl,hcl,hh,hdq,hd3,hcq,rfl,rfl,rfl⟩
 obtain ⟨i,hi⟩:∃i,3*r+j=i:=⟨_,rfl⟩
 rw [hi]
 by_cases hii:i < 9
 ·obtain ⟨hhd,hr3⟩:hdr=dn++cur::List.replicate (2 - r) zRL∧r < 3:=hh.elim id (fun h=>by omega)
  have hhl:hdr.length=3:=by rw [hhd];simp;omega
  have hgr:gt hdr (r:Int)=cur:=by rw [hhd];exact xI (by omega)
  obtain ⟨x,hx⟩:∃x,gt h.l (i:Int)=x:=⟨_,rfl⟩
  refine bG (φ:=jF x 772) (Hv.oAt (os:=h.l.map some) (i:=(i:Int)) aA ⟨by omega,by show (i:Int) < ((9:Nat):Int);omega⟩ (by rw [xM ⟨by omega,by show (i:Int) < ((9:Nat):Int);omega⟩,hx])) ?_
  have hN:=fun M0 I0 h1 h2=>bAL (X:=X) (w0:=w0) (M0:=M0) (I0:=I0) (x:=x) (y:=zf) (u:=772) (by omega) hf0 h1 h2
  unfold RQc at hN
  repeat refine aB ?_
  (refine aD rfl (fun _=>aAM (cs:=recs eN h.l) (vs:=eN x) (i:=(i:Int)) rfl rfl ⟨by omega,by omega⟩ (by rw [←hx];exact aGW ⟨by omega,by show (i:Int) < ((9:Nat):Int);omega⟩)) rfl rfl ?_)
  refine cK (fun b16=>?_)
  repeat refine aB ?_
  refine jQ (fun G M I=>∃(b17:Nat) (e:RE),e.q=Rat.divInt x.z zf.z∧G=[(11, .pointer (some ⟨b11,0,none⟩)),(13, .int .i64 (f:Int)),(14, .slice (some ⟨bm,0,none⟩) 3 3),(15, .int .i64 (i:Int)),(17, .pointer (some ⟨b17,0,none⟩)),(52,hv9 h),(53, .int .i64 (i:Int))]∧M= .blk b17 (eR e) 77:: .row cur.p cur.es.length cur.c (recs eR cur.es) 77 4:: .blk bm (recs eL hdr) 70:: .blk b11 (vU h) 44:: .row qs_ 4 cs (recs eZ smp) 3 1::M0∧I=bL e 772::aP cur.es 772::dX dn 772::jF zf 772::pJ (h.l.map some) 772::I0) ?_ ?_
  ·((repeat refine aG ?_);refine lU (.blk b16 (eN x) 42:: .row cur.p cur.es.length cur.c (recs eR cur.es) 77 4:: .blk bm (recs eL hdr) 70:: .blk b11 (vU h) 44:: .row qs_ 4 cs (recs eZ smp) 3 1::M0) (jF x 772::aP cur.es 772::dX dn 772::jF zf 772::pJ (h.l.map some) 772::I0) mixed ?_)
   refine cB (fuel:=7) (listed':=#[true,true,true,true,false,false,false,false,false,false,false]) [0,1,2,3] [1,2,2,1] aF aC (by kernel_rfl) (by kernel_rfl) rfl rfl ?_
   repeat refine aB ?_
   ((apply bJ;exact eX;exact rfl;exact aA;exact AtsZ.o0 (enc:=eN) (sz:=2) (ms:=h.l) (i:=(f:Int)) ⟨by omega,by show (f:Int) < ((9:Nat):Int);omega⟩;exact rfl;exact rfl);rw [hzf])
   repeat refine aB ?_
   refine aS (fuel:=6) (i:=4) (j:=8) (by kernel_rfl) ?_ ?_
   ·(refine bD rfl (hN _ _ aA aA) ?_;rintro _ _ _ ⟨rfl,e,rfl,he,rfl⟩;refine aN ?_)
    refine bE ?_
    refine aY [5,6,7,8,9,10] [1,1,2,0,0,0] aF aC (by kernel_rfl) (by kernel_rfl) rfl rfl ?_
    repeat refine aB ?_
    refine cK (fun b17=>?_)
    repeat refine aB ?_
    refine tV ⟨b17,e,he,rfl,rfl,rfl⟩
   ·refine cK (fun b17=>?_)
    refine bE ?_
    refine aY [4,5,6,7,9,10] [0,0,0,1,0,0] aF aC (by kernel_rfl) (by kernel_rfl) rfl rfl ?_
    repeat refine aB ?_
    (refine bD rfl (hN _ _ aA aA) ?_;rintro _ _ _ ⟨rfl,e,rfl,he,rfl⟩;refine aN ?_)
    repeat refine aB ?_
    refine tV ⟨b17,e,he,rfl,rfl,rfl⟩
  rintro G M I ⟨b17,e,he,rfl,rfl,rfl⟩
  have hir:Int.tdiv (i:Int) 3=(r:Int):=by rw [Int.tdiv_eq_ediv_of_nonneg (by omega)];omega
  have hcq2:qs (cur.es++[e])=(List.range (j+1)).map (fun b=>qH h f (3*r+b)):=by
   show (cur.es++[e]).map RE.q=_
   rw [List.map_append,show cur.es.map RE.q=qs cur.es from rfl,hcq,List.range_succ,List.map_append]
   show _++[e.q]=_++[qH h f (3*r+j)]
   rw [he]
   unfold qH
   rw [hi,hx,hzf]
  (repeat refine aG ?_);refine nV 2 (.blk b17 (eR e) 77:: .blk bm (recs eL hdr) 70:: .blk b11 (vU h) 44:: .row qs_ 4 cs (recs eZ smp) 3 1::M0) (I0) [0,1,2,3,4,5,6,7,8,9,10,11,12] [2,2,2,2,2,2,2,1,1,0,0,0,0] aF aC mixed (by kernel_rfl) ?_
  repeat refine aB ?_
  rw [hir]
  repeat refine aB ?_
  rw [hgr]
  repeat refine aB ?_
  refine gK (cs:=recs eR [e]) ([rv e]) rfl (fun b18=>?_)
  refine wM (ys:=[e]) 2 rfl rfl rfl (fun q2 c3=>?_)
  repeat refine yXh ?_
  refine nH rfl rfl rfl jJ (StAt.r1 (⟨q2,c3,cur.es++[e]⟩:RL) ⟨by omega,by omega⟩ rfl) rfl rfl ⟨okF,?_⟩
  rw [hhd,wS (by omega)]
  repeat refine aB ?_
  refine dF (φ:=aP (cur.es++[e]) 772) (Hv.snoc aA aA) ?_
  by_cases hj2:j < 2
  ·rw [show (i:Int)+1=((3*r+(j+1):Nat):Int) by omega]
   refine gL (9 - (3*r+(j+1))) (⟨r,j+1,dn,⟨q2,c3,cur.es++[e]⟩,dn++(⟨q2,c3,cur.es++[e]⟩:RL)::List.replicate (2 - r) zRL,by omega,rfl,by omega,hdl,by simp [hcl], .inl ⟨rfl,hr3⟩,hdq,hd3,hcq2,rfl,rfl,rfl⟩)
  ·obtain rfl:j=2:=by omega
   rw [show (i:Int)+1=((3*(r+1)+0:Nat):Int) by omega]
   refine fC (M':= .row q2 (cur.es++[e]).length c3 (recs eR (cur.es++[e])) 77 4:: .blk bm (recs eL (dn++(⟨q2,c3,cur.es++[e]⟩:RL)::List.replicate (2 - r) zRL)) 70:: .blk b11 (vU h) 44:: .row qs_ 4 cs (recs eZ smp) 3 1::M0) (I':=aP (cur.es++[e]) 772::dX dn 772::jF zf 772::pJ (h.l.map some) 772::I0) aF aC ?_
   refine aEK (k:=772) aA ?_
   refine dF (φ:=dX (dn++[(⟨q2,c3,cur.es++[e]⟩:RL)]) 772) (Hv.snocL aA aA) ?_
   refine dF (φ:=aP [] 772) Hv.nilR ?_
   refine yO (fun _ hw=>hw.row0 77 4) ?_
   refine gL (9 - (3*(r+1)+0)) (⟨r+1,0,dn++[(⟨q2,c3,cur.es++[e]⟩:RL)],zRL,dn++(⟨q2,c3,cur.es++[e]⟩:RL)::List.replicate (2 - r) zRL,by omega,rfl,by omega,by simp [hdl],rfl,by
    by_cases h2:r=2
    ·subst h2;exact .inr ⟨rfl,rfl⟩
    ·refine .inl ⟨?_,by omega⟩
     obtain ⟨d,hd⟩:∃d,2 - r=d+1:=⟨1 - r,by omega⟩
     rw [hd,show 2 - (r+1)=d by omega,List.append_assoc]
     rfl,by rw [List.map_append,hdq,aWE];show _++[qs (cur.es++[e])]=_;rw [hcq2],fun x hx=>by
    rcases List.mem_append.1 hx with h1|h1
    ·exact hd3 x h1
    ·rw [List.mem_singleton.1 h1];simp [hcl],rfl,rfl,rfl,rfl⟩)
 ·obtain ⟨rfl,hr⟩:hdr=dn∧r=3:=hh.elim (fun h=>by omega) id
  subst hr
  match hdr,hdl with
  |[d0,d1,d2],_=>
   refine rJ (M':= .blk bm (recs eL [d0,d1,d2]) 70:: .row qs_ 4 cs (recs eZ smp) 3 1::M0) (I':=dX [d0,d1,d2] 772::I0) aF aC ?_
   refine zT (C:=3) rfl (by omega) aA ?_
   refine bG (φ:=gI ⟨some ⟨bm,0,none⟩,3,[d0,d1,d2]⟩ kX) (Hv.xm (k:=772) aA (by show 772≤103842564;omega)) ?_
   repeat refine aB ?_
   refine fC (M':= .row qs_ 4 cs (recs eZ smp) 3 1::M0) (I':=gI ⟨some ⟨bm,0,none⟩,3,[d0,d1,d2]⟩ kX::I0) aF aC ?_
   refine gJ [6,7] (by first|exact .inl rfl|exact .inr rfl) rfl rfl rfl _ _ aF aC (⟨rfl,⟨some ⟨bm,0,none⟩,3,[d0,d1,d2]⟩,rfl,by rw [show MX.q ⟨some ⟨bm,0,none⟩,3,[d0,d1,d2]⟩=[d0,d1,d2].map RL.q from rfl,hdq];exact bER hg0 hhm hf9 (by rw [hzf];exact hf0) hfz,⟨rfl,hd3⟩,rfl⟩)
end
def aAU (kd:Nat) (l:List Q4) (smp:List Int):Option Mt:=if kd=3 then aAN (bM l smp) else qQ kd (bM l smp)
def SameB (o o':Option (List Int × List Int × Mt)):Prop:=(o=none∧o'=none)∨∃g g',o=some g∧o'=some g'∧g.1=g'.1∧g.2.1=g'.2.1
theorem bFH {kd:Nat} (h:kd≤2):lG kd=2*(kd+1):=by
 obtain rfl|rfl|rfl:kd=0∨kd=1∨kd=2:=by omega
 all_goals rfl
def movQ (a b:Int) (ex tu:Bool) (s:Q4):Q4:=(if tu then turnQ else id) ((if ex then exchQ else id) (bFI a b s))
section
variable {X:List Nat} {w0:World} {M0:List Ent} {I0:List aL}
theorem aVJ {kd:Nat} {tol:Int} {q:Option Addr} {l:List Q4} {n c:Nat} (hk:kd≤3) (hl:l.length=n) (hn:n≤12) (hc:lF l=0) (ht:tolP tol) (hq:aI q (recs gX l)∈I0):
  CD Tryz.prog 9 [.int .i64 (kd:Int), .slice q n c, .int .i64 tol] X w0 M0 I0 (aUV (nC (aAU kd l) (fun A=>iJ A l tol) (cmb n (kd+1) 0)) (kd:Int) M0 I0):=by
 obtain ⟨_,hs⟩:=aAE hc
 refine aQT hk hl hn hc ht hq (fun smp qs_ cs hsm M0 I0 h=>?_)
 have hin:∀x∈smp,0≤x∧x < (n:Int):=fun x hx=>by have:=hsm.2 x hx;omega
 unfold aAU
 by_cases h3:kd=3
 ·subst h3
  rw [if_pos rfl]
  exact aKD hl (by omega) hs hsm.1 hin h
 ·rw [if_neg h3]
  exact aEV (by omega) hl (by omega) hs hsm.1 (by omega) hin h
end
structure SameH (ps qs:List Q4):Prop where
 l:colP (l4 ps)↔colP (l4 qs)
 m:colP (m4 ps)↔colP (m4 qs)
 h:¬colP (l4 qs)→¬colP (m4 qs)→∃c:Rat,c≠0∧fA (iI (lI ps))=(fA (iI (lI qs))).map (fun x=>c*x)
theorem aTO (qs:List Q4):(iI (lI qs)).app (dG (l4 qs)).p=(dG (m4 qs)).p.smul ((dG (m4 qs)).k0*(dG (l4 qs)).k1*(dG (l4 qs)).k2*(dG (l4 qs)).k3)∧(iI (lI qs)).app (dG (l4 qs)).q=(dG (m4 qs)).q.smul ((dG (m4 qs)).k1*(dG (l4 qs)).k0*(dG (l4 qs)).k2*(dG (l4 qs)).k3)∧(iI (lI qs)).app (dG (l4 qs)).r=(dG (m4 qs)).r.smul ((dG (m4 qs)).k2*(dG (l4 qs)).k0*(dG (l4 qs)).k1*(dG (l4 qs)).k3)∧(iI (lI qs)).app (dG (l4 qs)).s=(dG (m4 qs)).s.smul ((dG (m4 qs)).k3*(dG (l4 qs)).k0*(dG (l4 qs)).k1*(dG (l4 qs)).k2):=by
 have h:=aKZ (dG (l4 qs)) (dG (m4 qs))
 rw [←aBT] at h
 exact h
def ex5:List Q4:=[⟨0,0,0,0⟩,⟨1,0,2,0⟩,⟨1,1,2,2⟩,⟨0,1,0,2⟩,⟨5,7,1,0⟩]
theorem aEY {m m':Mt} {c:Rat} (hc:c≠0) (h:∀i j,i < 3→j < 3→at2 m' i j=c*at2 m i j) (l:List Q4) (tol:Int):∀n,aBY m' l tol n=aBY m l tol n
 |0=>rfl
 |n+1=>by
  obtain ⟨h1,h2⟩:=aYB hc h (gt l (n:Int))
  have e:okQ m' tol (gt l (n:Int))↔okQ m tol (gt l (n:Int)):=by
   unfold okQ
   rw [h2]
   exact ⟨fun ⟨a,b⟩=>⟨fun e=>a (h1.2 e),b⟩,fun ⟨a,b⟩=>⟨fun e=>a (h1.1 e),b⟩⟩
  show (if okQ m' tol (gt l (n:Int)) then _ else _)=(if okQ m tol (gt l (n:Int)) then _ else _)
  rw [aEY hc h l tol n]
  by_cases h0:okQ m tol (gt l (n:Int))
  ·rw [if_pos h0,if_pos (e.2 h0)]
  ·rw [if_neg h0,if_neg (fun h=>h0 (e.1 h))]
theorem aND {m m':Mt} {c:Rat} (hc:c≠0) (h:∀i j,i < 3→j < 3→at2 m' i j=c*at2 m i j) (l:List Q4) (tol:Int):iJ m' l tol=iJ m l tol:=aEY hc h l tol _
def inlH (ps l:List Q4) (tol:Int):List Int:=iJ (mOf (iI (lI ps))) l tol
theorem aWI {ps:List Q4} (h1:¬colP (l4 ps)) (h2:¬colP (m4 ps)) (l:List Q4) (tol:Int):iJ (aFZ (qL (fA (iI (lI ps))))) l tol=inlH ps l tol:=by
 obtain ⟨c,hc,e⟩:=aTH h1 h2 (H:=iI (lI ps)) (s:=1) (by decide) (by simp)
 exact aND hc e l tol
theorem bBG {ps:List Q4} {m:Mt} (h:aAN ps=some m):¬colP (l4 ps)∧¬colP (m4 ps)∧m=aFZ (qL (fA (iI (lI ps)))):=by
 unfold aAN at h
 split at h
 ·cases h
 ·rename_i hc
  injection h with h
  exact ⟨fun e=>hc (.inl e),fun e=>hc (.inr e),h.symm⟩
section
variable {X:List Nat} {w0:World} {M0 M1 M2:List Ent} {I0:List aL}
def ErrK (m:Mt) (s:Q4) (k:Nat) (M0:List Ent) (I0:List aL) (v:Value) (M:List Ent) (I:List aL):Prop:=
 M0=M∧if lL m 2 s=0 then I0=I∧v= .tuple #[zR, .int .i64 13] else ∃e:RE,v= .tuple #[rv e, .int .i64 0]∧e.q=tQ m s∧I=bL e k::I0
end
section
variable {X:List Nat} {w0:World} {M0 M1 M2:List Ent} {I0:List aL}
end
def ascA (l:List Int):Prop:=∀i,i < l.length→0 < i→gt l ((i - 1:Nat):Int) < gt l (i:Int)
instance (l:List Int):Decidable (ascA l):=by unfold ascA;exact inferInstance
def outA (n:Nat) (l:List Int):Prop:=∃x∈l,x < 0∨(n:Int)≤x
instance (n:Nat) (l:List Int):Decidable (outA n l):=by unfold outA;exact inferInstance
def lstC (n:Nat) (l:List Int):Int:=if ¬ascA l then 5 else if outA n l then 6 else 0
section
variable {X:List Nat} {w0:World} {M0 M1 M2:List Ent} {I0:List aL}
end
end Go.Proofs.YtmmmfphealhapaaGreat
