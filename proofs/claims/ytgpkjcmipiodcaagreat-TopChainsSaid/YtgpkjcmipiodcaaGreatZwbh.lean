/- TopChains: its walk, first half: the moved network, its points, its residuals. -/
import Derived.Test.YtgpkjcmipiodcaaGreatZwbf
import Derived.Test.YtgpkjcmipiodcaaGreatZwbg
import Derived.Test.YtgpkjcmipiodcaaGreatZwan
set_option linter.unusedSimpArgs false
set_option linter.unusedVariables false
set_option maxRecDepth 100000
set_option maxHeartbeats 4000000
namespace Go.Proofs.YtgpkjcmipiodcaaGreat
open Go Go.Fx
theorem bi2 {α:Type} {a b:α} {i:Int} (h:0≤i∧i < 2):0≤i∧i < ([a,b]:List α).length:=h
theorem aSJ {q:Qn} (h:q.nz):0 < Qn.nR q:=by
 have h1:=aCZ (q.a:Rat)
 have h2:=aCZ (q.b:Rat)
 have h3:=aCZ (q.c:Rat)
 have h4:=aCZ (q.d:Rat)
 have h5:0≤Qn.nR q:=by
  unfold Qn.nR
  exact Rat.add_nonneg (Rat.add_nonneg (Rat.add_nonneg h1 h2) h3) h4
 exact Rat.lt_of_le_of_ne h5 (Ne.symm (Qn.nR_nz h))
theorem sl_eq {a b:SE} {x y:Nat} (h:a.t.v=b.t.v):(a.l x).q=(b.l y).q:=by
 have h1:a.t.x.q=b.t.x.q:=congrArg V3.x h
 have h2:a.t.y.q=b.t.y.q:=congrArg V3.y h
 have h3:a.t.z.q=b.t.z.q:=congrArg V3.z h
 show [a.t.x.q,a.t.y.q,a.t.z.q]=[b.t.x.q,b.t.y.q,b.t.z.q]
 rw [h1,h2,h3]
theorem l_eq {a b:TE} {x y:Nat} (h:a.v=b.v):(a.l x).q=(b.l y).q:=by
 have h1:a.x.q=b.x.q:=congrArg V3.x h
 have h2:a.y.q=b.y.q:=congrArg V3.y h
 have h3:a.z.q=b.z.q:=congrArg V3.z h
 show [a.x.q,a.y.q,a.z.q]=[b.x.q,b.y.q,b.z.q]
 rw [h1,h2,h3]
structure TZ where
 a:RW
 b:RW
 c:RW
instance TZ.inh:Inhabited TZ:=⟨⟨default,default,default⟩⟩
abbrev eTZ (t:TZ):List Value:=recs eW [t.a,t.b,t.c]
instance TZ.szd:Sized eTZ 12:=⟨fun _=>rfl⟩
instance TZ.ones:Ones eTZ:=⟨fun m u hu=>wI _ u hu⟩
def TE.raw (p:TE):TZ:=⟨p.x.raw,p.y.raw,p.z.raw⟩
structure VT (ws:List TZ) (fs:List TE) (i:Nat) (F:Nat→V3):Prop where
 lw:ws.length=3
 le:fs.length=i
 hw:∀j:Nat,j < i→gt ws (j:Int)=(gt fs (j:Int)).raw
 hq:∀j:Nat,j < i→(gt fs (j:Int)).v=F j
theorem VT.zero (F:Nat→V3):VT [default,default,default] [] 0 F:=⟨rfl,rfl,fun _ h=>absurd h (by omega),fun _ h=>absurd h (by omega)⟩
theorem VT.step {ws:List TZ} {fs:List TE} {i:Nat} {F:Nat→V3} {e:TE} (h:VT ws fs i F) (hi:i < 3) (he:e.v=F i):VT (st ws (i:Int) e.raw) (fs++[e]) (i+1) F:=by
 have l1:=h.lw
 have l2:=h.le
 refine ⟨by rw [dB];exact l1,by simp [l2],fun j hj=>?_,fun j hj=>?_⟩
 ·rw [wJ (by omega) (by omega),aCQ]
  by_cases e:j=i
  ·rw [if_pos e,if_neg (by omega),if_pos (by omega)]
  ·rw [if_neg e,if_pos (by omega)];exact h.hw j (by omega)
 ·rw [aCQ]
  by_cases e:j=i
  ·rw [if_neg (by omega),if_pos (by omega),he,e]
  ·rw [if_pos (by omega)];exact h.hq j (by omega)
theorem VT.done {ws:List TZ} {fs:List TE} {F:Nat→V3} (h:VT ws fs 3 F):∃a b c:TE,recs eTZ ws=recs eT [a,b,c]∧fs=[a,b,c]∧a.v=F 0∧b.v=F 1∧c.v=F 2:=by
 obtain ⟨a,b,c,rfl⟩:=len3 h.le
 refine ⟨a,b,c,?_,rfl,h.hq 0 (by omega),h.hq 1 (by omega),h.hq 2 (by omega)⟩
 have:ws=[a,b,c].map TE.raw:=aLZ (by rw [h.lw];rfl) (fun j hj=>by
  rw [h.hw j (by rw [h.lw] at hj;exact hj),qW ⟨by omega,by have:=h.lw;simp;omega⟩])
 rw [this]
 rfl
theorem StAts.tz {ws:List TZ} {e:TE} {i:Nat} (hi:i < ws.length):StAts (recs eTZ ws) (0+(i:Int).toNat*12) (eT e) (recs eTZ (st ws (i:Int) e.raw)):=by
 rw [Nat.zero_add]
 exact StAts.r e.raw ⟨by omega,by omega⟩ rfl
structure AllTv (fs:List TE) (k:Nat) (X:List Nat) (w:World):Prop where
 go:∀f∈fs,IsT f k X w
abbrev yA (fs:List TE) (k:Nat):aV:=AllTv fs k
instance (fs:List TE) (k:Nat):Fx.Good (AllTv fs k):=⟨fun X Y w w' h he hY=>⟨fun r hm=>Fx.Good.go (φ:=IsT _ _) X Y w w' (h.go r hm) he hY⟩⟩
theorem Hv.nilTv {I:List aV} {k:Nat}:Hv I (yA [] k):=⟨fun X w _=>⟨fun x hx=>absurd hx List.not_mem_nil⟩⟩
theorem Hv.snocTv {I:List aV} {fs:List TE} {e:TE} {k:Nat} (h1:yA fs k∈I) (h2:gN e k∈I):Hv I (yA (fs++[e]) k):=⟨fun X w hw=>⟨fun x hx=>by
 rcases List.mem_append.1 hx with hx|hx
 ·exact (hw _ h1:AllTv fs k X w).go x hx
 ·rw [List.mem_singleton.1 hx];exact hw _ h2⟩⟩
theorem Hv.elTv {I:List aV} {fs:List TE} {e:TE} {k:Nat} (h1:yA fs k∈I) (h:e∈fs):Hv I (gN e k):=⟨fun X w hw=>(hw _ h1:AllTv fs k X w).go e h⟩
section
variable {X:List Nat} {w0:World} {M0 M1:List Ent} {I0:List aV}
theorem zS {s t:SE} {kb K:Nat} (hsz:s.q.nz) (hsf:s.q.fit) (hss:0 < s.s.q) (htz:t.q.nz) (htf:t.q.fit) (hts:0 < t.s.q) (hk:kb≤100000000) (hK:kb+3*(63+kb+1)+kb+1=K) (hs:Hv I0 (gM s kb kb)) (ht:Hv I0 (gM t kb kb)) (hp:prE (Qn.mul s.q t.q)=0):
  CD Tryz.prog 17 [sev s,sev t] X w0 M0 I0 (fun v M I=>M0=M∧∃x:SE,v= .tuple #[sev x, .int .i64 0]∧x.v=⟨s.s.q*t.s.q,Qn.prm (Qn.mul s.q t.q),s.v.mv t.t.v⟩∧x.q.fit∧I=gM x (kb+kb) K::I0):=
 (aJD hsz hsf hss htz htf hts hk hK hs ht).mono (fun v M I h=>⟨h.1,(h.2.resolve_left (fun h1=>by rw [hp] at h1;exact absurd h1.1 (by decide))).2⟩)
theorem aCI {s t:SE} {kb K:Nat} (hsz:s.q.nz) (hsf:s.q.fit) (hss:0 < s.s.q) (htz:t.q.nz) (htf:t.q.fit) (hts:0 < t.s.q) (hk:kb≤100000000) (hK:kb+3*(63+kb+1)+kb+1=K) (hs:Hv I0 (gM s kb kb)) (ht:Hv I0 (gM t kb kb)) (hp:prE (Qn.mul s.q t.q)=3):
  CD Tryz.prog 17 [sev s,sev t] X w0 M0 I0 (fun v M I=>M0=M∧v= .tuple #[.agg zSE.toArray, .int .i64 3]∧I0=I):=
 (aJD hsz hsf hss htz htf hts hk hK hs ht).mono (fun v M I h=>⟨h.1,(h.2.resolve_right (fun h1=>by rw [hp] at h1;exact absurd h1.1 (by decide))).2⟩)
theorem aWL {x:NX} {r:RL} (hN:NImg x) (hr:ZSt x r) (hx:lK r 1000∈I0) (hS:aI x.pS (recs qU x.S)∈I0) (hP:aI x.pP (recs gP x.P)∈I0) (hO:aI x.pO (recs jU x.O)∈I0) (hf:frnt x):
  CD Tryz.prog 14 [nxv x,lv r] X w0 M0 I0 (fun v M I=>M0=M∧∃r:RL,v= .tuple #[lv r, .int .i64 0]∧r.q=vM x x.O∧I=lK r 100000::I0):=
 (xY hN hr hx hS hP hO).mono (fun v M I h=>⟨h.1,(h.2.resolve_right (fun h1=>h1.1 hf)).2⟩)
theorem aZJ {x:NX} {r:RL} (hN:NImg x) (hr:ZSt x r) (hx:lK r 1000∈I0) (hS:aI x.pS (recs qU x.S)∈I0) (hP:aI x.pP (recs gP x.P)∈I0) (hO:aI x.pO (recs jU x.O)∈I0) (hf:¬frnt x):
  CD Tryz.prog 14 [nxv x,lv r] X w0 M0 I0 (fun v M I=>M0=M∧v= .tuple #[.slice none 0 0, .int .i64 20]∧I0=I):=
 (xY hN hr hx hS hP hO).mono (fun v M I h=>⟨h.1,let h2:=h.2.resolve_left (fun h1=>hf h1.1);⟨h2.2.1,h2.2.2.symm⟩⟩)
theorem aNL {x:NX} {r:RL} (hN:NImg x) (hr:ZSt x r) (hx:lK r 1000∈I0) (hS:aI x.pS (recs qU x.S)∈I0) (hP:aI x.pP (recs gP x.P)∈I0) (hO:aI x.pO (recs jU x.O)∈I0) {e:Int} (he:e=if frnt x then 0 else 20):
  CD Tryz.prog 14 [nxv x,lv r] X w0 M0 I0 (fun v M I=>M0=M∧∃r:RL,v= .tuple #[lv r, .int .i64 e]∧(frnt x→r.q=vM x x.O)∧r.es.length≤100000∧I=lK r 100000::I0):=by
 by_cases hf:frnt x
 ·rw [if_pos hf] at he
  subst he
  refine (aWL hN hr hx hS hP hO hf).mono (fun v M I h=>?_)
  obtain ⟨rfl,r2,rfl,h2,rfl⟩:=h
  refine ⟨rfl,r2,rfl,fun _=>h2,?_,rfl⟩
  have h3:=congrArg List.length h2
  rw [zF] at h3
  have h4:r2.q.length=r2.es.length:=List.length_map ..
  have:=hN.lO
  omega
 ·rw [if_neg hf] at he
  subst he
  refine (aZJ hN hr hx hS hP hO hf).post (fun v M I w h hw=>?_)
  obtain ⟨rfl,rfl,rfl⟩:=h
  refine ⟨M0,_,⟨rfl,⟨none,0,[]⟩,rfl,fun h=>absurd h hf,by decide,rfl⟩,?_⟩
  refine hw.add (φ:=lK ⟨none,0,[]⟩ 100000) ⟨?_,fun e he=>absurd he List.not_mem_nil,⟨Nat.le_refl _, .inr ⟨rfl,rfl⟩⟩⟩
  exact (hw.nilS none).sl (List.Mem.head _)
theorem aLU {x:NX} {q0 q1:Qn} {s0 s1:P3} (hs0:∀k,uU (s0.co k)) (hs1:∀k,uU (s1.co k)) (hcO:Ok x.pO∨(x.O.length=0∧x.cO=0)) (hS:aI x.pS (recs qU x.S)∈I0) (hP:aI x.pP (recs gP x.P)∈I0) (hO:aI x.pO (recs jU x.O)∈I0):
  CD Tryz.prog 3 [nxv x, .agg (recs eQ [q0,q1]).toArray, .agg (recs gP [s0,s1]).toArray] X w0 M0 I0 (fun v M I=>M0=M∧I0=I∧v= .bool true):=by
 obtain ⟨mS,hmS⟩:∃m,x.S.length=m:=⟨_,rfl⟩
 obtain ⟨mP,hmP⟩:∃m,x.P.length=m:=⟨_,rfl⟩
 refine iO Tryz.func3 rfl Tryz.ntmps3 rfl ?_
 refine fE ?_
 refine fG rfl (fun b3=>?_)
 refine aC (cs:=nO x) .here ?_
 refine fG rfl (fun b4=>?_)
 refine aC (cs:=recs eQ [q0,q1]) .here ?_
 refine fG rfl (fun b5=>?_)
 refine aC (cs:=recs gP [s0,s1]) .here ?_
 repeat refine aB ?_
 refine dP rfl (aKW) ?_
 by_cases lS:3 < mS
 ·repeat refine aB ?_
  rw [hmS]
  repeat refine aB ?_
  refine gD rfl rfl (⟨rfl,rfl,rfl⟩)
 by_cases lP:4 < mP
 ·repeat refine aB ?_
  rw [hmS]
  repeat refine aB ?_
  rw [hmP]
  repeat refine aB ?_
  refine gD rfl rfl (⟨rfl,rfl,rfl⟩)
 repeat refine aB ?_
 rw [hmS]
 repeat refine aB ?_
 rw [hmP]
 repeat refine aB ?_
 rw [←hmS,←hmP]
 (refine aU rfl (aRI (x:=x) aA aA aA) ?_;rintro _ _ _ ⟨rfl,rfl,e,rfl,he⟩;refine aL ?_)
 by_cases h0:e=0
 rotate_left
 ·repeat refine aB ?_
  refine gD rfl rfl (⟨rfl,rfl,rfl⟩)
 subst h0
 by_cases hd:x.d=3
 rotate_left
 ·repeat refine aB ?_
  refine gD rfl rfl (⟨rfl,rfl,rfl⟩)
 have hck:=he rfl
 clear he
 have hpre:NPre x:=⟨hd,hck.S,hck.P,hck.lS,hck.lP,hck.lO⟩
 repeat refine aB ?_
 (apply bL;exact gQ;exact rfl;exact aA;exact (AtsZ.v0 (enc:=gP) (ms:=[s0,s1]) (i:=0) (bi2 (by decide)));exact rfl;exact rfl)
 repeat refine aB ?_
 refine aS rfl (aEY (x:=x) (q:=q0) (s:=s0) hpre hs0 hcO aA aA aA) rfl rfl ?_
 rintro _ _ _ ⟨rfl,⟨e1,he1,rfl,rfl⟩|⟨hmo,pS,cS,pP,cP,pO,cO,hoc,rfl,rfl⟩⟩
 ·refine aL ?_
  repeat refine aB ?_
  refine bG (fun b8=>?_)
  repeat refine aB ?_
  refine gD rfl rfl (⟨rfl,rfl,rfl⟩)
 refine aL ?_
 have hN:=hck.img hd hmo.im
 have hN2:=aXE (pS:=pS) (cS:=cS) (pP:=pP) (cP:=cP) (pO:=pO) (cO:=cO) hN hmo
 have hlS:(x.S.map (iT q0 s0)).length=x.S.length:=List.length_map ..
 have hlP:(x.P.map (fun p=>jI q0 p s0)).length=x.P.length:=List.length_map ..
 repeat refine aB ?_
 refine bG (fun b8=>?_)
 repeat refine aB ?_
 refine mQ (fun _ hw=>hw.freezeB (cs:=[.int .i64 x.d, .slice pS (x.S.map (iT q0 s0)).length cS, .slice pP (x.P.map (fun p=>jI q0 p s0)).length cP, .slice pO x.O.length cO]) .here) ?_
 have hqz:=hmo.nz
 have hqf:=hmo.fit
 refine kH (fun G M I=>∃(b10:Nat) (sx:SE),sx.v=⟨Qn.nR q0,q0,s0.v⟩∧G=[(3, .pointer (some ⟨b3,0,none⟩)),(4, .pointer (some ⟨b4,0,none⟩)),(5, .pointer (some ⟨b5,0,none⟩)),(7, .func (.func 6) #[] #[]),(8, .pointer (some ⟨b8,0,none⟩)),(10, .pointer (some ⟨b10,0,none⟩))]∧M= .blk b10 (pX sx) 48::M0∧gM sx 64 64::aI (some ⟨b8,0,none⟩) [.int .i64 x.d, .slice pS (x.S.map (iT q0 s0)).length cS, .slice pP (x.P.map (fun p=>jI q0 p s0)).length cP, .slice pO x.O.length cO]::aI pS (recs qU (x.S.map (iT q0 s0)))::aI pP (recs gP (x.P.map (fun p=>jI q0 p s0)))::aI pO (recs jU x.O)::aI (some ⟨b5,0,none⟩) (recs gP [s0,s1])::aI (some ⟨b4,0,none⟩) (recs eQ [q0,q1])::aI (some ⟨b3,0,none⟩) (nO x)::I0=I) ?_ ?_
 ·((repeat refine aJ ?_);refine lG (M0) (aI (some ⟨b5,0,none⟩) (recs gP [s0,s1])::aI (some ⟨b4,0,none⟩) (recs eQ [q0,q1])::I0) mixed ?_)
  refine dH (fuel:=5) (listed':=#[true,true,true,false,true,true,true,true,false,false,false,false]) [0,1,2,4,5,6,7] [2,3,2,3,3,3,2] aG aF (by kernel_rfl) (by kernel_rfl) rfl rfl ?_
  repeat refine aB ?_
  (apply bL;exact gQ;exact rfl;exact aA;exact (AtsZ.v0 (enc:=gP) (ms:=[s0,s1]) (i:=0) (bi2 (by decide)));exact rfl;exact rfl)
  repeat refine aB ?_
  refine aN (fuel:=4) (i:=3) (j:=10) (by kernel_rfl) ?_ ?_
  ·(refine bI rfl rfl (tQ hqf) rfl rfl rfl ?_;rintro _ _ _ ⟨rfl,e1,rfl,he1,rfl⟩;refine aL ?_)
   refine aT ?_
   repeat refine aB ?_
   refine aN (fuel:=3) (i:=8) (j:=10) (by kernel_rfl) ?_ ?_
   ·(refine aU rfl (iL (hs0 0) (hs0 1) (hs0 2)) ?_;rintro _ _ _ ⟨rfl,t1,rfl,ht1,rfl⟩;refine aL ?_)
    refine aT ?_
    refine aM [9,10,11] [1,0,0] aG aF (by kernel_rfl) (by kernel_rfl) rfl rfl ?_
    repeat refine aB ?_
    (refine aD rfl (fun _=>dK (vals:=[rv e1,qv q0,tv t1]) (cells:=pX ⟨e1,q0,t1⟩) rfl ?hpl rfl ?hz) rfl rfl ?_;(case hpl=>repeat (first|exact True.intro|refine ⟨rfl,?_⟩));(case hz=>rfl))
    repeat refine aB ?_
    refine bG (fun b10=>?_)
    repeat refine aB ?_
    (refine fF (φ:=gM ⟨e1,q0,t1⟩ 64 64) (Hv.mkSE (Hv.mem aA) (Hv.mem aA)) ?_;refine mR ⟨b10,⟨e1,q0,t1⟩,by unfold SE.v;simp only [he1,ht1];rfl,rfl,rfl,rfl⟩)
   ·refine bG (fun b10=>?_)
    refine aT ?_
    refine aM [8,9,11] [0,0,0] aG aF (by kernel_rfl) (by kernel_rfl) rfl rfl ?_
    repeat refine aB ?_
    (refine aU rfl (iL (hs0 0) (hs0 1) (hs0 2)) ?_;rintro _ _ _ ⟨rfl,t1,rfl,ht1,rfl⟩;refine aL ?_)
    repeat refine aB ?_
    (refine aD rfl (fun _=>dK (vals:=[rv e1,qv q0,tv t1]) (cells:=pX ⟨e1,q0,t1⟩) rfl ?hpl rfl ?hz) rfl rfl ?_;(case hpl=>repeat (first|exact True.intro|refine ⟨rfl,?_⟩));(case hz=>rfl))
    repeat refine aB ?_
    (refine fF (φ:=gM ⟨e1,q0,t1⟩ 64 64) (Hv.mkSE (Hv.mem aA) (Hv.mem aA)) ?_;refine mR ⟨b10,⟨e1,q0,t1⟩,by unfold SE.v;simp only [he1,ht1];rfl,rfl,rfl,rfl⟩)
  ·refine bG (fun b10=>?_)
   refine aT ?_
   refine aM [3,8,9,11] [0,0,0,0] aG aF (by kernel_rfl) (by kernel_rfl) rfl rfl ?_
   repeat refine aB ?_
   (refine bI rfl rfl (tQ hqf) rfl rfl rfl ?_;rintro _ _ _ ⟨rfl,e1,rfl,he1,rfl⟩;refine aL ?_)
   repeat refine aB ?_
   (refine aU rfl (iL (hs0 0) (hs0 1) (hs0 2)) ?_;rintro _ _ _ ⟨rfl,t1,rfl,ht1,rfl⟩;refine aL ?_)
   repeat refine aB ?_
   (refine aD rfl (fun _=>dK (vals:=[rv e1,qv q0,tv t1]) (cells:=pX ⟨e1,q0,t1⟩) rfl ?hpl rfl ?hz) rfl rfl ?_;(case hpl=>repeat (first|exact True.intro|refine ⟨rfl,?_⟩));(case hz=>rfl))
   repeat refine aB ?_
   (refine fF (φ:=gM ⟨e1,q0,t1⟩ 64 64) (Hv.mkSE (Hv.mem aA) (Hv.mem aA)) ?_;refine mR ⟨b10,⟨e1,q0,t1⟩,by unfold SE.v;simp only [he1,ht1];rfl,rfl,rfl,rfl⟩)
 rintro G M I ⟨b10,sx,hsx,rfl,rfl,rfl⟩
 refine mQ (fun _ hw=>hw.freezeB (cs:=pX sx) .here) ?_
 have hlS2:(vQ x q0 s0 pS cS pP cP pO cO).S.length=x.S.length:=hlS
 have hlP2:(vQ x q0 s0 pS cS pP cP pO cO).P.length=x.P.length:=hlP
 have hsxq:sx.q=q0:=congrArg Sim.q hsx
 have hsxs:sx.s.q=Qn.nR q0:=congrArg Sim.s hsx
 have hsxt:sx.t.v=s0.v:=congrArg Sim.t hsx
 have hn0:0 < Qn.nR q0:=aSJ hqz
 have hPk:∀i:Nat,i < x.P.length→gt (x.P.map (fun p=>jI q0 p s0)) (i:Int)=jI q0 (gt x.P (i:Int)) s0:=fun i hi=>qW (f:=fun p=>jI q0 p s0) ⟨by omega,by omega⟩
 repeat refine aB ?_
 rw [hmP]
 refine kS [3,4,5,7,8,10,92,93] rfl (fun k G M I=>∃i:Nat,i≤mP∧k=mP - i∧G=[(94, .int .i64 (i:Int))]∧M0=M∧aI (some ⟨b10,0,none⟩) (pX sx)::gM sx 64 64::aI (some ⟨b8,0,none⟩) [.int .i64 x.d, .slice pS (x.S.map (iT q0 s0)).length cS, .slice pP (x.P.map (fun p=>jI q0 p s0)).length cP, .slice pO x.O.length cO]::aI pS (recs qU (x.S.map (iT q0 s0)))::aI pP (recs gP (x.P.map (fun p=>jI q0 p s0)))::aI pO (recs jU x.O)::aI (some ⟨b5,0,none⟩) (recs gP [s0,s1])::aI (some ⟨b4,0,none⟩) (recs eQ [q0,q1])::aI (some ⟨b3,0,none⟩) (nO x)::I0=I) (mP) (⟨0,by omega,rfl,rfl,rfl,rfl⟩) ?_
 rintro kk G M I ⟨i,hi,rfl,rfl,rfl,rfl⟩
 by_cases hip:i < mP
 ·have hPi:=hPk i (by omega)
  have hpo:=hck.P _ (bJ (ms:=x.P) (i:=(i:Int)) ⟨by omega,by omega⟩)
  have hmo2:=hmo.P _ (bJ (ms:=x.P) (i:=(i:Int)) ⟨by omega,by omega⟩)
  obtain ⟨p,hp⟩:∃p,gt x.P (i:Int)=p:=⟨_,rfl⟩
  rw [hp] at hPi hpo hmo2
  have hb1:=hpo.x
  have hb2:=hpo.y
  have hb3:=hpo.z
  have hc1:=hmo2.x
  have hc2:=hmo2.y
  have hc3:=hmo2.z
  repeat refine aB ?_
  rw [hp]
  refine bG (fun b12=>?_)
  repeat refine aB ?_
  refine mQ (fun _ hw=>hw.freezeB (cs:=gP p) .here) ?_
  refine kH (fun G M I=>∃(b13:Nat) (r:TE),r.v=(jI q0 p s0).v∧G=[(3, .pointer (some ⟨b3,0,none⟩)),(4, .pointer (some ⟨b4,0,none⟩)),(5, .pointer (some ⟨b5,0,none⟩)),(7, .func (.func 6) #[] #[]),(8, .pointer (some ⟨b8,0,none⟩)),(10, .pointer (some ⟨b10,0,none⟩)),(11, .int .i64 (i:Int)),(13, .pointer (some ⟨b13,0,none⟩)),(14, .int .i64 0),(92, .slice x.pP mP x.cP),(93, .int .i64 (mP:Int)),(94, .int .i64 (i:Int))]∧M= .blk b13 (eT r) 45::M0∧gN r 513::aI (some ⟨b10,0,none⟩) (pX sx)::gM sx 64 64::aI (some ⟨b8,0,none⟩) [.int .i64 x.d, .slice pS (x.S.map (iT q0 s0)).length cS, .slice pP (x.P.map (fun p=>jI q0 p s0)).length cP, .slice pO x.O.length cO]::aI pS (recs qU (x.S.map (iT q0 s0)))::aI pP (recs gP (x.P.map (fun p=>jI q0 p s0)))::aI pO (recs jU x.O)::aI (some ⟨b5,0,none⟩) (recs gP [s0,s1])::aI (some ⟨b4,0,none⟩) (recs eQ [q0,q1])::aI (some ⟨b3,0,none⟩) (nO x)::I0=I) ?_ ?_
  ·((repeat refine aJ ?_);refine lG (M0) (aI (some ⟨b12,0,none⟩) (gP p)::aI (some ⟨b10,0,none⟩) (pX sx)::gM sx 64 64::I0) mixed ?_)
   refine dH (fuel:=8) (listed':=#[true,true,false,false,false,false,false,false,false,false]) [0,1] [2,2] aG aF (by kernel_rfl) (by kernel_rfl) rfl rfl ?_
   repeat refine aB ?_
   refine aN (fuel:=7) (i:=2) (j:=7) (by kernel_rfl) ?_ ?_
   ·(refine aU rfl (iL (p:=p) (by omega) (by omega) (by omega)) ?_;rintro _ _ _ ⟨rfl,t1,rfl,ht1,rfl⟩;refine aL ?_)
    refine aT ?_
    repeat refine aB ?_
    refine aN (fuel:=6) (i:=3) (j:=7) (by kernel_rfl) ?_ ?_
    ·(refine aS rfl (mJ (x:=sx) (p:=t1) (ks:=64) (kt:=64) (kp:=64) (K:=513) (by rw [hsxq];exact hqz) (by rw [hsxq];exact hqf) (by rw [hsxs];exact hn0) (by decide) (by decide) (by decide) rfl (Hv.mem aA) (Hv.mem aA)) rfl rfl ?_;rintro _ _ _ ⟨rfl,r,rfl,hr,rfl⟩;refine aL ?_)
     refine aT ?_
     refine aM [4,5,6,7,8,9] [1,1,2,0,0,0] aG aF (by kernel_rfl) (by kernel_rfl) rfl rfl ?_
     repeat refine aB ?_
     refine bG (fun b13=>?_)
     repeat refine aB ?_
     refine mR ⟨b13,r,by rw [hr,ht1,hsx];exact aLV hqz p s0,rfl,rfl,rfl⟩
    ·refine bG (fun b13=>?_)
     refine aT ?_
     refine aM [3,4,5,6,8,9] [0,0,0,1,0,0] aG aF (by kernel_rfl) (by kernel_rfl) rfl rfl ?_
     repeat refine aB ?_
     (refine aS rfl (mJ (x:=sx) (p:=t1) (ks:=64) (kt:=64) (kp:=64) (K:=513) (by rw [hsxq];exact hqz) (by rw [hsxq];exact hqf) (by rw [hsxs];exact hn0) (by decide) (by decide) (by decide) rfl (Hv.mem aA) (Hv.mem aA)) rfl rfl ?_;rintro _ _ _ ⟨rfl,r,rfl,hr,rfl⟩;refine aL ?_)
     repeat refine aB ?_
     refine mR ⟨b13,r,by rw [hr,ht1,hsx];exact aLV hqz p s0,rfl,rfl,rfl⟩
   ·refine bG (fun b13=>?_)
    refine aT ?_
    refine aM [2,3,4,5,6,8,9] [0,0,0,0,1,0,0] aG aF (by kernel_rfl) (by kernel_rfl) rfl rfl ?_
    repeat refine aB ?_
    (refine aU rfl (iL (p:=p) (by omega) (by omega) (by omega)) ?_;rintro _ _ _ ⟨rfl,t1,rfl,ht1,rfl⟩;refine aL ?_)
    repeat refine aB ?_
    (refine aS rfl (mJ (x:=sx) (p:=t1) (ks:=64) (kt:=64) (kp:=64) (K:=513) (by rw [hsxq];exact hqz) (by rw [hsxq];exact hqf) (by rw [hsxs];exact hn0) (by decide) (by decide) (by decide) rfl (Hv.mem aA) (Hv.mem aA)) rfl rfl ?_;rintro _ _ _ ⟨rfl,r,rfl,hr,rfl⟩;refine aL ?_)
    repeat refine aB ?_
    refine mR ⟨b13,r,by rw [hr,ht1,hsx];exact aLV hqz p s0,rfl,rfl,rfl⟩
  rintro G M I ⟨b13,r,hr,rfl,rfl,rfl⟩
  refine mQ (fun _ hw=>hw.freezeB (cs:=eT r) .here) ?_
  repeat refine aB ?_
  rw [hPi]
  repeat refine aB ?_
  (refine aU rfl (iL (p:=jI q0 p s0) (by omega) (by omega) (by omega)) ?_;rintro _ _ _ ⟨rfl,t2,rfl,ht2,rfl⟩;refine aL ?_)
  refine bG (fun b15=>?_)
  repeat refine aB ?_
  refine mQ (fun _ hw=>hw.freezeB (cs:=eT t2) .here) ?_
  refine bD (φ:=lK (r.l b13) 513) (Hv.tl (Hv.mem (φ:=gN r 513) aA) aA) ?_
  refine bD (φ:=lK (t2.l b15) 64) (Hv.tl (Hv.mem (φ:=gN t2 64) aA) aA) ?_
  (repeat refine aJ ?_);refine aO 1 [0,1,2,3,4,5,6,7] [1,1,0,0,0,0,0,0] mixed (by kernel_rfl) ?_
  repeat refine aB ?_
  (refine aD rfl (fun _=>eF rfl) rfl rfl ?_)
  (refine aD rfl (fun _=>eF rfl) rfl rfl ?_)
  (refine aS rfl (pJ (x:=r.l b13) (y:=t2.l b15) (u:=513) (m:=64) (by decide) (by show 3≤100000;omega) (by show 3≤100000;omega) (Hv.mem aA) (Hv.mem aA)) rfl rfl ?_;rintro _ _ _ ⟨rfl,rfl,rfl⟩;refine aL ?_)
  rw [cB (l_eq (by rw [hr,ht2]))]
  repeat refine aB ?_
  refine iC (mP - (i+1)) (⟨i+1,by omega,rfl,rfl,rfl,rfl⟩)
 obtain rfl:mP=i:=by omega
 repeat refine aB ?_
 (refine aU rfl (aVQ (x:=x) hd hmo.im hck.lS hck.lP hck.lO aA) ?_;rintro _ _ _ ⟨rfl,rfl,pu,cu,rfl⟩;refine aL ?_)
 repeat refine aB ?_
 (refine aU rfl (aQT (n:=6*x.S.length+3*x.P.length) (by omega)) ?_;rintro _ _ _ ⟨rfl,z,rfl,hzl,hzz,rfl⟩;refine aL ?_)
 refine fH (φ:=lK z 1000) (Hv.lm (k:=64) aA (by decide)) ?_
 have hZ:ZSt x z:=⟨hzl,hzz⟩
 have hZ2:ZSt (vQ x q0 s0 pS cS pP cP pO cO) z:=⟨by rw [hlS2,hlP2];exact hzl,hzz⟩
 have hff:=aRC (pS:=pS) (cS:=cS) (pP:=pP) (cP:=cP) (pO:=pO) (cO:=cO) hN hmo
 obtain ⟨er,her⟩:∃er:Int,er=if frnt x then 0 else 20:=⟨_,rfl⟩
 have her2:er=if frnt (vQ x q0 s0 pS cS pP cP pO cO) then 0 else 20:=by
  rw [her]
  by_cases h:frnt x
  ·rw [if_pos h,if_pos (hff.2 h)]
  ·rw [if_neg h,if_neg (fun h2=>h (hff.1 h2))]
 repeat refine aB ?_
 (refine aU rfl (aNL hN hZ aA aA aA aA her) ?_;rintro _ _ _ ⟨rfl,r1,rfl,hr1,hl1,rfl⟩;refine aL ?_)
 repeat refine aB ?_
 (refine aU rfl (aNL (x:=vQ x q0 s0 pS cS pP cP pO cO) hN2 hZ2 aA aA aA aA her2) ?_;rintro _ _ _ ⟨rfl,r2,rfl,hr2,hl2,rfl⟩;refine aL ?_)
 refine aDR (fun G M I=>G=[(3, .pointer (some ⟨b3,0,none⟩)),(4, .pointer (some ⟨b4,0,none⟩)),(5, .pointer (some ⟨b5,0,none⟩)),(7, .func (.func 6) #[] #[]),(8, .pointer (some ⟨b8,0,none⟩)),(10, .pointer (some ⟨b10,0,none⟩)),(149, .bool false)]∧M0=M∧aI (some ⟨b10,0,none⟩) (pX sx)::gM sx 64 64::aI (some ⟨b8,0,none⟩) [.int .i64 x.d, .slice pS (x.S.map (iT q0 s0)).length cS, .slice pP (x.P.map (fun p=>jI q0 p s0)).length cP, .slice pO x.O.length cO]::aI pS (recs qU (x.S.map (iT q0 s0)))::aI pP (recs gP (x.P.map (fun p=>jI q0 p s0)))::aI pO (recs jU x.O)::aI (some ⟨b5,0,none⟩) (recs gP [s0,s1])::aI (some ⟨b4,0,none⟩) (recs eQ [q0,q1])::aI (some ⟨b3,0,none⟩) (nO x)::I0=I) ?_ ?_
 ·by_cases hfr:frnt x
  ·rw [if_pos hfr] at her
   subst her
   repeat refine aB ?_
   refine dP rfl (pJ (x:=r1) (y:=r2) (u:=100000) (m:=100000) (by decide) hl1 hl2 (Hv.mem aA) (Hv.mem aA)) ?_
   rw [cB (show r1.q=r2.q by rw [hr1 hfr,hr2 (hff.2 hfr)];exact (aXC hN hmo hfr).symm)]
   repeat refine aB ?_
   exact lU _ _ _ dS aG aF ⟨rfl,rfl,rfl⟩
  ·rw [if_neg hfr] at her
   subst her
   repeat refine aB ?_
   exact lU _ _ _ dS aG aF ⟨rfl,rfl,rfl⟩
 rintro G M I ⟨rfl,rfl,rfl⟩
 repeat refine aB ?_
 refine kH (fun G M I=>G=[(3, .pointer (some ⟨b3,0,none⟩)),(4, .pointer (some ⟨b4,0,none⟩)),(5, .pointer (some ⟨b5,0,none⟩)),(7, .func (.func 6) #[] #[]),(8, .pointer (some ⟨b8,0,none⟩)),(10, .pointer (some ⟨b10,0,none⟩))]∧M0=M∧aI (some ⟨b10,0,none⟩) (pX sx)::gM sx 64 64::aI (some ⟨b8,0,none⟩) [.int .i64 x.d, .slice pS (x.S.map (iT q0 s0)).length cS, .slice pP (x.P.map (fun p=>jI q0 p s0)).length cP, .slice pO x.O.length cO]::aI pS (recs qU (x.S.map (iT q0 s0)))::aI pP (recs gP (x.P.map (fun p=>jI q0 p s0)))::aI pO (recs jU x.O)::aI (some ⟨b5,0,none⟩) (recs gP [s0,s1])::aI (some ⟨b4,0,none⟩) (recs eQ [q0,q1])::aI (some ⟨b3,0,none⟩) (nO x)::I0=I) ?_ ?_
 ·by_cases h3:3≤mP
  rotate_left
  ·repeat refine aB ?_
   exact lU _ _ _ dS aG aF ⟨rfl,rfl,rfl⟩
  repeat refine aB ?_
  refine bG (fun b20=>?_)
  refine bG (fun b21=>?_)
  repeat refine aB ?_
  refine bD (φ:=yA [] 64) Hv.nilTv ?_
  refine bD (φ:=yA [] 64) Hv.nilTv ?_
  refine kS [3,4,5,7,8,10,20,21] rfl (fun k G M I=>∃(i:Nat) (wf wt:List TZ) (ff ft:List TE),i≤3∧k=3 - i∧VT wf ff i (fun i=>(gt x.P (i:Int)).v)∧VT wt ft i (fun i=>(jI q0 (gt x.P (i:Int)) s0).v)∧G=[(154, .int .i64 (i:Int))]∧M= .blk b21 (recs eTZ wt) 58:: .blk b20 (recs eTZ wf) 58::M0∧yA ft 64::yA ff 64::aI (some ⟨b10,0,none⟩) (pX sx)::gM sx 64 64::aI (some ⟨b8,0,none⟩) [.int .i64 x.d, .slice pS (x.S.map (iT q0 s0)).length cS, .slice pP (x.P.map (fun p=>jI q0 p s0)).length cP, .slice pO x.O.length cO]::aI pS (recs qU (x.S.map (iT q0 s0)))::aI pP (recs gP (x.P.map (fun p=>jI q0 p s0)))::aI pO (recs jU x.O)::aI (some ⟨b5,0,none⟩) (recs gP [s0,s1])::aI (some ⟨b4,0,none⟩) (recs eQ [q0,q1])::aI (some ⟨b3,0,none⟩) (nO x)::I0=I) (3) (⟨0,[default,default,default],[default,default,default],[],[],by omega,rfl,VT.zero _,VT.zero _,rfl,rfl,rfl⟩) ?_
  rintro kk G M I ⟨i,wf,wt,ff,ft,hi,rfl,hvf,hvt,rfl,rfl,rfl⟩
  by_cases hi3:i < 3
  ·have hPi:=hPk i (by omega)
   have hpo:=hck.P _ (bJ (ms:=x.P) (i:=(i:Int)) ⟨by omega,by omega⟩)
   have hmo2:=hmo.P _ (bJ (ms:=x.P) (i:=(i:Int)) ⟨by omega,by omega⟩)
   have hwl1:=hvf.lw
   have hwl2:=hvt.lw
   obtain ⟨p,hp⟩:∃p,gt x.P (i:Int)=p:=⟨_,rfl⟩
   rw [hp] at hPi hpo hmo2
   have hb1:=hpo.x
   have hb2:=hpo.y
   have hb3:=hpo.z
   have hc1:=hmo2.x
   have hc2:=hmo2.y
   have hc3:=hmo2.z
   repeat refine aB ?_
   (repeat refine aJ ?_);refine kT 3 (M0) (aI (some ⟨b8,0,none⟩) [.int .i64 x.d, .slice pS (x.S.map (iT q0 s0)).length cS, .slice pP (x.P.map (fun p=>jI q0 p s0)).length cP, .slice pO x.O.length cO]::aI pP (recs gP (x.P.map (fun p=>jI q0 p s0)))::aI (some ⟨b3,0,none⟩) (nO x)::I0) [0,1,2,3,4,5,6,8,9,10,11,12,7,14,13,15,16,17] [2,3,2,2,2,2,1,3,3,3,3,2,0,1,0,0,0,0] aG aF mixed (by kernel_rfl) ?_
   repeat refine aB ?_
   rw [hp]
   repeat refine aB ?_
   rw [hPi]
   repeat refine aB ?_
   (refine aU rfl (iL (p:=p) (by omega) (by omega) (by omega)) ?_;rintro _ _ _ ⟨rfl,g1,rfl,hg1,rfl⟩;refine aL ?_)
   repeat refine aB ?_
   (refine aU rfl (iL (p:=jI q0 p s0) (by omega) (by omega) (by omega)) ?_;rintro _ _ _ ⟨rfl,g2,rfl,hg2,rfl⟩;refine aL ?_)
   repeat refine aB ?_
   (refine fM (vs:=eT g1) (cs:=recs eTZ wf) (cs':=recs eTZ (st wf (i:Int) g1.raw)) rfl rfl rfl nU iN (StAts.tz (by omega)) rfl rfl ⟨okF,?_⟩)
   repeat refine aB ?_
   (refine fM (vs:=eT g2) (cs:=recs eTZ wt) (cs':=recs eTZ (st wt (i:Int) g2.raw)) rfl rfl rfl nU iN (StAts.tz (by omega)) rfl rfl ⟨okF,?_⟩)
   repeat refine aB ?_
   refine fF (φ:=yA (ff++[g1]) 64) (Hv.snocTv aA aA) ?_
   refine fF (φ:=yA (ft++[g2]) 64) (Hv.snocTv aA aA) ?_
   refine iC (3 - (i+1)) (⟨i+1,st wf (i:Int) g1.raw,st wt (i:Int) g2.raw,ff++[g1],ft++[g2],by omega,rfl,hvf.step hi3 (by rw [hg1,hp]),hvt.step hi3 (by rw [hg2,hp]),rfl,rfl,rfl⟩)
  obtain rfl:i=3:=by omega
  obtain ⟨f0,f1,f2,hwf,rfl,hf0,hf1,hf2⟩:=hvf.done
  obtain ⟨t0,t1,t2,hwt,rfl,ht0,ht1,ht2⟩:=hvt.done
  rw [hwf,hwt]
  rw [aGK] at ht0 ht1 ht2
  refine bD (φ:=gN f0 64) (Hv.elTv (fs:=[f0,f1,f2]) aA (by simp)) ?_
  refine bD (φ:=gN f1 64) (Hv.elTv (fs:=[f0,f1,f2]) aA (by simp)) ?_
  refine bD (φ:=gN f2 64) (Hv.elTv (fs:=[f0,f1,f2]) aA (by simp)) ?_
  refine bD (φ:=gN t0 64) (Hv.elTv (fs:=[t0,t1,t2]) aA (by simp)) ?_
  refine bD (φ:=gN t1 64) (Hv.elTv (fs:=[t0,t1,t2]) aA (by simp)) ?_
  refine bD (φ:=gN t2 64) (Hv.elTv (fs:=[t0,t1,t2]) aA (by simp)) ?_
  repeat refine aB ?_
  refine aS rfl (aIJ (q:=q0) (s:=s0.v) (f0:=f0) (f1:=f1) (f2:=f2) (t0:=t0) (t1:=t1) (t2:=t2) hqz hqf (by rw [ht0,hf0]) (by rw [ht1,hf1]) (by rw [ht2,hf2]) aA aA aA aA aA aA) rfl rfl ?_
  rintro _ _ _ ⟨rfl,⟨rfl,rfl⟩|⟨u,rfl,hus,hut,rfl⟩⟩
  ·refine aL ?_
   repeat refine aB ?_
   refine bG (fun b23=>?_)
   repeat refine aB ?_
   (repeat refine aJ ?_);refine aO 2 [0,1,2,3,4,5,6,7,8,9,10,11,12,13,14,15,16,17] [2,2,1,2,1,2,1,0,1,0,1,0,1,0,0,0,0,0] mixed (by kernel_rfl) ?_
   repeat refine aB ?_
   exact lU _ _ _ dS aG aF ⟨rfl,rfl,rfl⟩
  refine aL ?_
  repeat refine aB ?_
  refine bG (fun b23=>?_)
  repeat refine aB ?_
  refine mQ (fun _ hw=>hw.freezeB (cs:=pX u) .here) ?_
  refine bD (φ:=lK (u.l b23) 2068) (Hv.sel (Hv.mem (φ:=gM u 1554 2068) aA) aA) ?_
  refine bD (φ:=lK (sx.l b10) 64) (Hv.sel (Hv.mem (φ:=gM sx 64 64) aA) aA) ?_
  (repeat refine aJ ?_);refine aO 2 [0,1,2,3,4,5,6,7,8,9,10,11,12,13,14,15,16,17] [2,2,1,2,1,2,1,0,1,0,1,0,1,0,0,0,0,0] mixed (by kernel_rfl) ?_
  repeat refine aB ?_
  refine dP rfl (aKQ (a:=u.s) (b:=sx.s) (k:=1554) (m:=64) (by decide) (Hv.ses (Hv.mem (φ:=gM u 1554 2068) aA)) (Hv.ses (Hv.mem (φ:=gM sx 64 64) aA))) ?_
  rw [cB (show u.s.q=sx.s.q by rw [hus,hsxs])]
  repeat refine aB ?_
  (refine aD rfl (fun _=>eF rfl) rfl rfl ?_)
  repeat refine aB ?_
  (refine aD rfl (fun _=>eF rfl) rfl rfl ?_)
  (refine aS rfl (pJ (x:=u.l b23) (y:=sx.l b10) (u:=2068) (m:=64) (by decide) (by show 3≤100000;omega) (by show 3≤100000;omega) (Hv.mem aA) (Hv.mem aA)) rfl rfl ?_;rintro _ _ _ ⟨rfl,rfl,rfl⟩;refine aL ?_)
  rw [cB (sl_eq (by rw [hut,hsxt]))]
  repeat refine aB ?_
  exact lU _ _ _ dS aG aF ⟨rfl,rfl,rfl⟩
 rintro G M I ⟨rfl,rfl,rfl⟩
 repeat refine aB ?_
 (apply bL;exact gQ;exact rfl;exact aA;exact (AtsZ.v0 (enc:=gP) (ms:=[s0,s1]) (i:=1) (bi2 (by decide)));exact rfl;exact rfl)
 repeat refine aB ?_
 refine aS rfl (aEY (x:=vQ x q0 s0 pS cS pP cP pO cO) (q:=q1) (s:=s1) hN2.pre hs1 hoc aA aA aA) rfl rfl ?_
 rintro _ _ _ ⟨rfl,⟨e1,he1,rfl,rfl⟩|⟨hmo1,pS2,cS2,pP2,cP2,pO2,cO2,hoc2,rfl,rfl⟩⟩
 ·refine aL ?_
  repeat refine aB ?_
  refine bG (fun b25=>?_)
  repeat refine aB ?_
  refine gD rfl rfl (⟨rfl,rfl,rfl⟩)
 refine aL ?_
 have hPm:∀i:Nat,i < x.P.length→gt ((x.P.map (fun p=>jI q0 p s0)).map (fun p=>jI q1 p s1)) (i:Int)=jI q1 (jI q0 (gt x.P (i:Int)) s0) s1:=fun i hi=>by
  rw [qW (f:=fun p=>jI q1 p s1) ⟨by omega,by rw [List.length_map];omega⟩,hPk i hi]
 have hlPm:((x.P.map (fun p=>jI q0 p s0)).map (fun p=>jI q1 p s1)).length=x.P.length:=by rw [List.length_map,List.length_map]
 have hPo:∀i:Nat,i < x.P.length→(jI q1 (jI q0 (gt x.P (i:Int)) s0) s1).Ok:=fun i hi=>by
  have h1:jI q0 (gt x.P (i:Int)) s0∈(vQ x q0 s0 pS cS pP cP pO cO).P:=by
   show _∈x.P.map (fun p=>jI q0 p s0)
   exact List.mem_map.2 ⟨_,bJ ⟨by omega,by omega⟩,rfl⟩
  exact hmo1.P _ h1
 rw [show (vQ x q0 s0 pS cS pP cP pO cO).P=x.P.map (fun p=>jI q0 p s0) from rfl]
 repeat refine aB ?_
 refine bG (fun b25=>?_)
 repeat refine aB ?_
 refine mQ (fun _ hw=>hw.freezeB (cs:=[.int .i64 x.d, .slice pS2 ((x.S.map (iT q0 s0)).map (iT q1 s1)).length cS2, .slice pP2 ((x.P.map (fun p=>jI q0 p s0)).map (fun p=>jI q1 p s1)).length cP2, .slice pO2 x.O.length cO2]) .here) ?_
 have hqz1:=hmo1.nz
 have hqf1:=hmo1.fit
 have hn1:0 < Qn.nR q1:=aSJ hqz1
 rcases aMB (Qn.mul q1 q0) with hpe|hpe
 rotate_left
 ·refine kH (fun G M I=>∃b26:Nat,G=[(9, .int .i64 3),(3, .pointer (some ⟨b3,0,none⟩)),(4, .pointer (some ⟨b4,0,none⟩)),(5, .pointer (some ⟨b5,0,none⟩)),(8, .pointer (some ⟨b8,0,none⟩)),(10, .pointer (some ⟨b10,0,none⟩)),(25, .pointer (some ⟨b25,0,none⟩)),(26, .pointer (some ⟨b26,0,none⟩))]∧M= .blk b26 zSE 48::M0∧aI (some ⟨b25,0,none⟩) [.int .i64 x.d, .slice pS2 ((x.S.map (iT q0 s0)).map (iT q1 s1)).length cS2, .slice pP2 ((x.P.map (fun p=>jI q0 p s0)).map (fun p=>jI q1 p s1)).length cP2, .slice pO2 x.O.length cO2]::aI pP2 (recs gP ((x.P.map (fun p=>jI q0 p s0)).map (fun p=>jI q1 p s1)))::aI (some ⟨b3,0,none⟩) (nO x)::I0=I) ?_ ?_
  ·((repeat refine aJ ?_);refine lG (M0) (aI (some ⟨b10,0,none⟩) (pX sx)::gM sx 64 64::aI (some ⟨b5,0,none⟩) (recs gP [s0,s1])::aI (some ⟨b4,0,none⟩) (recs eQ [q0,q1])::I0) mixed ?_)
   refine dH (fuel:=10) (listed':=#[true,true,true,false,true,true,true,true,false,false,true,false,false,false,false,false,false,false]) [0,1,2,4,5,6,7,10] [3,4,3,4,4,4,3,3] aG aF (by kernel_rfl) (by kernel_rfl) rfl rfl ?_
   repeat refine aB ?_
   (apply bL;exact gQ;exact rfl;exact aA;exact (AtsZ.v0 (enc:=gP) (ms:=[s0,s1]) (i:=1) (bi2 (by decide)));exact rfl;exact rfl)
   repeat refine aB ?_
   refine aN (fuel:=9) (i:=3) (j:=15) (by kernel_rfl) ?_ ?_
   ·(refine bI rfl rfl (tQ hqf1) rfl rfl rfl ?_;rintro _ _ _ ⟨rfl,e1,rfl,he1,rfl⟩;refine aL ?_)
    refine aT ?_
    repeat refine aB ?_
    refine aN (fuel:=8) (i:=8) (j:=15) (by kernel_rfl) ?_ ?_
    ·(refine aU rfl (iL (p:=s1) (hs1 0) (hs1 1) (hs1 2)) ?_;rintro _ _ _ ⟨rfl,t1,rfl,ht1,rfl⟩;refine aL ?_)
     refine aT ?_
     refine dH (fuel:=7) (listed':=#[true,true,true,true,true,true,true,true,true,true,true,false,false,false,false,false,false,false]) [9] [1] aG aF (by kernel_rfl) (by kernel_rfl) rfl rfl ?_
     repeat refine aB ?_
     (refine aD rfl (fun _=>dK (vals:=[rv e1,qv q1,tv t1]) (cells:=pX ⟨e1,q1,t1⟩) rfl ?hpl rfl ?hz) rfl rfl ?_;(case hpl=>repeat (first|exact True.intro|refine ⟨rfl,?_⟩));(case hz=>rfl))
     repeat refine aB ?_
     refine aN (fuel:=6) (i:=11) (j:=15) (by kernel_rfl) ?_ ?_
     ·(refine aS rfl (aCI (s:=⟨e1,q1,t1⟩) (t:=sx) (kb:=64) (K:=513) hqz1 hqf1 (by rw [he1];exact hn1) (by rw [hsxq];exact hqz) (by rw [hsxq];exact hqf) (by rw [hsxs];exact hn0) (by decide) rfl (Hv.mkSE (Hv.mem aA) (Hv.mem aA)) (Hv.mem aA) (by rw [hsxq];exact hpe)) rfl rfl ?_;rintro _ _ _ ⟨rfl,rfl,rfl⟩;refine aL ?_)
      refine aT ?_
      refine aM [12,13,14,15,16,17] [1,1,2,0,0,0] aG aF (by kernel_rfl) (by kernel_rfl) rfl rfl ?_
      repeat refine aB ?_
      refine bG (fun b26=>?_)
      repeat refine aB ?_
      refine mR ⟨b26,rfl,rfl,rfl⟩
     ·refine bG (fun b26=>?_)
      refine aT ?_
      refine aM [11,12,13,14,16,17] [0,0,0,1,0,0] aG aF (by kernel_rfl) (by kernel_rfl) rfl rfl ?_
      repeat refine aB ?_
      (refine aS rfl (aCI (s:=⟨e1,q1,t1⟩) (t:=sx) (kb:=64) (K:=513) hqz1 hqf1 (by rw [he1];exact hn1) (by rw [hsxq];exact hqz) (by rw [hsxq];exact hqf) (by rw [hsxs];exact hn0) (by decide) rfl (Hv.mkSE (Hv.mem aA) (Hv.mem aA)) (Hv.mem aA) (by rw [hsxq];exact hpe)) rfl rfl ?_;rintro _ _ _ ⟨rfl,rfl,rfl⟩;refine aL ?_)
      repeat refine aB ?_
      refine mR ⟨b26,rfl,rfl,rfl⟩
    ·refine bG (fun b26=>?_)
     refine aT ?_
     refine aM [8,9,11,12,13,14,16,17] [0,0,0,0,0,1,0,0] aG aF (by kernel_rfl) (by kernel_rfl) rfl rfl ?_
     repeat refine aB ?_
     (refine aU rfl (iL (p:=s1) (hs1 0) (hs1 1) (hs1 2)) ?_;rintro _ _ _ ⟨rfl,t1,rfl,ht1,rfl⟩;refine aL ?_)
     repeat refine aB ?_
     (refine aD rfl (fun _=>dK (vals:=[rv e1,qv q1,tv t1]) (cells:=pX ⟨e1,q1,t1⟩) rfl ?hpl rfl ?hz) rfl rfl ?_;(case hpl=>repeat (first|exact True.intro|refine ⟨rfl,?_⟩));(case hz=>rfl))
     repeat refine aB ?_
     (refine aS rfl (aCI (s:=⟨e1,q1,t1⟩) (t:=sx) (kb:=64) (K:=513) hqz1 hqf1 (by rw [he1];exact hn1) (by rw [hsxq];exact hqz) (by rw [hsxq];exact hqf) (by rw [hsxs];exact hn0) (by decide) rfl (Hv.mkSE (Hv.mem aA) (Hv.mem aA)) (Hv.mem aA) (by rw [hsxq];exact hpe)) rfl rfl ?_;rintro _ _ _ ⟨rfl,rfl,rfl⟩;refine aL ?_)
     repeat refine aB ?_
     refine mR ⟨b26,rfl,rfl,rfl⟩
   ·refine bG (fun b26=>?_)
    refine aT ?_
    refine aM [3,8,9,11,12,13,14,16,17] [0,0,0,0,0,0,1,0,0] aG aF (by kernel_rfl) (by kernel_rfl) rfl rfl ?_
    repeat refine aB ?_
    (refine bI rfl rfl (tQ hqf1) rfl rfl rfl ?_;rintro _ _ _ ⟨rfl,e1,rfl,he1,rfl⟩;refine aL ?_)
    repeat refine aB ?_
    (refine aU rfl (iL (p:=s1) (hs1 0) (hs1 1) (hs1 2)) ?_;rintro _ _ _ ⟨rfl,t1,rfl,ht1,rfl⟩;refine aL ?_)
    repeat refine aB ?_
    (refine aD rfl (fun _=>dK (vals:=[rv e1,qv q1,tv t1]) (cells:=pX ⟨e1,q1,t1⟩) rfl ?hpl rfl ?hz) rfl rfl ?_;(case hpl=>repeat (first|exact True.intro|refine ⟨rfl,?_⟩));(case hz=>rfl))
    repeat refine aB ?_
    (refine aS rfl (aCI (s:=⟨e1,q1,t1⟩) (t:=sx) (kb:=64) (K:=513) hqz1 hqf1 (by rw [he1];exact hn1) (by rw [hsxq];exact hqz) (by rw [hsxq];exact hqf) (by rw [hsxs];exact hn0) (by decide) rfl (Hv.mkSE (Hv.mem aA) (Hv.mem aA)) (Hv.mem aA) (by rw [hsxq];exact hpe)) rfl rfl ?_;rintro _ _ _ ⟨rfl,rfl,rfl⟩;refine aL ?_)
    repeat refine aB ?_
    refine mR ⟨b26,rfl,rfl,rfl⟩
  rintro G M I ⟨b26,rfl,rfl,rfl⟩
  repeat refine aB ?_
  refine aH (by first|exact .inl rfl|exact .inr rfl) rfl rfl _ _ aG aF (⟨rfl,rfl,by rw [cB (p:=(3:Int)=3) rfl]⟩)
 refine kH (fun G M I=>∃(b26:Nat) (bx:SE),bx.v=⟨Qn.nR q1*Qn.nR q0,Qn.prm (Qn.mul q1 q0),(Sim.mk (Qn.nR q1) q1 s1.v).mv s0.v⟩∧bx.q.fit∧G=[(9, .int .i64 0),(3, .pointer (some ⟨b3,0,none⟩)),(4, .pointer (some ⟨b4,0,none⟩)),(5, .pointer (some ⟨b5,0,none⟩)),(8, .pointer (some ⟨b8,0,none⟩)),(10, .pointer (some ⟨b10,0,none⟩)),(25, .pointer (some ⟨b25,0,none⟩)),(26, .pointer (some ⟨b26,0,none⟩))]∧M= .blk b26 (pX bx) 48::M0∧gM bx (64+64) 513::aI (some ⟨b25,0,none⟩) [.int .i64 x.d, .slice pS2 ((x.S.map (iT q0 s0)).map (iT q1 s1)).length cS2, .slice pP2 ((x.P.map (fun p=>jI q0 p s0)).map (fun p=>jI q1 p s1)).length cP2, .slice pO2 x.O.length cO2]::aI pP2 (recs gP ((x.P.map (fun p=>jI q0 p s0)).map (fun p=>jI q1 p s1)))::aI (some ⟨b3,0,none⟩) (nO x)::I0=I) ?_ ?_
 ·((repeat refine aJ ?_);refine lG (M0) (aI (some ⟨b10,0,none⟩) (pX sx)::gM sx 64 64::aI (some ⟨b5,0,none⟩) (recs gP [s0,s1])::aI (some ⟨b4,0,none⟩) (recs eQ [q0,q1])::I0) mixed ?_)
  refine dH (fuel:=10) (listed':=#[true,true,true,false,true,true,true,true,false,false,true,false,false,false,false,false,false,false]) [0,1,2,4,5,6,7,10] [3,4,3,4,4,4,3,3] aG aF (by kernel_rfl) (by kernel_rfl) rfl rfl ?_
  repeat refine aB ?_
  (apply bL;exact gQ;exact rfl;exact aA;exact (AtsZ.v0 (enc:=gP) (ms:=[s0,s1]) (i:=1) (bi2 (by decide)));exact rfl;exact rfl)
  repeat refine aB ?_
  refine aN (fuel:=9) (i:=3) (j:=15) (by kernel_rfl) ?_ ?_
  ·(refine bI rfl rfl (tQ hqf1) rfl rfl rfl ?_;rintro _ _ _ ⟨rfl,e1,rfl,he1,rfl⟩;refine aL ?_)
   refine aT ?_
   repeat refine aB ?_
   refine aN (fuel:=8) (i:=8) (j:=15) (by kernel_rfl) ?_ ?_
   ·(refine aU rfl (iL (p:=s1) (hs1 0) (hs1 1) (hs1 2)) ?_;rintro _ _ _ ⟨rfl,t1,rfl,ht1,rfl⟩;refine aL ?_)
    refine aT ?_
    refine dH (fuel:=7) (listed':=#[true,true,true,true,true,true,true,true,true,true,true,false,false,false,false,false,false,false]) [9] [1] aG aF (by kernel_rfl) (by kernel_rfl) rfl rfl ?_
    repeat refine aB ?_
    (refine aD rfl (fun _=>dK (vals:=[rv e1,qv q1,tv t1]) (cells:=pX ⟨e1,q1,t1⟩) rfl ?hpl rfl ?hz) rfl rfl ?_;(case hpl=>repeat (first|exact True.intro|refine ⟨rfl,?_⟩));(case hz=>rfl))
    repeat refine aB ?_
    refine aN (fuel:=6) (i:=11) (j:=15) (by kernel_rfl) ?_ ?_
    ·(refine aS rfl (zS (s:=⟨e1,q1,t1⟩) (t:=sx) (kb:=64) (K:=513) hqz1 hqf1 (by rw [he1];exact hn1) (by rw [hsxq];exact hqz) (by rw [hsxq];exact hqf) (by rw [hsxs];exact hn0) (by decide) rfl (Hv.mkSE (Hv.mem aA) (Hv.mem aA)) (Hv.mem aA) (by rw [hsxq];exact hpe)) rfl rfl ?_;rintro _ _ _ ⟨rfl,bx,rfl,hbx,hbf,rfl⟩;refine aL ?_)
     refine aT ?_
     refine aM [12,13,14,15,16,17] [1,1,2,0,0,0] aG aF (by kernel_rfl) (by kernel_rfl) rfl rfl ?_
     repeat refine aB ?_
     refine bG (fun b26=>?_)
     repeat refine aB ?_
     refine mR ⟨b26,bx,by rw [hbx];unfold SE.v;simp only [he1,ht1,hsxs,hsxq,hsxt],hbf,rfl,rfl,rfl⟩
    ·refine bG (fun b26=>?_)
     refine aT ?_
     refine aM [11,12,13,14,16,17] [0,0,0,1,0,0] aG aF (by kernel_rfl) (by kernel_rfl) rfl rfl ?_
     repeat refine aB ?_
     (refine aS rfl (zS (s:=⟨e1,q1,t1⟩) (t:=sx) (kb:=64) (K:=513) hqz1 hqf1 (by rw [he1];exact hn1) (by rw [hsxq];exact hqz) (by rw [hsxq];exact hqf) (by rw [hsxs];exact hn0) (by decide) rfl (Hv.mkSE (Hv.mem aA) (Hv.mem aA)) (Hv.mem aA) (by rw [hsxq];exact hpe)) rfl rfl ?_;rintro _ _ _ ⟨rfl,bx,rfl,hbx,hbf,rfl⟩;refine aL ?_)
     repeat refine aB ?_
     refine mR ⟨b26,bx,by rw [hbx];unfold SE.v;simp only [he1,ht1,hsxs,hsxq,hsxt],hbf,rfl,rfl,rfl⟩
   ·refine bG (fun b26=>?_)
    refine aT ?_
    refine aM [8,9,11,12,13,14,16,17] [0,0,0,0,0,1,0,0] aG aF (by kernel_rfl) (by kernel_rfl) rfl rfl ?_
    repeat refine aB ?_
    (refine aU rfl (iL (p:=s1) (hs1 0) (hs1 1) (hs1 2)) ?_;rintro _ _ _ ⟨rfl,t1,rfl,ht1,rfl⟩;refine aL ?_)
    repeat refine aB ?_
    (refine aD rfl (fun _=>dK (vals:=[rv e1,qv q1,tv t1]) (cells:=pX ⟨e1,q1,t1⟩) rfl ?hpl rfl ?hz) rfl rfl ?_;(case hpl=>repeat (first|exact True.intro|refine ⟨rfl,?_⟩));(case hz=>rfl))
    repeat refine aB ?_
    (refine aS rfl (zS (s:=⟨e1,q1,t1⟩) (t:=sx) (kb:=64) (K:=513) hqz1 hqf1 (by rw [he1];exact hn1) (by rw [hsxq];exact hqz) (by rw [hsxq];exact hqf) (by rw [hsxs];exact hn0) (by decide) rfl (Hv.mkSE (Hv.mem aA) (Hv.mem aA)) (Hv.mem aA) (by rw [hsxq];exact hpe)) rfl rfl ?_;rintro _ _ _ ⟨rfl,bx,rfl,hbx,hbf,rfl⟩;refine aL ?_)
    repeat refine aB ?_
    refine mR ⟨b26,bx,by rw [hbx];unfold SE.v;simp only [he1,ht1,hsxs,hsxq,hsxt],hbf,rfl,rfl,rfl⟩
  ·refine bG (fun b26=>?_)
   refine aT ?_
   refine aM [3,8,9,11,12,13,14,16,17] [0,0,0,0,0,0,1,0,0] aG aF (by kernel_rfl) (by kernel_rfl) rfl rfl ?_
   repeat refine aB ?_
   (refine bI rfl rfl (tQ hqf1) rfl rfl rfl ?_;rintro _ _ _ ⟨rfl,e1,rfl,he1,rfl⟩;refine aL ?_)
   repeat refine aB ?_
   (refine aU rfl (iL (p:=s1) (hs1 0) (hs1 1) (hs1 2)) ?_;rintro _ _ _ ⟨rfl,t1,rfl,ht1,rfl⟩;refine aL ?_)
   repeat refine aB ?_
   (refine aD rfl (fun _=>dK (vals:=[rv e1,qv q1,tv t1]) (cells:=pX ⟨e1,q1,t1⟩) rfl ?hpl rfl ?hz) rfl rfl ?_;(case hpl=>repeat (first|exact True.intro|refine ⟨rfl,?_⟩));(case hz=>rfl))
   repeat refine aB ?_
   (refine aS rfl (zS (s:=⟨e1,q1,t1⟩) (t:=sx) (kb:=64) (K:=513) hqz1 hqf1 (by rw [he1];exact hn1) (by rw [hsxq];exact hqz) (by rw [hsxq];exact hqf) (by rw [hsxs];exact hn0) (by decide) rfl (Hv.mkSE (Hv.mem aA) (Hv.mem aA)) (Hv.mem aA) (by rw [hsxq];exact hpe)) rfl rfl ?_;rintro _ _ _ ⟨rfl,bx,rfl,hbx,hbf,rfl⟩;refine aL ?_)
   repeat refine aB ?_
   refine mR ⟨b26,bx,by rw [hbx];unfold SE.v;simp only [he1,ht1,hsxs,hsxq,hsxt],hbf,rfl,rfl,rfl⟩
 rintro G M I ⟨b26,bx,hbx,hbf,rfl,rfl,rfl⟩
 refine mQ (fun _ hw=>hw.freezeB (cs:=pX bx) .here) ?_
 have hbq:bx.q=Qn.prm (Qn.mul q1 q0):=congrArg Sim.q hbx
 have hbs:bx.s.q=Qn.nR q1*Qn.nR q0:=congrArg Sim.s hbx
 have hbz:bx.q.nz:=by rw [hbq];exact Qn.prm_nz (Qn.nz_mul hqz1 hqz)
 have hbp:0 < bx.s.q:=by rw [hbs];exact Rat.mul_pos hn1 hn0
 repeat refine aB ?_
 rw [hmP]
 refine kS [25,26,239,240] rfl (fun k G M I=>∃i:Nat,i≤mP∧k=mP - i∧G=[(241, .int .i64 (i:Int))]∧M0=M∧aI (some ⟨b26,0,none⟩) (pX bx)::gM bx (64+64) 513::aI (some ⟨b25,0,none⟩) [.int .i64 x.d, .slice pS2 ((x.S.map (iT q0 s0)).map (iT q1 s1)).length cS2, .slice pP2 ((x.P.map (fun p=>jI q0 p s0)).map (fun p=>jI q1 p s1)).length cP2, .slice pO2 x.O.length cO2]::aI pP2 (recs gP ((x.P.map (fun p=>jI q0 p s0)).map (fun p=>jI q1 p s1)))::aI (some ⟨b3,0,none⟩) (nO x)::I0=I) (mP) (⟨0,by omega,rfl,rfl,rfl,rfl⟩) ?_
 rintro kk G M I ⟨i,hi,rfl,rfl,rfl,rfl⟩
 by_cases hip:i < mP
 ·have hPi:=hPm i (by omega)
  have hpo:=hck.P _ (bJ (ms:=x.P) (i:=(i:Int)) ⟨by omega,by omega⟩)
  have hmo2:=hPo i (by omega)
  obtain ⟨p,hp⟩:∃p,gt x.P (i:Int)=p:=⟨_,rfl⟩
  rw [hp] at hPi hpo hmo2
  have hb1:=hpo.x
  have hb2:=hpo.y
  have hb3:=hpo.z
  have hc1:=hmo2.x
  have hc2:=hmo2.y
  have hc3:=hmo2.z
  repeat refine aB ?_
  rw [hp]
  refine bG (fun b28=>?_)
  repeat refine aB ?_
  refine mQ (fun _ hw=>hw.freezeB (cs:=gP p) .here) ?_
  refine kH (fun G M I=>∃(b29:Nat) (r:TE),r.v=(jI q1 (jI q0 p s0) s1).v∧G=[(25, .pointer (some ⟨b25,0,none⟩)),(26, .pointer (some ⟨b26,0,none⟩)),(27, .int .i64 (i:Int)),(29, .pointer (some ⟨b29,0,none⟩)),(30, .int .i64 0),(239, .slice x.pP mP x.cP),(240, .int .i64 (mP:Int)),(241, .int .i64 (i:Int))]∧M= .blk b29 (eT r) 45::M0∧gN r 1026::aI (some ⟨b26,0,none⟩) (pX bx)::gM bx (64+64) 513::aI (some ⟨b25,0,none⟩) [.int .i64 x.d, .slice pS2 ((x.S.map (iT q0 s0)).map (iT q1 s1)).length cS2, .slice pP2 ((x.P.map (fun p=>jI q0 p s0)).map (fun p=>jI q1 p s1)).length cP2, .slice pO2 x.O.length cO2]::aI pP2 (recs gP ((x.P.map (fun p=>jI q0 p s0)).map (fun p=>jI q1 p s1)))::aI (some ⟨b3,0,none⟩) (nO x)::I0=I) ?_ ?_
  ·((repeat refine aJ ?_);refine lG (M0) (aI (some ⟨b28,0,none⟩) (gP p)::aI (some ⟨b26,0,none⟩) (pX bx)::gM bx (64+64) 513::I0) mixed ?_)
   refine dH (fuel:=8) (listed':=#[true,true,false,false,false,false,false,false,false,false]) [0,1] [2,2] aG aF (by kernel_rfl) (by kernel_rfl) rfl rfl ?_
   repeat refine aB ?_
   refine aN (fuel:=7) (i:=2) (j:=7) (by kernel_rfl) ?_ ?_
   ·(refine aU rfl (iL (p:=p) (by omega) (by omega) (by omega)) ?_;rintro _ _ _ ⟨rfl,t1,rfl,ht1,rfl⟩;refine aL ?_)
    refine aT ?_
    repeat refine aB ?_
    refine aN (fuel:=6) (i:=3) (j:=7) (by kernel_rfl) ?_ ?_
    ·refine tyJ rfl (mJ (x:=bx) (p:=t1) (ks:=64+64) (kt:=513) (kp:=64) (K:=1026) hbz hbf hbp (by decide) (by decide) (by decide) rfl (Hv.mem aA) (Hv.mem aA)) (fun r hr=>?_)
     refine aT ?_
     refine aM [4,5,6,7,8,9] [1,1,2,0,0,0] aG aF (by kernel_rfl) (by kernel_rfl) rfl rfl ?_
     repeat refine aB ?_
     refine bG (fun b29=>?_)
     repeat refine aB ?_
     refine mR ⟨b29,r,by rw [hr,ht1,hbx];exact aLK hqz hqz1 p s0 s1,rfl,rfl,rfl⟩
    ·refine bG (fun b29=>?_)
     refine aT ?_
     refine aM [3,4,5,6,8,9] [0,0,0,1,0,0] aG aF (by kernel_rfl) (by kernel_rfl) rfl rfl ?_
     repeat refine aB ?_
     refine tyJ rfl (mJ (x:=bx) (p:=t1) (ks:=64+64) (kt:=513) (kp:=64) (K:=1026) hbz hbf hbp (by decide) (by decide) (by decide) rfl (Hv.mem aA) (Hv.mem aA)) (fun r hr=>?_)
     repeat refine aB ?_
     refine mR ⟨b29,r,by rw [hr,ht1,hbx];exact aLK hqz hqz1 p s0 s1,rfl,rfl,rfl⟩
   ·refine bG (fun b29=>?_)
    refine aT ?_
    refine aM [2,3,4,5,6,8,9] [0,0,0,0,1,0,0] aG aF (by kernel_rfl) (by kernel_rfl) rfl rfl ?_
    repeat refine aB ?_
    (refine aU rfl (iL (p:=p) (by omega) (by omega) (by omega)) ?_;rintro _ _ _ ⟨rfl,t1,rfl,ht1,rfl⟩;refine aL ?_)
    repeat refine aB ?_
    refine tyJ rfl (mJ (x:=bx) (p:=t1) (ks:=64+64) (kt:=513) (kp:=64) (K:=1026) hbz hbf hbp (by decide) (by decide) (by decide) rfl (Hv.mem aA) (Hv.mem aA)) (fun r hr=>?_)
    repeat refine aB ?_
    refine mR ⟨b29,r,by rw [hr,ht1,hbx];exact aLK hqz hqz1 p s0 s1,rfl,rfl,rfl⟩
  rintro G M I ⟨b29,r,hr,rfl,rfl,rfl⟩
  refine mQ (fun _ hw=>hw.freezeB (cs:=eT r) .here) ?_
  repeat refine aB ?_
  rw [hPi]
  repeat refine aB ?_
  (refine aU rfl (iL (p:=jI q1 (jI q0 p s0) s1) (by omega) (by omega) (by omega)) ?_;rintro _ _ _ ⟨rfl,t2,rfl,ht2,rfl⟩;refine aL ?_)
  refine bG (fun b31=>?_)
  repeat refine aB ?_
  refine mQ (fun _ hw=>hw.freezeB (cs:=eT t2) .here) ?_
  refine bD (φ:=lK (r.l b29) 1026) (Hv.tl (Hv.mem (φ:=gN r 1026) aA) aA) ?_
  refine bD (φ:=lK (t2.l b31) 64) (Hv.tl (Hv.mem (φ:=gN t2 64) aA) aA) ?_
  (repeat refine aJ ?_);refine aO 1 [0,1,2,3,4,5,6,7] [1,1,0,0,0,0,0,0] mixed (by kernel_rfl) ?_
  repeat refine aB ?_
  (refine aD rfl (fun _=>eF rfl) rfl rfl ?_)
  (refine aD rfl (fun _=>eF rfl) rfl rfl ?_)
  (refine aS rfl (pJ (x:=r.l b29) (y:=t2.l b31) (u:=1026) (m:=64) (by decide) (by show 3≤100000;omega) (by show 3≤100000;omega) (Hv.mem aA) (Hv.mem aA)) rfl rfl ?_;rintro _ _ _ ⟨rfl,rfl,rfl⟩;refine aL ?_)
  rw [cB (l_eq (by rw [hr,ht2]))]
  repeat refine aB ?_
  refine iC (mP - (i+1)) (⟨i+1,by omega,rfl,rfl,rfl,rfl⟩)
 obtain rfl:mP=i:=by omega
 repeat refine aB ?_
 refine gD rfl rfl (⟨rfl,rfl,rfl⟩)
end
end Go.Proofs.YtgpkjcmipiodcaaGreat
