/- Parts of records stored; rows that are or are not there. -/
import Derived.Test.YtgpkjcmipiodcaaGreatZwba
import Derived.Test.YtgpkjcmipiodcaaGreatZwaw
import Derived.Test.YtgpkjcmipiodcaaGreatZwag
import Derived.Test.YtgpkjcmipiodcaaGreatZwan
import Derived.Test.YtgpkjcmipiodcaaGreatZwax
set_option linter.unusedSimpArgs false
set_option linter.unusedVariables false
set_option maxRecDepth 100000
set_option maxHeartbeats 4000000
namespace Go.Fx
theorem aLD {A B Z vs:List Value} {j:Nat} (h:j+vs.length≤B.length):splice (A++B++Z) (A.length+j) vs=A++splice B j vs++Z:=by
 unfold splice
 rw [List.append_assoc A B Z,List.take_append,List.take_of_length_le (by omega),Nat.add_sub_cancel_left,List.take_append_of_le_length (by omega)]
 rw [show A.length+j+vs.length=A.length+(j+vs.length) by omega,List.drop_append,List.drop_of_length_le (by omega),Nat.add_sub_cancel_left,List.drop_append_of_le_length (by omega)]
 simp
theorem StAts.part {α:Type} [Inhabited α] {enc:α→List Value} {sz:Nat} [hz:Sized enc sz] {ms:List α} {i:Int} {j:Nat} {vs:List Value} (mm:α) (hi:0≤i∧i < ms.length) (hj:j+vs.length≤sz) (hv:splice (enc (gt ms i)) j vs=enc mm):StAts (recs enc ms) (i.toNat*sz+j) vs (recs enc (st ms i mm)):=by
 have hlt:i.toNat < ms.length:=by omega
 have hg:gt ms i=ms[i.toNat]:=by simp [gt,List.getD,hlt]
 have hA:(recs enc (ms.take i.toNat)).length=i.toNat*sz:=by rw [fJ,List.length_take,Nat.min_eq_left (by omega)]
 have h1:recs enc ms=recs enc (ms.take i.toNat)++enc (gt ms i)++recs enc (ms.drop (i.toNat+1)):=by
  have:ms=ms.take i.toNat++[ms[i.toNat]]++ms.drop (i.toNat+1):=by
   rw [List.append_assoc,List.singleton_append,←List.drop_eq_getElem_cons hlt,List.take_append_drop]
  rw [hg]
  conv=>lhs;rw [this]
  rw [jO,jO];simp [recs]
 have h2:recs enc (st ms i mm)=recs enc (ms.take i.toNat)++enc mm++recs enc (ms.drop (i.toNat+1)):=by
  unfold st
  rw [List.set_eq_take_append_cons_drop,if_pos hlt,show ms.take i.toNat++mm::ms.drop (i.toNat+1)=ms.take i.toNat++[mm]++ms.drop (i.toNat+1) by simp,jO,jO];simp [recs]
 refine ⟨?_,?_⟩
 ·rw [h1,h2,←hA,aLD (by rw [hz.len];exact hj),hv]
 ·rw [fJ]
  have:i.toNat+1≤ms.length:=by omega
  have:=Nat.mul_le_mul_right sz this
  rw [Nat.add_mul] at this;omega
def RInv (a:Option Addr) (cs:List Value) (e:TypeId) (M1 M:List Ent):Prop:=(a=none∧cs=[]∧M1=M)∨∃b tl,a=some ⟨b,0,none⟩∧M1= .blk b (cs++tl) e::M
section
variable {P:Program} {n:Nat} {Q:Exit→Act→World→Prop} {G:Env} {X:List Nat} {w0:World} {M M1:List Ent} {I:List aV}
theorem aPA {c:Code} {A B:Ent} {a:Option Addr} {mm c0:Nat} {cs:List Value} {e:TypeId} {sz:Nat} (k:∀M1,RInv a cs e M1 M→TD P n c Q G X w0 (A::B::M1) I):TD P n c Q G X w0 (A::B:: .row a mm c0 cs e sz::M) I:=⟨fun w hw=>by
 have hp:(A::B:: .row a mm c0 cs e sz::M).Perm (.row a mm c0 cs e sz::A::B::M):=(List.Perm.cons A (List.Perm.swap _ _ _)).trans (List.Perm.swap _ _ _)
 rcases (hw.perm hp).rowBlk with ⟨e1,e2,e3⟩|⟨b,tl,e1,_,hm⟩
 ·exact (k M (.inl ⟨e1,e3,rfl⟩)).go w (hw.perm hp).tail
 ·exact (k _ (.inr ⟨b,tl,e1,rfl⟩)).go w (hm.perm ((List.Perm.swap _ _ _).trans (List.Perm.cons A (List.Perm.swap _ _ _))))⟩
theorem Mem.frzInv {w:World} {A B:Ent} {a:Option Addr} {cs:List Value} {e:TypeId} (h:RInv a cs e M1 M) (hw:Mem X w0 (A::B::M1) I w):Mem X w0 (A::B::M) (aI a cs::I) w:=by
 rcases h with ⟨rfl,rfl,rfl⟩|⟨b,tl,rfl,rfl⟩
 ·exact hw.nilS none
 ·have h1:=hw.freezeB (.there (.there .here))
  exact (h1.takeI (cs:=cs) (tl:=tl) List.mem_cons_self).inc (.of fun φ hφ=>by
   rcases List.mem_cons.1 hφ with rfl|hφ
   ·exact List.mem_cons_self
   ·exact List.mem_cons_of_mem _ (List.mem_cons_of_mem _ hφ))
theorem aRF {c:Code} {A B:Ent} {a:Option Addr} {cs:List Value} {e:TypeId} (h:RInv a cs e M1 M) (k:TD P n c Q G X w0 (A::B::M) (aI a cs::I)):TD P n c Q G X w0 (A::B::M1) I:=mQ (fun _ hw=>Mem.frzInv h hw) k
end
end Go.Fx
namespace Go.Proofs.YtgpkjcmipiodcaaGreat
open Go Go.Fx
theorem wJ {α:Type} [Inhabited α] {os:List α} {g:α} {i j:Nat} (hi:i < os.length) (hj:j < os.length):gt (st os (i:Int) g) (j:Int)=if j=i then g else gt os (j:Int):=by
 rw [aBO g ⟨by omega,by omega⟩ (by omega)]
 by_cases h:j=i
 ·rw [if_pos h,if_pos (by omega)]
 ·rw [if_neg h,if_neg (by omega)]
theorem aLZ {α:Type} [Inhabited α] {a b:List α} (hl:a.length=b.length) (h:∀j:Nat,j < a.length→gt a j=gt b j):a=b:=List.ext_getElem hl (fun i h1 h2=>by have:=h i h1;rwa [eU h1,eU h2] at this)
def iT (q:Qn) (s:P3) (t:ST):ST:=⟨(jI q t.at s).x,(jI q t.at s).y,(jI q t.at s).z,Qn.prm (Qn.mul q t.q),t.f,t.cx,t.cy⟩
def aJG (q:Qn) (t:ST):ST:=⟨t.x,t.y,t.z,Qn.prm (Qn.mul q t.q),t.f,t.cx,t.cy⟩
abbrev zNX:List Value:=[.int .i64 0, .slice none 0 0, .slice none 0 0, .slice none 0 0]
structure MvOk (x:NX) (q:Qn) (s:P3):Prop where
 nz:q.nz
 fit:q.fit
 im:∀o∈x.O,o.k=0
 S:∀t∈x.S,(Qn.prm (Qn.mul q t.q)).fit∧(jI q t.at s).Ok
 P:∀p∈x.P,(jI q p s).Ok
def MovQ (x:NX) (q:Qn) (s:P3) (M0:List Ent) (I0:List aV) (v:Value) (M:List Ent) (I:List aV):Prop:=
 M0=M∧((∃e:Int,e≠0∧v= .tuple #[.agg zNX.toArray, .int .i64 e]∧I=I0)∨
  (MvOk x q s∧∃(pS:Option Addr) (cS:Nat) (pP:Option Addr) (cP:Nat) (pO:Option Addr) (cO:Nat),(Ok pO∨(x.O.length=0∧cO=0))∧v= .tuple #[nxv ⟨x.d,pS,x.S.map (iT q s),cS,pP,x.P.map (fun p=>jI q p s),cP,pO,x.O,cO⟩, .int .i64 0]∧I=aI pS (recs qU (x.S.map (iT q s)))::aI pP (recs gP (x.P.map (fun p=>jI q p s)))::aI pO (recs jU x.O)::I0))
/- ---------- Clone of []fiducial/api.Obs ---------- -/
section
variable {X:List Nat} {w0:World} {M0:List Ent} {I0:List aV}
theorem aLL {q:Option Addr} {a:List OB} {c:Nat} (hn:(a.length:Int)*56≤140737488355328) (hok:Ok q∨(a.length=0∧c=0)) (ha:aI q (recs jU a)∈I0):
  CD Tryz.prog 28 [.slice q a.length c] X w0 M0 I0 (fun v M I=>I0=I∧∃q' c',v= .slice q' a.length c'∧M= .row q' a.length c' (recs jU a) 73 7::M0):=by
 refine aZ Tryz.func28 rfl Tryz.ntmps28 rfl ?_
 repeat refine aB ?_
 refine aD rfl (fun _=>wN rfl) rfl rfl ?_
 cases q with
 |some ad=>
  repeat refine aB ?_
  refine lL (cs:=recs jU []) ([]) rfl (fun b1=>?_)
  repeat refine aB ?_
  refine jC (mm:=0) 7 iN rfl (by omega) ?_
  refine oO (xs:=[]) (ys:=a) 0 rfl rfl rfl (Src.imm aA hok) (by decide) rfl (by simp;omega) (by simp;omega) rfl rfl ?_
  intro a2 c2
  refine aL ?_
  repeat refine aB ?_
  refine aH (by first|exact .inl rfl|exact .inr rfl) rfl rfl _ _ aG aF (⟨rfl,a2,c2,by simp,by simp⟩)
 |none=>
  obtain ⟨h0,rfl⟩:a.length=0∧c=0:=hok.resolve_left (fun h=>by obtain ⟨b,o,e⟩:=h.cases;cases e)
  have hnil:a=[]:=List.eq_nil_of_length_eq_zero h0
  subst hnil
  repeat refine aB ?_
  refine aCE 73 7 ?_
  refine gD rfl rfl (⟨rfl,none,0,rfl,rfl⟩)
end
section
variable {X:List Nat} {w0:World} {M0 M1:List Ent} {I0:List aV}
theorem aWZ {o:OB}:CD Tryz.prog 27 [obv o] X w0 M0 I0 (fun v M I=>v= .bool (B (o.k≠0))∧M0=M∧I0=I):=by
 refine aZ Tryz.func27 rfl Tryz.ntmps27 rfl ?_
 refine fE ?_
 refine fG rfl (fun b1=>?_)
 refine aC (cs:=jU o) .here ?_
 repeat refine aB ?_
 refine gD rfl rfl (⟨rfl,rfl,rfl⟩)
theorem xO {n:Nat} {G:Env} {M:List Ent} {I:List aV} {x:NX} {q:Qn} {s:P3} {e:Int} {b6:Nat} (h6:lk G 6=some (.pointer (some ⟨b6,0,none⟩))) (h7:lk G 7=some (.int .i64 e)) (hm: .blk b6 zNX 26∈M) (he:e≠0) (hM:SubP M M0) (hI:Inc I I0):
  ND n (Body Tryz.prog Tryz.f8 (KB (MovQ x q s M0 I0) X w0)) .ret G X w0 M I:=
 dI (rs:=[.cell 6 26, .tmp 7]) (vs:=[.agg zNX.toArray, .int .i64 e]) (.inl rfl) rfl (.cellN (cs:=zNX) inferInstance h6 hm rfl (.tmp h7 .nil)) rfl M0 I0 hM hI ⟨rfl, .inl ⟨e,he,rfl,rfl⟩⟩
theorem aEY {x:NX} {q:Qn} {s:P3} (hN:NPre x) (hs:∀k,uU (s.co k)) (hcO:Ok x.pO∨(x.O.length=0∧x.cO=0)) (hS:aI x.pS (recs qU x.S)∈I0) (hP:aI x.pP (recs gP x.P)∈I0) (hO:aI x.pO (recs jU x.O)∈I0):
  CD Tryz.prog 8 [nxv x,qv q,p3v s] X w0 M0 I0 (MovQ x q s M0 I0):=by
 have hd:=hN.d
 have lO:=hN.lO
 have lS:=hN.lS
 have lP:=hN.lP
 have hCk:=fun M0 I0 h1 h2 h3=>aEV (X:=X) (w0:=w0) (M0:=M0) (I0:=I0) (x:=x) hN h1 h2 h3
 have hQk:=fun M0 I0=>xG (X:=X) (w0:=w0) (M0:=M0) (I0:=I0) (q:=q)
 have hcl:=fun M0 I0 h=>aLL (X:=X) (w0:=w0) (M0:=M0) (I0:=I0) (q:=x.pO) (a:=x.O) (c:=x.cO) (by omega) hcO h
 obtain ⟨mS,hmS⟩:∃m,x.S.length=m:=⟨_,rfl⟩
 obtain ⟨mP,hmP⟩:∃m,x.P.length=m:=⟨_,rfl⟩
 obtain ⟨mO,hmO⟩:∃m,x.O.length=m:=⟨_,rfl⟩
 refine iO Tryz.func8 rfl Tryz.ntmps8 rfl ?_
 refine fE ?_
 refine fG rfl (fun b3=>?_)
 refine aC (cs:=nO x) .here ?_
 refine fG rfl (fun b4=>?_)
 refine aC (cs:=eQ q) .here ?_
 refine fG rfl (fun b5=>?_)
 refine aC (cs:=gP s) .here ?_
 refine bG (fun b6=>?_)
 repeat refine aB ?_
 (refine aU rfl (hCk _ _ aA aA aA) ?_;rintro _ _ _ ⟨rfl,rfl,e,rfl,he⟩;refine aL ?_)
 by_cases h0:e=0
 ·subst h0
  clear he
  repeat refine aB ?_
  refine dP rfl (hQk _ _) ?_
  by_cases hq0:lN q=0
  ·rw [hq0]
   obtain ⟨hqn,hqf⟩:=aWP hq0
   repeat refine aB ?_
   rw [hmO]
   (refine aS rfl (aKF (fun o=>o.k≠0) (fun M=>M= .blk b6 zNX 26::M0) hmO (by omega) aA rfl (fun M hM i hi=>by subst hM;exact (aWZ (o:=gt x.O (i:Int))).mono (fun v M I h=>⟨h.1,h.2.1.symm,h.2.2⟩))) rfl rfl ?_;rintro _ _ _ ⟨rfl,rfl,rfl⟩;refine aL ?_)
   by_cases hk:∃o∈x.O,o.k≠0
   ·rw [cB hk]
    repeat refine aB ?_
    (refine aD rfl (fun _=>aK (pvs:=([]).zipIdx.map (fun p=>(p.2,p.1))) (cells:=zNX) rfl rfl) rfl rfl ?_)
    repeat refine aB ?_
    exact xO rfl rfl aA (by decide) aG aF
   ·rw [bF hk]
    have him:∀o∈x.O,o.k=0:=fun o ho=>Classical.byContradiction (fun h=>hk ⟨o,ho,h⟩)
    repeat refine aB ?_
    refine kH (fun G M I=>∃(b10:Nat) (qo:Option Addr) (co:Nat),G=[(3, .pointer (some ⟨b3,0,none⟩)),(4, .pointer (some ⟨b4,0,none⟩)),(5, .pointer (some ⟨b5,0,none⟩)),(6, .pointer (some ⟨b6,0,none⟩)),(10, .pointer (some ⟨b10,0,none⟩))]∧M= .blk b10 [.int .i64 x.d, .slice none 0 0, .slice none 0 0, .slice qo x.O.length co] 26:: .row qo x.O.length co (recs jU x.O) 73 7:: .blk b6 zNX 26::M0∧aI (some ⟨b5,0,none⟩) (gP s)::aI (some ⟨b4,0,none⟩) (eQ q)::aI (some ⟨b3,0,none⟩) (nO x)::I0=I) ?_ ?_
    ·((repeat refine aJ ?_);refine lG ([]) (aI (some ⟨b3,0,none⟩) (nO x)::[]) mixed ?_)
     refine dH (fuel:=4) (listed':=#[true,true,true,true,false,false,false,false]) [0,1,2,3] [2,2,2,1] aG aF (by kernel_rfl) (by kernel_rfl) rfl rfl ?_
     repeat refine aB ?_
     refine aN (fuel:=3) (i:=4) (j:=6) (by kernel_rfl) ?_ ?_
     ·((refine aU rfl (hcl _ _ aA) ?_;rintro _ _ _ ⟨rfl,qo,co,rfl,rfl⟩;refine aL ?_))
      refine aT ?_
      refine aM [5,6,7] [1,0,0] aG aF (by kernel_rfl) (by kernel_rfl) rfl rfl ?_
      repeat refine aB ?_
      (refine aD rfl (fun _=>aK (pvs:=[(0, .int .i64 x.d),(3, .slice qo x.O.length co)]) (cells:=[.int .i64 x.d, .slice none 0 0, .slice none 0 0, .slice qo x.O.length co]) rfl rfl) rfl rfl ?_)
      repeat refine aB ?_
      refine bG (fun b10=>?_)
      repeat refine aB ?_
      refine mR ⟨b10,qo,co,rfl,rfl,rfl⟩
     ·refine bG (fun b10=>?_)
      refine aT ?_
      refine aM [4,5,7] [0,0,0] aG aF (by kernel_rfl) (by kernel_rfl) rfl rfl ?_
      repeat refine aB ?_
      ((refine aU rfl (hcl _ _ aA) ?_;rintro _ _ _ ⟨rfl,qo,co,rfl,rfl⟩;refine aL ?_))
      repeat refine aB ?_
      (refine aD rfl (fun _=>aK (pvs:=[(0, .int .i64 x.d),(3, .slice qo x.O.length co)]) (cells:=[.int .i64 x.d, .slice none 0 0, .slice none 0 0, .slice qo x.O.length co]) rfl rfl) rfl rfl ?_)
      repeat refine aB ?_
      refine mR ⟨b10,qo,co,rfl,rfl,rfl⟩
    rintro G M I ⟨b10,qo,co,rfl,rfl,rfl⟩
    refine xH (fun w hw=>(hw.rowS (.tail _ (.head _))).2.imp id And.right) (fun hoc=>?_)
    refine mQ (fun _ hw=>hw.freezeR (cs:=recs jU x.O) (.there .here)) ?_
    refine pR 68 10 ?_
    repeat refine aB ?_
    rw [hmS]
    refine kS [3,4,5,6,10,65,66] rfl (fun k G M I=>∃(i:Nat) (ra:Option Addr) (rc:Nat) (us:List ST),i≤mS∧k=mS - i∧(us=(x.S.take i).map (aJG q)∧∀t∈x.S.take i,(Qn.prm (Qn.mul q t.q)).fit)∧G=[(67, .int .i64 (i:Int))]∧M= .blk b10 [.int .i64 x.d, .slice ra us.length rc, .slice none 0 0, .slice qo x.O.length co] 26:: .blk b6 zNX 26:: .row ra us.length rc (recs qU us) 68 10::M0∧aI qo (recs jU x.O)::aI (some ⟨b5,0,none⟩) (gP s)::aI (some ⟨b4,0,none⟩) (eQ q)::aI (some ⟨b3,0,none⟩) (nO x)::I0=I) (mS) (⟨0,none,0,[],by omega,rfl,⟨rfl,fun t ht=>absurd ht List.not_mem_nil⟩,rfl,rfl,rfl⟩) ?_
    rintro kk G M I ⟨i,ra,rc,us,hi,rfl,⟨hus,hfs⟩,rfl,rfl,rfl⟩
    have hul:us.length=i:=by rw [hus,List.length_map,List.length_take];omega
    by_cases hiS:i < mS
    ·have hst:=hN.S _ (bJ (ms:=x.S) (i:=(i:Int)) ⟨by omega,by omega⟩)
     have htk:x.S.take (i+1)=x.S.take i++[gt x.S (i:Int)]:=by rw [List.take_add_one,List.getElem?_eq_getElem (by omega),eU (by omega)];rfl
     obtain ⟨t,hte⟩:∃t,gt x.S (i:Int)=t:=⟨_,rfl⟩
     rw [hte] at hst htk
     have hM:=fun M0 I0=>aNU (X:=X) (w0:=w0) (M0:=M0) (I0:=I0) (p:=q) (q:=t.q) hqn hqf hst.nz hst.fit
     repeat refine aB ?_
     refine bG (fun b12=>?_)
     rw [hte]
     repeat refine aB ?_
     refine dP rfl (hM _ _) ?_
     rcases aMB (Qn.mul q t.q) with hz|hz
     ·obtain ⟨hfit,hw⟩:=aUK hz
      rw [hz,hw]
      repeat refine aB ?_
      refine bG (fun b13=>?_)
      repeat refine yXh ?_
      (refine fM (vs:=eQ (Qn.prm (Qn.mul q t.q))) (cs':=eQ (Qn.prm (Qn.mul q t.q))) (cs:=eQ Qn.zero) rfl rfl rfl nU iN (.all rfl) rfl rfl ⟨okF,?_⟩)
      repeat refine yXh ?_
      (refine fM (vs:=eQ (Qn.prm (Qn.mul q t.q))) (cs:=qU t) (cs':=qU (aJG q t)) rfl rfl rfl nU iN (.mk rfl (by simp)) rfl rfl ⟨okF,?_⟩)
      repeat refine aB ?_
      refine lL (cs:=recs qU [aJG q t]) ([stv (aJG q t)]) rfl (fun b87=>?_)
      refine tyP (ys:=[aJG q t]) 5 rfl rfl rfl (fun a4 c4=>?_)
      repeat refine aB ?_
      refine iC (mS - (i+1)) (⟨i+1,a4,c4,us++[aJG q t],by omega,rfl,⟨by rw [hus,htk,List.map_append];rfl,fun t' ht'=>by
       rw [htk] at ht'
       rcases List.mem_append.1 ht' with h|h
       ·exact hfs t' h
       ·rw [List.mem_singleton.1 h];exact hfit⟩,rfl,rfl,rfl⟩)
     ·rw [hz]
      repeat refine aB ?_
      refine bG (fun b13=>?_)
      repeat refine aB ?_
      (refine aD rfl (fun _=>aK (pvs:=([]).zipIdx.map (fun p=>(p.2,p.1))) (cells:=zNX) rfl rfl) rfl rfl ?_)
      repeat refine aB ?_
      exact xO rfl rfl aA (by decide) aG aF
    obtain rfl:mS=i:=by omega
    have hux:∀j:Nat,j < mS→gt us j=aJG q (gt x.S j):=fun j hj=>by
     rw [hus,List.take_of_length_le (by omega),qW ⟨by omega,by omega⟩]
    rw [List.take_of_length_le (by omega)] at hfs
    have hraO:us.length=mS:=hul
    clear hus
    refine aPA (fun M1 hR=>?_)
    repeat refine aB ?_
    rw [hul]
    refine kS [3,4,5,6,10,92,93] rfl (fun k G M I=>∃(i:Nat) (M1:List Ent) (us:List ST),i≤mS∧k=mS - i∧us.length=mS∧(∀j:Nat,j < mS→gt us j=if j < i then iT q s (gt x.S j) else aJG q (gt x.S j))∧(∀j:Nat,j < i→(jI q (gt x.S j).at s).Ok)∧RInv ra (recs qU us) 68 M1 M0∧G=[(94, .int .i64 (i:Int))]∧M= .blk b10 [.int .i64 x.d, .slice ra mS rc, .slice none 0 0, .slice qo x.O.length co] 26:: .blk b6 zNX 26::M1∧aI qo (recs jU x.O)::aI (some ⟨b5,0,none⟩) (gP s)::aI (some ⟨b4,0,none⟩) (eQ q)::aI (some ⟨b3,0,none⟩) (nO x)::I0=I) (mS) (⟨0,M1,us,by omega,rfl,hul,fun j hj=>by rw [hux j hj,if_neg (by omega)],fun j hj=>absurd hj (by omega),hR,rfl,rfl,rfl⟩) ?_
    clear hR hux hul hraO us
    rintro kk G M I ⟨i,M2,us,hi,rfl,hul,hu,hok,hR,rfl,rfl,rfl⟩
    by_cases hiS:i < mS
    ·have hst:=hN.S _ (bJ (ms:=x.S) (i:=(i:Int)) ⟨by omega,by omega⟩)
     have hui:=hu i hiS
     rw [if_neg (by omega)] at hui
     obtain ⟨t,hte⟩:∃t,gt x.S (i:Int)=t:=⟨_,rfl⟩
     rw [hte] at hst hui
     have hT:=fun M0 I0=>aCT (X:=X) (w0:=w0) (M0:=M0) (I0:=I0) (q:=q) (p:=t.at) (s:=s) hqf ⟨hst.x,hst.y,hst.z⟩ hs
     rcases hR with ⟨rfl,hnil,rfl⟩|⟨b,tl,rfl,rfl⟩
     ·exfalso
      have:=congrArg List.length hnil
      rw [fJ] at this
      simp at this
      omega
     repeat refine aB ?_
     (apply mE;exact gQ;exact rfl;exact aA;exact AtsZ.app (AtsZ.r jH);exact rfl;exact rfl)
     rw [hui]
     refine bG (fun b16=>?_)
     repeat refine aB ?_
     (apply mE;exact gQ;exact rfl;exact aA;exact AtsZ.n3 rfl rfl rfl;exact rfl;exact rfl)
     repeat refine aB ?_
     (refine aU rfl (hT _ _) ?_;rintro _ _ _ ⟨rfl,rfl,r,bb,rfl,hr⟩;refine aL ?_)
     repeat refine aB ?_
     refine bG (fun b17=>?_)
     cases bb
     ·repeat refine aB ?_
      (refine aD rfl (fun _=>aK (pvs:=([]).zipIdx.map (fun p=>(p.2,p.1))) (cells:=zNX) rfl rfl) rfl rfl ?_)
      repeat refine aB ?_
      exact xO rfl rfl aA (by decide) aG aF
     obtain ⟨hre,hrok⟩:=hr rfl
     subst hre
     repeat refine aB ?_
     (refine fM (vs:=gP (jI q t.at s)) (cs:=recs qU us++tl) (cs':=recs qU (st us (i:Int) (iT q s t))++tl) rfl rfl rfl nU iN (.app (StAts.part (iT q s t) ⟨by omega,by omega⟩ (show 0+3≤10 by omega) (by rw [hui];rfl))) rfl rfl ⟨okF,?_⟩)
     repeat refine aB ?_
     refine iC (mS - (i+1)) (⟨i+1, .blk b (recs qU (st us (i:Int) (iT q s t))++tl) 68::M0,st us (i:Int) (iT q s t),by omega,rfl,by rw [dB];exact hul,fun j hj=>?_,fun j hj=>?_, .inr ⟨b,tl,rfl,rfl⟩,rfl,rfl,rfl⟩)
     ·rw [wJ (by omega) (by omega)]
      by_cases e:j=i
      ·subst e;rw [if_pos rfl,if_pos (by omega),hte]
      ·rw [if_neg e,hu j hj]
       by_cases e2:j < i
       ·rw [if_pos e2,if_pos (by omega)]
       ·rw [if_neg e2,if_neg (by omega)]
     ·by_cases e:j=i
      ·subst e;rw [hte];exact hrok
      ·exact hok j (by omega)
    obtain rfl:mS=i:=by omega
    have hus:us=x.S.map (iT q s):=aLZ (by rw [List.length_map];omega) (fun j hj=>by
     rw [hu j (by omega),if_pos (by omega),qW ⟨by omega,by omega⟩])
    refine aRF hR ?_
    clear hR hu hul
    subst hus
    refine pR 31 3 ?_
    repeat refine aB ?_
    rw [hmP]
    refine kS [4,5,6,10,118,119] rfl (fun k G M I=>∃(i:Nat) (pa:Option Addr) (pc:Nat) (us:List P3),i≤mP∧k=mP - i∧(us=(x.P.take i).map (fun p=>jI q p s)∧∀p∈x.P.take i,(jI q p s).Ok)∧G=[(120, .int .i64 (i:Int))]∧M= .blk b10 [.int .i64 x.d, .slice ra mS rc, .slice pa us.length pc, .slice qo x.O.length co] 26:: .blk b6 zNX 26:: .row pa us.length pc (recs gP us) 31 3::M0∧aI ra (recs qU (x.S.map (iT q s)))::aI qo (recs jU x.O)::aI (some ⟨b5,0,none⟩) (gP s)::aI (some ⟨b4,0,none⟩) (eQ q)::aI (some ⟨b3,0,none⟩) (nO x)::I0=I) (mP) (⟨0,none,0,[],by omega,rfl,⟨rfl,fun t ht=>absurd ht List.not_mem_nil⟩,rfl,rfl,rfl⟩) ?_
    rintro kk G M I ⟨i,pa,pc,us,hi,rfl,⟨hus,hfp⟩,rfl,rfl,rfl⟩
    have hul:us.length=i:=by rw [hus,List.length_map,List.length_take];omega
    by_cases hiP:i < mP
    ·have hst:=hN.P _ (bJ (ms:=x.P) (i:=(i:Int)) ⟨by omega,by omega⟩)
     have htk:x.P.take (i+1)=x.P.take i++[gt x.P (i:Int)]:=by rw [List.take_add_one,List.getElem?_eq_getElem (by omega),eU (by omega)];rfl
     obtain ⟨t,hte⟩:∃t,gt x.P (i:Int)=t:=⟨_,rfl⟩
     rw [hte] at hst htk
     have hT:=fun M0 I0=>aCT (X:=X) (w0:=w0) (M0:=M0) (I0:=I0) (q:=q) (p:=t) (s:=s) hqf hst hs
     repeat refine aB ?_
     rw [hte]
     refine bG (fun b20=>?_)
     repeat refine aB ?_
     (refine aU rfl (hT _ _) ?_;rintro _ _ _ ⟨rfl,rfl,r,bb,rfl,hr⟩;refine aL ?_)
     repeat refine aB ?_
     refine bG (fun b21=>?_)
     cases bb
     ·repeat refine aB ?_
      (refine aD rfl (fun _=>aK (pvs:=([]).zipIdx.map (fun p=>(p.2,p.1))) (cells:=zNX) rfl rfl) rfl rfl ?_)
      repeat refine aB ?_
      exact xO rfl rfl aA (by decide) aG aF
     obtain ⟨hre,hrok⟩:=hr rfl
     subst hre
     repeat refine aB ?_
     refine lL (cs:=recs gP [jI q t s]) ([p3v (jI q t s)]) rfl (fun b137=>?_)
     refine tyP (ys:=[jI q t s]) 5 rfl rfl rfl (fun a4 c4=>?_)
     repeat refine aB ?_
     refine iC (mP - (i+1)) (⟨i+1,a4,c4,us++[jI q t s],by omega,rfl,⟨by rw [hus,htk,List.map_append];rfl,fun t' ht'=>by
       rw [htk] at ht'
       rcases List.mem_append.1 ht' with h|h
       ·exact hfp t' h
       ·rw [List.mem_singleton.1 h];exact hrok⟩,rfl,rfl,rfl⟩)
    obtain rfl:mP=i:=by omega
    rw [List.take_of_length_le (by omega)] at hus hfp
    subst hus
    refine mQ (fun _ hw=>hw.freezeR (cs:=recs gP (x.P.map (fun p=>jI q p s))) (.there (.there .here))) ?_
    repeat refine aB ?_
    have hcp:(x.S.map (iT q s)).length=mS:=by rw [List.length_map];exact hmS
    refine dI (rs:=[.cell 6 26, .tmp 7]) (vs:=[nxv ⟨x.d,ra,x.S.map (iT q s),rc,pa,x.P.map (fun p=>jI q p s),pc,qo,x.O,co⟩, .int .i64 0]) (.inl rfl) rfl (.cellN (cs:=nO ⟨x.d,ra,x.S.map (iT q s),rc,pa,x.P.map (fun p=>jI q p s),pc,qo,x.O,co⟩) inferInstance rfl (by rw [show nO ⟨x.d,ra,x.S.map (iT q s),rc,pa,x.P.map (fun p=>jI q p s),pc,qo,x.O,co⟩=[.int .i64 x.d, .slice ra mS rc, .slice pa (x.P.map (fun p=>jI q p s)).length pc, .slice qo x.O.length co] by simp only [nO,hcp]];exact aA) rfl (.tmp rfl .nil)) rfl M0 (aI ra (recs qU (x.S.map (iT q s)))::aI pa (recs gP (x.P.map (fun p=>jI q p s)))::aI qo (recs jU x.O)::I0) aG aF ⟨rfl, .inr ⟨⟨hqn,hqf,him,fun t ht=>?_,fun p hp=>hfp p hp⟩,ra,rc,pa,pc,qo,co,hoc,rfl,rfl⟩⟩
    obtain ⟨j,hj,rfl⟩:=List.mem_iff_getElem.1 ht
    rw [←eU hj]
    exact ⟨hfs _ (bJ ⟨by omega,by omega⟩),hok j (by omega)⟩
  ·obtain ⟨z,hz⟩:∃z,lN q=z:=⟨_,rfl⟩
   rw [hz] at hq0 ⊢
   repeat refine aB ?_
   (refine aD rfl (fun _=>aK (pvs:=([]).zipIdx.map (fun p=>(p.2,p.1))) (cells:=zNX) rfl rfl) rfl rfl ?_)
   repeat refine aB ?_
   exact xO rfl rfl aA hq0 aG aF
 ·repeat refine aB ?_
  (refine aD rfl (fun _=>aK (pvs:=([]).zipIdx.map (fun p=>(p.2,p.1))) (cells:=zNX) rfl rfl) rfl rfl ?_)
  repeat refine aB ?_
  exact xO rfl rfl aA h0 aG aF
end
theorem aHU {Q11 Q12 Q13 Q21 Q22 Q23 Q31 Q32 Q33 N:Rat} (h11:Q11*Q11+Q21*Q21+Q31*Q31=N) (h22:Q12*Q12+Q22*Q22+Q32*Q32=N) (h33:Q13*Q13+Q23*Q23+Q33*Q33=N) (h12:Q11*Q12+Q21*Q22+Q31*Q32=0) (h13:Q11*Q13+Q21*Q23+Q31*Q33=0) (h23:Q12*Q13+Q22*Q23+Q32*Q33=0) (T1 T2 T3 d1 d2 d3:Rat):
 (Q11*T1+Q12*T2+Q13*T3)*(Q11*d1+Q12*d2+Q13*d3)+(Q21*T1+Q22*T2+Q23*T3)*(Q21*d1+Q22*d2+Q23*d3)+(Q31*T1+Q32*T2+Q33*T3)*(Q31*d1+Q32*d2+Q33*d3)=N*(T1*d1+T2*d2+T3*d3):=by
 grind
namespace Qn
def m11 (q:Qn):Rat:=(q.a:Rat)*q.a+(q.b:Rat)*q.b - (q.c:Rat)*q.c - (q.d:Rat)*q.d
def m12 (q:Qn):Rat:=2*((q.b:Rat)*q.c - (q.a:Rat)*q.d)
def m13 (q:Qn):Rat:=2*((q.b:Rat)*q.d+(q.a:Rat)*q.c)
def m21 (q:Qn):Rat:=2*((q.b:Rat)*q.c+(q.a:Rat)*q.d)
def m22 (q:Qn):Rat:=(q.a:Rat)*q.a - (q.b:Rat)*q.b+(q.c:Rat)*q.c - (q.d:Rat)*q.d
def m23 (q:Qn):Rat:=2*((q.c:Rat)*q.d - (q.a:Rat)*q.b)
def m31 (q:Qn):Rat:=2*((q.b:Rat)*q.d - (q.a:Rat)*q.c)
def m32 (q:Qn):Rat:=2*((q.c:Rat)*q.d+(q.a:Rat)*q.b)
def m33 (q:Qn):Rat:=(q.a:Rat)*q.a - (q.b:Rat)*q.b - (q.c:Rat)*q.c+(q.d:Rat)*q.d
def nR (q:Qn):Rat:=(q.a:Rat)*q.a+(q.b:Rat)*q.b+(q.c:Rat)*q.c+(q.d:Rat)*q.d
theorem nR_eq (q:Qn):(q.nrm:Rat)=q.nR:=by simp [nrm,nR]
theorem mo (q:Qn):(m11 q*m11 q+m21 q*m21 q+m31 q*m31 q=nR q*nR q)∧(m12 q*m12 q+m22 q*m22 q+m32 q*m32 q=nR q*nR q)∧(m13 q*m13 q+m23 q*m23 q+m33 q*m33 q=nR q*nR q)∧(m11 q*m12 q+m21 q*m22 q+m31 q*m32 q=0)∧(m11 q*m13 q+m21 q*m23 q+m31 q*m33 q=0)∧(m12 q*m13 q+m22 q*m23 q+m32 q*m33 q=0):=by
 unfold m11 m12 m13 m21 m22 m23 m31 m32 m33 nR
 refine ⟨?_,?_,?_,?_,?_,?_⟩ <;>grind
theorem mor (q:Qn):(m11 q*m11 q+m12 q*m12 q+m13 q*m13 q=nR q*nR q)∧(m21 q*m21 q+m22 q*m22 q+m23 q*m23 q=nR q*nR q)∧(m31 q*m31 q+m32 q*m32 q+m33 q*m33 q=nR q*nR q)∧(m11 q*m21 q+m12 q*m22 q+m13 q*m23 q=0)∧(m11 q*m31 q+m12 q*m32 q+m13 q*m33 q=0)∧(m21 q*m31 q+m22 q*m32 q+m23 q*m33 q=0):=by
 unfold m11 m12 m13 m21 m22 m23 m31 m32 m33 nR
 refine ⟨?_,?_,?_,?_,?_,?_⟩ <;>grind
theorem mm1 (p q:Qn):m11 (mul p q)=m11 p*m11 q+m12 p*m21 q+m13 p*m31 q∧m12 (mul p q)=m11 p*m12 q+m12 p*m22 q+m13 p*m32 q∧m13 (mul p q)=m11 p*m13 q+m12 p*m23 q+m13 p*m33 q:=by
 unfold m11 m12 m13 m21 m22 m23 m31 m32 m33 mul
 simp only [Rat.intCast_add,Rat.intCast_sub,Rat.intCast_mul]
 refine ⟨?_,?_,?_⟩ <;>grind
theorem mm2 (p q:Qn):m21 (mul p q)=m21 p*m11 q+m22 p*m21 q+m23 p*m31 q∧m22 (mul p q)=m21 p*m12 q+m22 p*m22 q+m23 p*m32 q∧m23 (mul p q)=m21 p*m13 q+m22 p*m23 q+m23 p*m33 q:=by
 unfold m11 m12 m13 m21 m22 m23 m31 m32 m33 mul
 simp only [Rat.intCast_add,Rat.intCast_sub,Rat.intCast_mul]
 refine ⟨?_,?_,?_⟩ <;>grind
theorem mm3 (p q:Qn):m31 (mul p q)=m31 p*m11 q+m32 p*m21 q+m33 p*m31 q∧m32 (mul p q)=m31 p*m12 q+m32 p*m22 q+m33 p*m32 q∧m33 (mul p q)=m31 p*m13 q+m32 p*m23 q+m33 p*m33 q:=by
 unfold m11 m12 m13 m21 m22 m23 m31 m32 m33 mul
 simp only [Rat.intCast_add,Rat.intCast_sub,Rat.intCast_mul]
 refine ⟨?_,?_,?_⟩ <;>grind
theorem ms (s:Int) (q:Qn):m11 (smul s q)=(s:Rat)*s*m11 q∧m12 (smul s q)=(s:Rat)*s*m12 q∧m13 (smul s q)=(s:Rat)*s*m13 q∧m21 (smul s q)=(s:Rat)*s*m21 q∧m22 (smul s q)=(s:Rat)*s*m22 q∧m23 (smul s q)=(s:Rat)*s*m23 q∧m31 (smul s q)=(s:Rat)*s*m31 q∧m32 (smul s q)=(s:Rat)*s*m32 q∧m33 (smul s q)=(s:Rat)*s*m33 q∧nR (smul s q)=(s:Rat)*s*nR q:=by
 unfold m11 m12 m13 m21 m22 m23 m31 m32 m33 nR smul
 simp only [Rat.intCast_add,Rat.intCast_sub,Rat.intCast_mul]
 refine ⟨?_,?_,?_,?_,?_,?_,?_,?_,?_,?_⟩ <;>grind
theorem det (q:Qn):m11 q*(m22 q*m33 q - m23 q*m32 q) - m12 q*(m21 q*m33 q - m23 q*m31 q)+m13 q*(m21 q*m32 q - m22 q*m31 q)=nR q*nR q*nR q:=by
 unfold m11 m12 m13 m21 m22 m23 m31 m32 m33 nR
 grind
theorem mc1 (q:Qn):(m22 q*m33 q - m23 q*m32 q=nR q*m11 q)∧(m23 q*m31 q - m21 q*m33 q=nR q*m12 q)∧(m21 q*m32 q - m22 q*m31 q=nR q*m13 q)∧(m32 q*m13 q - m33 q*m12 q=nR q*m21 q)∧(m33 q*m11 q - m31 q*m13 q=nR q*m22 q)∧(m31 q*m12 q - m32 q*m11 q=nR q*m23 q)∧(m12 q*m23 q - m13 q*m22 q=nR q*m31 q)∧(m13 q*m21 q - m11 q*m23 q=nR q*m32 q)∧(m11 q*m22 q - m12 q*m21 q=nR q*m33 q):=by
 unfold m11 m12 m13 m21 m22 m23 m31 m32 m33 nR
 refine ⟨?_,?_,?_,?_,?_,?_,?_,?_,?_⟩ <;>grind
theorem nR_nz {q:Qn} (h:q.nz):nR q≠0:=by
 rw [←nR_eq]
 intro e
 exact nrm_nz.1 h (by exact_mod_cast e)
theorem nR_mul (p q:Qn):nR (mul p q)=nR p*nR q:=by
 rw [←nR_eq,←nR_eq,←nR_eq,aNV,Rat.intCast_mul]
def app (q:Qn) (v:V3):V3:=⟨m11 q*v.x+m12 q*v.y+m13 q*v.z,m21 q*v.x+m22 q*v.y+m23 q*v.z,m31 q*v.x+m32 q*v.y+m33 q*v.z⟩
def rot (q:Qn) (v:V3):V3:=⟨m11 q / nR q*v.x+m12 q / nR q*v.y+m13 q / nR q*v.z,m21 q / nR q*v.x+m22 q / nR q*v.y+m23 q / nR q*v.z,m31 q / nR q*v.x+m32 q / nR q*v.y+m33 q / nR q*v.z⟩
end Qn
theorem V3.ext {a b:V3} (h1:a.x=b.x) (h2:a.y=b.y) (h3:a.z=b.z):a=b:=by
 cases a;cases b;simp only at*;subst h1;subst h2;subst h3;rfl
def V3.add (a b:V3):V3:=⟨a.x+b.x,a.y+b.y,a.z+b.z⟩
def V3.scl (s:Rat) (a:V3):V3:=⟨s*a.x,s*a.y,s*a.z⟩
def P3.v (p:P3):V3:=⟨(p.x:Rat),(p.y:Rat),(p.z:Rat)⟩
structure Sim where
 s:Rat
 q:Qn
 t:V3
def Sim.mv (s:Sim) (v:V3):V3:=((s.q.rot v).scl s.s).add s.t
theorem aCJ {q:Qn} (h:q.nz) (v:V3):(q.rot v).scl (Qn.nR q)=q.app v:=by
 have hn:=Qn.nR_nz h
 apply V3.ext <;>simp only [V3.scl,Qn.rot,Qn.app] <;>grind
theorem aXZ (p q:Qn) (v:V3):(Qn.mul p q).app v=p.app (q.app v):=by
 obtain ⟨h1,h2,h3⟩:=Qn.mm1 p q
 obtain ⟨h4,h5,h6⟩:=Qn.mm2 p q
 obtain ⟨h7,h8,h9⟩:=Qn.mm3 p q
 apply V3.ext <;>simp only [Qn.app,h1,h2,h3,h4,h5,h6,h7,h8,h9] <;>grind
theorem aWQ (q:Qn) (u v:V3):q.app (u.add v)=(q.app u).add (q.app v):=by
 apply V3.ext <;>simp only [Qn.app,V3.add] <;>grind
theorem aHZ (q:Qn) (u v:V3):q.app (u.sub v)=(q.app u).sub (q.app v):=by
 apply V3.ext <;>simp only [Qn.app,V3.sub] <;>grind
theorem aRR {s:Int} {q:Qn} (hs:s≠0) (h:q.nz) (v:V3):(Qn.smul s q).rot v=q.rot v:=by
 obtain ⟨h1,h2,h3,h4,h5,h6,h7,h8,h9,h0⟩:=Qn.ms s q
 have hn:=Qn.nR_nz h
 have hs':(s:Rat)≠0:=by exact_mod_cast hs
 apply V3.ext <;>simp only [Qn.rot,h1,h2,h3,h4,h5,h6,h7,h8,h9,h0] <;>grind
theorem aNW {q:Qn} (h:q.nz) (v:V3):(Qn.prm q).rot v=q.rot v:=by
 have:=aRR (Qn.gs_nz h) (Qn.prm_nz h) v
 rw [Qn.gs_prm] at this
 exact this.symm
theorem aGK (q:Qn) (p s:P3):(jI q p s).v=(q.app p.v).add s.v:=by
 apply V3.ext
 ·show ((mvS q p s 0 3:Int):Rat)=_
  have:mvS q p s 0 3=s.x+(q.a*q.a+q.b*q.b - q.c*q.c - q.d*q.d)*p.x+2*(q.b*q.c - q.a*q.d)*p.y+2*(q.b*q.d+q.a*q.c)*p.z:=rfl
  rw [this]
  simp only [Rat.intCast_add,Rat.intCast_sub,Rat.intCast_mul,V3.add,Qn.app,P3.v,Qn.m11,Qn.m12,Qn.m13]
  grind
 ·show ((mvS q p s 1 3:Int):Rat)=_
  have:mvS q p s 1 3=s.y+2*(q.b*q.c+q.a*q.d)*p.x+(q.a*q.a - q.b*q.b+q.c*q.c - q.d*q.d)*p.y+2*(q.c*q.d - q.a*q.b)*p.z:=rfl
  rw [this]
  simp only [Rat.intCast_add,Rat.intCast_sub,Rat.intCast_mul,V3.add,Qn.app,P3.v,Qn.m21,Qn.m22,Qn.m23]
  grind
 ·show ((mvS q p s 2 3:Int):Rat)=_
  have:mvS q p s 2 3=s.z+2*(q.b*q.d - q.a*q.c)*p.x+2*(q.c*q.d+q.a*q.b)*p.y+(q.a*q.a - q.b*q.b - q.c*q.c+q.d*q.d)*p.z:=rfl
  rw [this]
  simp only [Rat.intCast_add,Rat.intCast_sub,Rat.intCast_mul,V3.add,Qn.app,P3.v,Qn.m31,Qn.m32,Qn.m33]
  grind
theorem aLV {q:Qn} (h:q.nz) (p s:P3):(Sim.mk (Qn.nR q) q s.v).mv p.v=(jI q p s).v:=by
 unfold Sim.mv
 rw [aCJ h,aGK]
theorem aLK {q r:Qn} (hq:q.nz) (hr:r.nz) (p s t:P3):(Sim.mk (Qn.nR r*Qn.nR q) (Qn.prm (Qn.mul r q)) ((Sim.mk (Qn.nR r) r t.v).mv s.v)).mv p.v=(jI r (jI q p s) t).v:=by
 unfold Sim.mv
 rw [aNW (Qn.nz_mul hr hq),←Qn.nR_mul,aCJ (Qn.nz_mul hr hq),aCJ hr,aGK,aGK,aXZ,aWQ]
 apply V3.ext <;>simp only [V3.add] <;>grind
/- directions -/
theorem aZI (q t:Qn) (v:V3):drX (Qn.mul q t) (q.app v).x (q.app v).y (q.app v).z=Qn.nR q*Qn.nR q*drX t v.x v.y v.z∧drY (Qn.mul q t) (q.app v).x (q.app v).y (q.app v).z=Qn.nR q*Qn.nR q*drY t v.x v.y v.z∧drZ (Qn.mul q t) (q.app v).x (q.app v).y (q.app v).z=Qn.nR q*Qn.nR q*drZ t v.x v.y v.z:=by
 have eX:∀(r:Qn) (x y z:Rat),drX r x y z=Qn.m11 r*x+Qn.m21 r*y+Qn.m31 r*z:=fun r x y z=>rfl
 have eY:∀(r:Qn) (x y z:Rat),drY r x y z=Qn.m12 r*x+Qn.m22 r*y+Qn.m32 r*z:=fun r x y z=>rfl
 have eZ:∀(r:Qn) (x y z:Rat),drZ r x y z=Qn.m13 r*x+Qn.m23 r*y+Qn.m33 r*z:=fun r x y z=>rfl
 obtain ⟨h1,h2,h3⟩:=Qn.mm1 q t
 obtain ⟨h4,h5,h6⟩:=Qn.mm2 q t
 obtain ⟨h7,h8,h9⟩:=Qn.mm3 q t
 obtain ⟨o1,o2,o3,o4,o5,o6⟩:=Qn.mo q
 refine ⟨?_,?_,?_⟩
 ·rw [eX,eX,h1,h4,h7];exact aHU o1 o2 o3 o4 o5 o6 _ _ _ _ _ _
 ·rw [eY,eY,h2,h5,h8];exact aHU o1 o2 o3 o4 o5 o6 _ _ _ _ _ _
 ·rw [eZ,eZ,h3,h6,h9];exact aHU o1 o2 o3 o4 o5 o6 _ _ _ _ _ _
theorem aVR (s:Int) (q:Qn) (x y z:Rat):drX (Qn.smul s q) x y z=(s:Rat)*s*drX q x y z∧drY (Qn.smul s q) x y z=(s:Rat)*s*drY q x y z∧drZ (Qn.smul s q) x y z=(s:Rat)*s*drZ q x y z:=by
 have eX:∀(r:Qn) (x y z:Rat),drX r x y z=Qn.m11 r*x+Qn.m21 r*y+Qn.m31 r*z:=fun r x y z=>rfl
 have eY:∀(r:Qn) (x y z:Rat),drY r x y z=Qn.m12 r*x+Qn.m22 r*y+Qn.m32 r*z:=fun r x y z=>rfl
 have eZ:∀(r:Qn) (x y z:Rat),drZ r x y z=Qn.m13 r*x+Qn.m23 r*y+Qn.m33 r*z:=fun r x y z=>rfl
 obtain ⟨h1,h2,h3,h4,h5,h6,h7,h8,h9,_⟩:=Qn.ms s q
 refine ⟨?_,?_,?_⟩
 ·rw [eX,eX,h1,h4,h7];grind
 ·rw [eY,eY,h2,h5,h8];grind
 ·rw [eZ,eZ,h3,h6,h9];grind
theorem dr_mv {q t:Qn} (hq:q.nz) (ht:t.nz):∃k:Rat,0 < k∧∀v:V3,drX (Qn.prm (Qn.mul q t)) (q.app v).x (q.app v).y (q.app v).z=k*drX t v.x v.y v.z∧drY (Qn.prm (Qn.mul q t)) (q.app v).x (q.app v).y (q.app v).z=k*drY t v.x v.y v.z∧drZ (Qn.prm (Qn.mul q t)) (q.app v).x (q.app v).y (q.app v).z=k*drZ t v.x v.y v.z:=by
 have hg:((Qn.gs (Qn.mul q t):Int):Rat)≠0:=by
  have:=Qn.gs_nz (Qn.nz_mul hq ht)
  exact_mod_cast this
 have hn:=Qn.nR_nz hq
 obtain ⟨g,hge⟩:∃g:Rat,((Qn.gs (Qn.mul q t):Int):Rat)=g:=⟨_,rfl⟩
 obtain ⟨n,hne⟩:∃n:Rat,Qn.nR q=n:=⟨_,rfl⟩
 have h1:=fun x y z=>aVR (Qn.gs (Qn.mul q t)) (Qn.prm (Qn.mul q t)) x y z
 have h2:=aZI q t
 simp only [Qn.gs_prm] at h1
 rw [hge] at hg h1
 rw [hne] at hn h2
 refine ⟨(n / g)*(n / g),?_,fun v=>?_⟩
 ·have h0:n / g≠0:=by
   intro e
   have:n=(n / g)*g:=by grind
   rw [e,Rat.zero_mul] at this
   exact hn this
  by_cases h:0 < n / g
  ·exact Rat.mul_pos h h
  ·have h':=Rat.lt_of_le_of_ne (Rat.not_lt.1 h) h0
   have h2':0 < -(n / g):=by rw [Rat.lt_iff_sub_pos] at h' ⊢;grind
   have:=Rat.mul_pos h2' h2'
   rwa [show -(n / g)* -(n / g)=n / g*(n / g) by grind] at this
 ·obtain ⟨a1,a2,a3⟩:=h1 (q.app v).x (q.app v).y (q.app v).z
  obtain ⟨b1,b2,b3⟩:=h2 v
  rw [a1] at b1
  rw [a2] at b2
  rw [a3] at b3
  refine ⟨?_,?_,?_⟩ <;>grind
end Go.Proofs.YtgpkjcmipiodcaaGreat
namespace Go.Proofs.YtgpkjcmipiodcaaGreat
open Go Go.Fx
/- ---------- IndexFunc, ContainsFunc of []fiducial/api.Rat ---------- -/
section
variable {X:List Nat} {w0:World} {M0:List Ent} {I0:List aV}
theorem aUW {q:Option Addr} {a:List RE} {c:Nat} {g:FuncId} [FnOk Tryz.prog g] {fs cs:Array Value} (pr:RE→Prop) [DecidablePred pr] (hn:(a.length:Int)≤9223372036854775807) (ha:aI q (recs eR a)∈I0)
  (hg:∀i:Nat,i < a.length→CD Tryz.prog g (fs.toList++[rv (gt a i)]++cs.toList) X w0 M0 I0 (fun v M I=>M0=M∧I0=I∧v= .bool (B (pr (gt a i))))):
  CD Tryz.prog 136 [.slice q a.length c, .func (.func g) fs cs] X w0 M0 I0 (fun v M I=>M0=M∧I0=I∧∃r:Int,v= .int .i64 r∧((∃i:Nat,i < a.length∧r=i∧pr (gt a i)∧∀j:Nat,j < i→¬pr (gt a j))∨(r= -1∧∀j:Nat,j < a.length→¬pr (gt a j)))):=by
 refine aP Tryz.func136 rfl Tryz.ntmps136 rfl ?_
 repeat refine aB ?_
 refine kS [0,1,7] rfl (fun k G M I=>∃i:Nat,i≤a.length∧k=a.length - i∧(∀j:Nat,j < i→¬pr (gt a j))∧G=[(8, .int .i64 i)]∧M=M0∧I=I0) (a.length) (⟨0,by omega,rfl,fun j hj=>by omega,rfl,rfl,rfl⟩) ?_
 rintro k G M I ⟨i,hi,rfl,hs,rfl,rfl,rfl⟩
 repeat' (first|refine aB ?_|refine aQ rfl (fun h=>?_) (fun h=>?_)|refine aR rfl rfl (fun h=>?_) (fun h=>?_)|fail)
 ·have hlt:i < a.length:=by omega
  (refine bI rfl rfl (hg i hlt) rfl rfl rfl ?_;rintro _ _ _ ⟨rfl,rfl,rfl⟩;refine aL ?_)
  repeat' (first|refine aB ?_|refine aQ rfl (fun h=>?_) (fun h=>?_)|refine aR rfl rfl (fun h=>?_) (fun h=>?_)|fail)
  ·refine aH (by first|exact .inl rfl|exact .inr rfl) rfl rfl _ _ aG aF (⟨rfl,rfl,_,rfl, .inl ⟨i,hlt,rfl,by assumption,hs⟩⟩)
  ·refine iC (a.length - (i+1)) (⟨i+1,by omega,rfl,fun j hj=>?_,rfl,rfl,rfl⟩)
   by_cases e:j=i
   ·subst e;assumption
   ·exact hs j (by omega)
 ·refine aH (by first|exact .inl rfl|exact .inr rfl) rfl rfl _ _ aG aF (⟨rfl,rfl,_,rfl, .inr ⟨rfl,fun j hj=>hs j (by omega)⟩⟩)
theorem aUX {q:Option Addr} {a:List RE} {c:Nat} {g:FuncId} [FnOk Tryz.prog g] {fs cs:Array Value} (pr:RE→Prop) [DecidablePred pr] (hn:(a.length:Int)≤9223372036854775807) (ha:aI q (recs eR a)∈I0)
  (hg:∀i:Nat,i < a.length→CD Tryz.prog g (fs.toList++[rv (gt a i)]++cs.toList) X w0 M0 I0 (fun v M I=>M0=M∧I0=I∧v= .bool (B (pr (gt a i))))):
  CD Tryz.prog 80 [.slice q a.length c, .func (.func g) fs cs] X w0 M0 I0 (fun v M I=>M0=M∧I0=I∧v= .bool (B (∃x∈a,pr x))):=by
 refine aP Tryz.func80 rfl Tryz.ntmps80 rfl ?_
 repeat refine aB ?_
 (refine aU rfl (aUW pr hn ha hg) ?_;rintro _ _ _ ⟨rfl,rfl,r,rfl,h⟩;refine aL ?_)
 repeat refine aB ?_
 refine gD rfl rfl (⟨rfl,rfl,congrArg Value.bool (gU ?_)⟩)
 rcases h with ⟨i,hi,rfl,hp,_⟩|⟨rfl,h⟩
 ·exact ⟨fun _=>⟨gt a i,by rw [eU hi];exact List.getElem_mem hi,hp⟩,fun _=>by omega⟩
 ·refine ⟨fun h=>by omega,?_⟩
  rintro ⟨x,hx,hp⟩
  obtain ⟨j,hj,rfl⟩:=List.mem_iff_getElem.1 hx
  exact absurd (by rw [eU hj];exact hp) (h j hj)
end
theorem NImg.pre {x:NX} (h:NImg x):NPre x:=⟨h.d,h.S,h.P,h.lS,h.lP,h.lO⟩
structure ZSt (x:NX) (r:RL):Prop where
 l:r.es.length=6*x.S.length+3*x.P.length
 z:∀e∈r.es,e.q=0
def RsQ (x:NX) (M0:List Ent) (I0:List aV) (v:Value) (M:List Ent) (I:List aV):Prop:=
 M0=M∧((frnt x∧∃r:RL,v= .tuple #[lv r, .int .i64 0]∧r.q=vM x x.O∧I=lK r 100000::I0)∨(¬frnt x∧v= .tuple #[.slice none 0 0, .int .i64 20]∧I=I0))
section
variable {X:List Nat} {w0:World} {M0 M1:List Ent} {I0:List aV}
theorem aYK {e:RE} {k:Nat} (hk:k≤400000000000) (he:Hv I0 (cK e k)):CD Tryz.prog 81 [rv e] X w0 M0 I0 (fun v M I=>M0=M∧I0=I∧v= .bool (B False)):=by
 refine bO (φ:=cK e k) he ?_
 refine aZ Tryz.func81 rfl Tryz.ntmps81 rfl ?_
 refine fE ?_
 refine fG rfl (fun b1=>?_)
 repeat refine aB ?_
 refine dP rfl (wX (e:=e) (k:=k) (by omega) (Hv.mem aA)) ?_
 repeat refine aB ?_
 refine aH (by first|exact .inl rfl|exact .inr rfl) rfl rfl _ _ aG aF (⟨rfl,rfl,by rw [bF (p:=False) id];rfl⟩)
theorem aPW {x:NX} {r:RL} (hN:NImg x) (hr:ZSt x r) (hx:lK r 1000∈I0) (hS:aI x.pS (recs qU x.S)∈I0) (hP:aI x.pP (recs gP x.P)∈I0) (hO:aI x.pO (recs jU x.O)∈I0):
  CD Tryz.prog 36 [nxv x,lv r] X w0 M0 I0 (fun v M I=>M0=M∧I0=I∧v= .int .i64 0):=by
 have hC:=fun M0 I0 h1 h2 h3=>aEV (X:=X) (w0:=w0) (M0:=M0) (I0:=I0) (x:=x) hN.pre h1 h2 h3
 have hl:=hr.l
 have hul:=aIE x.S.length x.P.length
 have lS:=hN.lS
 have lP:=hN.lP
 refine bO (φ:=aI r.p (recs eR r.es)) (Hv.lsl hx) ?_
 refine aP Tryz.func36 rfl Tryz.ntmps36 rfl ?_
 refine fE ?_
 refine fG rfl (fun b2=>?_)
 refine aC (cs:=nO x) .here ?_
 repeat refine aB ?_
 (refine aU rfl (hC _ _ aA aA aA) ?_;rintro _ _ _ ⟨rfl,rfl,e,rfl,he⟩;refine aL ?_)
 rw [he hN]
 repeat refine aB ?_
 refine dP rfl (aUX (fun _=>False) (by omega) aA (fun i hi=>aYK (k:=1000) (by decide) (Hv.lel aA ⟨by omega,by omega⟩))) ?_
 rw [bF (p:=∃x∈r.es,False) (fun ⟨_,_,h⟩=>h)]
 repeat refine aB ?_
 (refine aU rfl (aSO hN aA) ?_;rintro _ _ _ ⟨rfl,a,c,rfl,rfl⟩;refine aL ?_)
 repeat refine aB ?_
 refine gD rfl rfl (⟨rfl,rfl,rfl⟩)
theorem xY {x:NX} {r:RL} (hN:NImg x) (hr:ZSt x r) (hx:lK r 1000∈I0) (hS:aI x.pS (recs qU x.S)∈I0) (hP:aI x.pP (recs gP x.P)∈I0) (hO:aI x.pO (recs jU x.O)∈I0):
  CD Tryz.prog 14 [nxv x,lv r] X w0 M0 I0 (RsQ x M0 I0):=by
 refine aP Tryz.func14 rfl Tryz.ntmps14 rfl ?_
 refine fE ?_
 refine fG rfl (fun b2=>?_)
 refine aC (cs:=nO x) .here ?_
 repeat refine aB ?_
 refine dP rfl (aPW hN hr aA aA aA aA) ?_
 repeat refine aB ?_
 refine dP rfl (aPI hN hr.l hr.z aA aA aA aA) ?_
 by_cases hf:frnt x
 ·have h0:∀o∈x.O,sD x o≠0:=fun o ho h=>hf ⟨o,ho,by rw [h];exact Rat.le_refl⟩
  rw [cB hf]
  repeat refine aB ?_
  (refine aU rfl (aVG hN h0 hr.l hr.z aA aA aA aA) ?_;rintro _ _ _ ⟨rfl,r2,rfl,hr2,rfl⟩;refine aL ?_)
  repeat refine aB ?_
  refine tyS [4,5] rfl rfl (⟨rfl, .inl ⟨hf,r2,rfl,hr2,rfl⟩⟩)
 ·rw [bF hf]
  repeat refine aB ?_
  refine tyS [4,5] rfl rfl (⟨rfl, .inr ⟨hf,rfl,rfl⟩⟩)
end
end Go.Proofs.YtgpkjcmipiodcaaGreat
namespace Go.Proofs.YtgpkjcmipiodcaaGreat
open Go Go.Fx
section
variable {X:List Nat} {w0:World} {M0 M1:List Ent} {I0:List aV}
theorem aQN {x:NX} {w i a:Int} (him:∀o∈x.O,o.k=0) (lO:x.O.length≤1024) (hO:aI x.pO (recs jU x.O)∈I0):
  CD Tryz.prog 35 [nxv x, .int .i64 w, .int .i64 i, .int .i64 a] X w0 M0 I0 (fun v M I=>M0=M∧I0=I∧v= .bool false):=by
 obtain ⟨mO,hmO⟩:∃m,x.O.length=m:=⟨_,rfl⟩
 refine qN Tryz.func35 rfl Tryz.ntmps35 rfl ?_
 refine fE ?_
 refine fG rfl (fun b4=>?_)
 refine aC (cs:=nO x) .here ?_
 repeat refine aB ?_
 refine kS [1,2,3,4] rfl (fun k G M I=>∃j:Nat,j≤mO∧k=mO - j∧G=[(9, .int .i64 (j:Int))]∧M0=M∧aI (some ⟨b4,0,none⟩) (nO x)::I0=I) (mO) (⟨0,by omega,rfl,rfl,rfl,rfl⟩) ?_
 rintro kk G M I ⟨j,hj,rfl,rfl,rfl,rfl⟩
 by_cases hjm:j < mO
 ·have hom:=him _ (bJ (ms:=x.O) (i:=(j:Int)) ⟨by omega,by omega⟩)
  obtain ⟨o,hoe⟩:∃s,gt x.O (j:Int)=s:=⟨_,rfl⟩
  rw [hoe] at hom
  repeat refine aB ?_
  rw [hmO]
  repeat refine aB ?_
  refine bG (fun b10=>?_)
  rw [hoe]
  repeat refine aB ?_
  refine iC (mO - (j+1)) (⟨j+1,by omega,rfl,rfl,rfl,rfl⟩)
 obtain rfl:mO=j:=by omega
 repeat refine aB ?_
 rw [hmO]
 repeat refine aB ?_
 refine gD rfl rfl (⟨rfl,rfl,rfl⟩)
theorem aVQ {x:NX} (hd:x.d=3) (him:∀o∈x.O,o.k=0) (lS:x.S.length≤64) (lP:x.P.length≤256) (lO:x.O.length≤1024) (hO:aI x.pO (recs jU x.O)∈I0):
  CD Tryz.prog 13 [nxv x] X w0 M0 I0 (fun v M I=>M0=M∧I0=I∧∃(p:Option Addr) (c:Nat),v= .slice p (6*x.S.length+3*x.P.length) c):=by
 have hF:=fun (w i a:Int) M0 I0 h=>aQN (X:=X) (w0:=w0) (M0:=M0) (I0:=I0) (x:=x) (w:=w) (i:=i) (a:=a) him lO h
 have hA:=fun (w:Int) M0 I0=>aIG (X:=X) (w0:=w0) (M0:=M0) (I0:=I0) (d:=x.d) (w:=w)
 obtain ⟨mS,hmS⟩:∃m,x.S.length=m:=⟨_,rfl⟩
 obtain ⟨mP,hmP⟩:∃m,x.P.length=m:=⟨_,rfl⟩
 refine aZ Tryz.func13 rfl Tryz.ntmps13 rfl ?_
 refine fE ?_
 refine fG rfl (fun b1=>?_)
 refine aC (cs:=nO x) .here ?_
 repeat refine aB ?_
 refine lL (cs:=[]) ([]) rfl (fun b9=>?_)
 refine jC (mm:=0) 3 iN rfl (by omega) ?_
 repeat refine aB ?_
 rw [hmS,hmP]
 refine eO [1] rfl (fun k G M I=>∃(w:Nat) (p:Option Addr) (c:Nat) (us:List P3),w≤2∧k=2 - w∧us.length=(if w=0 then 0 else if w=1 then 6*mS else 6*mS+3*mP)∧G=[(3, .slice p us.length c),(4, .int .i64 (w:Int))]∧M= .row p us.length c (recs gP us) 91 3::M0∧aI (some ⟨b1,0,none⟩) (nO x)::I0=I) (2) _ _ _ dS aG aF (⟨0,_,_,[],by omega,rfl,rfl,rfl,rfl,rfl⟩) ?_
 rintro kk G M I ⟨w,p,c,us,hw,rfl,hul,rfl,rfl,rfl⟩
 by_cases hw0:w=0
 ·subst hw0
  rw [if_pos rfl] at hul
  repeat refine aB ?_
  rw [hmS]
  repeat refine aB ?_
  (refine aU rfl (hA 0 _ _) ?_;rintro _ _ _ ⟨rfl,pa,ca,rfl,rfl⟩;refine aL ?_)
  rw [show xS x.d 0=[0,1,2,3,4,5] by unfold xS;rw [hd];rfl]
  obtain ⟨ax,hax⟩:∃ax:List Int,[0,1,2,3,4,5]=ax:=⟨_,rfl⟩
  have hal:ax.length=6:=by rw [←hax];rfl
  rw [hax,hal]
  repeat refine aB ?_
  refine kS [1,4,5,6] rfl (fun k G M I=>∃(i:Nat) (p:Option Addr) (c:Nat) (us:List P3),i≤mS∧k=mS - i∧us.length=0+6*i∧G=[(3, .slice p us.length c),(7, .int .i64 (i:Int))]∧M= .row p us.length c (recs gP us) 91 3::M0∧aI pa (recs (eI .i64) ax)::aI (some ⟨b1,0,none⟩) (nO x)::I0=I) (mS) (⟨0,p,c,us,by omega,rfl,by omega,rfl,rfl,rfl⟩) ?_
  clear hul us p c
  rintro kk G M I ⟨i,p,c,us,hi,rfl,hul,rfl,rfl,rfl⟩
  by_cases him2:i < mS
  ·repeat refine aB ?_
   refine kS [1,4,5,6,7] rfl (fun k G M I=>∃(t:Nat) (p:Option Addr) (c:Nat) (us:List P3),t≤6∧k=6 - t∧us.length=0+6*i+t∧G=[(3, .slice p us.length c),(8, .int .i64 (t:Int))]∧M= .row p us.length c (recs gP us) 91 3::M0∧aI pa (recs (eI .i64) ax)::aI (some ⟨b1,0,none⟩) (nO x)::I0=I) (6) (⟨0,p,c,us,by omega,rfl,by omega,rfl,rfl,rfl⟩) ?_
   clear hul us p c
   rintro kk G M I ⟨t,p,c,us,ht,rfl,hul,rfl,rfl,rfl⟩
   by_cases htl:t < 6
   ·repeat refine aB ?_
    (repeat refine aJ ?_);refine aO 1 [0,1,2,3,4,5,6,7,8] [0,0,0,1,1,1,0,0,0] mixed (by kernel_rfl) ?_
    repeat refine aB ?_
    refine dP rfl (hF _ _ _ _ _ aA) ?_
    repeat refine aB ?_
    (refine aD rfl (fun _=>bH (vals:=[.int .i64 0, .int .i64 (i:Int), .int .i64 (gt ax (t:Int))]) (cells:=[.int .i64 0, .int .i64 (i:Int), .int .i64 (gt ax (t:Int))]) rfl ?hpl rfl ?hz) rfl rfl ?_;(case hpl=>exact (by intro v hv;repeat (first|exact absurd hv (List.not_mem_nil)|(rcases List.mem_cons.1 hv with rfl|hv; · rfl))));(case hz=>rfl))
    repeat refine aB ?_
    refine lL (cs:=recs gP [⟨0,i,gt ax (t:Int)⟩]) ([p3v ⟨0,i,gt ax (t:Int)⟩]) rfl (fun b54=>?_)
    refine tyP (ys:=[(⟨0,i,gt ax (t:Int)⟩:P3)]) 1 rfl rfl rfl (fun a4 c4=>?_)
    repeat refine aB ?_
    refine iC (6 - (t+1)) (⟨t+1,a4,c4,us++[⟨0,i,gt ax (t:Int)⟩],by omega,rfl,by rw [List.length_append];simp;omega,rfl,rfl,rfl⟩)
   obtain rfl:t=6:=by omega
   repeat refine aB ?_
   refine iC (mS - (i+1)) (⟨i+1,p,c,us,by omega,rfl,by omega,rfl,rfl,rfl⟩)
  obtain rfl:mS=i:=by omega
  repeat refine aB ?_
  refine iC (2 - (0+1)) (⟨0+1,p,c,us,by omega,rfl,by rw [hul];simp [Nat.zero_add],rfl,rfl,rfl⟩)
 by_cases hw1:w=1
 ·subst hw1
  rw [if_neg hw0,if_pos rfl] at hul
  repeat refine aB ?_
  rw [hmP]
  repeat refine aB ?_
  (refine aU rfl (hA 1 _ _) ?_;rintro _ _ _ ⟨rfl,pa,ca,rfl,rfl⟩;refine aL ?_)
  rw [show xS x.d 1=[0,1,2] by unfold xS;rw [hd];rfl]
  obtain ⟨ax,hax⟩:∃ax:List Int,[0,1,2]=ax:=⟨_,rfl⟩
  have hal:ax.length=3:=by rw [←hax];rfl
  rw [hax,hal]
  repeat refine aB ?_
  refine kS [1,4,5,6] rfl (fun k G M I=>∃(i:Nat) (p:Option Addr) (c:Nat) (us:List P3),i≤mP∧k=mP - i∧us.length=6*mS+3*i∧G=[(3, .slice p us.length c),(7, .int .i64 (i:Int))]∧M= .row p us.length c (recs gP us) 91 3::M0∧aI pa (recs (eI .i64) ax)::aI (some ⟨b1,0,none⟩) (nO x)::I0=I) (mP) (⟨0,p,c,us,by omega,rfl,by omega,rfl,rfl,rfl⟩) ?_
  clear hul us p c
  rintro kk G M I ⟨i,p,c,us,hi,rfl,hul,rfl,rfl,rfl⟩
  by_cases him2:i < mP
  ·repeat refine aB ?_
   refine kS [1,4,5,6,7] rfl (fun k G M I=>∃(t:Nat) (p:Option Addr) (c:Nat) (us:List P3),t≤3∧k=3 - t∧us.length=6*mS+3*i+t∧G=[(3, .slice p us.length c),(8, .int .i64 (t:Int))]∧M= .row p us.length c (recs gP us) 91 3::M0∧aI pa (recs (eI .i64) ax)::aI (some ⟨b1,0,none⟩) (nO x)::I0=I) (3) (⟨0,p,c,us,by omega,rfl,by omega,rfl,rfl,rfl⟩) ?_
   clear hul us p c
   rintro kk G M I ⟨t,p,c,us,ht,rfl,hul,rfl,rfl,rfl⟩
   by_cases htl:t < 3
   ·repeat refine aB ?_
    (repeat refine aJ ?_);refine aO 1 [0,1,2,3,4,5,6,7,8] [0,0,0,1,1,1,0,0,0] mixed (by kernel_rfl) ?_
    repeat refine aB ?_
    refine dP rfl (hF _ _ _ _ _ aA) ?_
    repeat refine aB ?_
    (refine aD rfl (fun _=>bH (vals:=[.int .i64 1, .int .i64 (i:Int), .int .i64 (gt ax (t:Int))]) (cells:=[.int .i64 1, .int .i64 (i:Int), .int .i64 (gt ax (t:Int))]) rfl ?hpl rfl ?hz) rfl rfl ?_;(case hpl=>exact (by intro v hv;repeat (first|exact absurd hv (List.not_mem_nil)|(rcases List.mem_cons.1 hv with rfl|hv; · rfl))));(case hz=>rfl))
    repeat refine aB ?_
    refine lL (cs:=recs gP [⟨1,i,gt ax (t:Int)⟩]) ([p3v ⟨1,i,gt ax (t:Int)⟩]) rfl (fun b54=>?_)
    refine tyP (ys:=[(⟨1,i,gt ax (t:Int)⟩:P3)]) 1 rfl rfl rfl (fun a4 c4=>?_)
    repeat refine aB ?_
    refine iC (3 - (t+1)) (⟨t+1,a4,c4,us++[⟨1,i,gt ax (t:Int)⟩],by omega,rfl,by rw [List.length_append];simp;omega,rfl,rfl,rfl⟩)
   obtain rfl:t=3:=by omega
   repeat refine aB ?_
   refine iC (mP - (i+1)) (⟨i+1,p,c,us,by omega,rfl,by omega,rfl,rfl,rfl⟩)
  obtain rfl:mP=i:=by omega
  repeat refine aB ?_
  refine iC (2 - (1+1)) (⟨1+1,p,c,us,by omega,rfl,by rw [hul];simp [hmS],rfl,rfl,rfl⟩)
 obtain rfl:w=2:=by omega
 rw [if_neg hw0,if_neg hw1] at hul
 rw [hul]
 repeat refine aB ?_
 refine gD rfl rfl (⟨rfl,rfl,p,c,rfl⟩)
end
end Go.Proofs.YtgpkjcmipiodcaaGreat
