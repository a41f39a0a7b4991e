/- consensus.Best, for any way to find the map of a sample. -/
import Derived.Test.YtmmmfphealhapaaGreatZsbd
import Derived.Test.YtmmmfphealhapaaGreatZsaq
import Derived.Test.YtmmmfphealhapaaGreatZsao
import Derived.Test.YtmmmfphealhapaaGreatZsav
import Derived.Test.YtmmmfphealhapaaGreatZsas
import Derived.Test.YtmmmfphealhapaaGreatZsau
import Derived.Test.YtmmmfphealhapaaGreatZsba
set_option linter.unusedSimpArgs false
set_option linter.unusedVariables false
set_option maxRecDepth 100000
set_option maxHeartbeats 4000000
namespace Go.Proofs.YtmmmfphealhapaaGreat
open Go Go.Fx
structure BF where
 kd:Int
 ps:Option Addr
 cs:Nat
 smp:List Int
 pi:Option Addr
 ci:Nat
 inl:List Int
 m:MX
abbrev eBF (f:BF):List Value:=[.int .i64 f.kd, .slice f.ps f.smp.length f.cs, .slice f.pi f.inl.length f.ci, .slice f.m.p f.m.rows.length f.m.c]
abbrev enB (b:Nat) (f:BF):Ent:= .blk b (eBF f) 36
abbrev zBF:BF:=⟨0,none,0,[],none,0,[],⟨none,0,[]⟩⟩
abbrev zF4:List Value:=[.int .i64 0, .slice none 0 0, .slice none 0 0, .slice none 0 0]
structure IsBF (f:BF) (X:List Nat) (w:World):Prop where
 s:SlI f.ps (recs eZ f.smp) X w
 i:SlI f.pi (recs eZ f.inl) X w
 m:IsX f.m kX X w
instance (f:BF):Fx.Good (IsBF f):=⟨fun X Y w w' h he hY=>⟨Fx.Good.go (φ:=SlI _ _) X Y w w' h.s he hY,Fx.Good.go (φ:=SlI _ _) X Y w w' h.i he hY,Fx.Good.go (φ:=IsX _ _) X Y w w' h.m he hY⟩⟩
theorem Hv.mkBF {I:List aM} {f:BF} (h1:aH f.ps (recs eZ f.smp)∈I) (h2:aH f.pi (recs eZ f.inl)∈I) (h3:iB f.m kX∈I):Hv I (IsBF f):=⟨fun X w hw=>⟨hw _ h1,hw _ h2,hw _ h3⟩⟩
theorem Hv.bfS {I:List aM} {f:BF} (h:IsBF f∈I):Hv I (aH f.ps (recs eZ f.smp)):=⟨fun X w hw=>(hw _ h:IsBF f X w).s⟩
theorem Hv.bfI {I:List aM} {f:BF} (h:IsBF f∈I):Hv I (aH f.pi (recs eZ f.inl)):=⟨fun X w hw=>(hw _ h:IsBF f X w).i⟩
theorem Hv.zBF {I:List aM}:Hv I (IsBF zBF):=⟨fun X w _=>⟨⟨fun j v hj=>by simp [Go.Proofs.YtmmmfphealhapaaGreat.zBF,recs] at hj⟩,⟨fun j v hj=>by simp [Go.Proofs.YtmmmfphealhapaaGreat.zBF,recs] at hj⟩,⟨fun j v hj=>by simp [Go.Proofs.YtmmmfphealhapaaGreat.zBF,recs] at hj,fun r hr=>by simp [Go.Proofs.YtmmmfphealhapaaGreat.zBF] at hr,⟨Nat.le_refl _, .inr ⟨rfl,rfl⟩⟩⟩⟩⟩
def BR (mdl:List Int→Option Mt) (inl:Mt→List Int) (kd:Int) (vis:List (List Int)) (f:BF):Prop:=
 match qO mdl inl vis with
 |none=>f=zBF
 |some g=>f.kd=kd∧f.smp=g.1∧f.inl=g.2.1∧f.m.q=g.2.2∧f.m.dim 3 3∧f.m.p≠none
theorem Mem.xptr {X:List Nat} {w0 w:World} {M:List Ent} {I:List aM} {m:MX} {k:Nat} (hm:iB m k∈I) (h0:m.rows.length≠0) (h:Mem X w0 M I w):m.p≠none:=fun e=>by
 have hx:IsX m k (muts M) w:=(h.imm _ hm).2
 rcases hx.cap.2 with h1|h1
 ·obtain ⟨b,o,e2⟩:=h1.cases;rw [e] at e2;cases e2
 ·exact h0 h1.1
def bestC (x:Int) (l:List Q4) (tol:Int):Int:=if qI x l=0 then (if tolP tol then 0 else 2) else qI x l
section
variable {X:List Nat} {w0:World} {M0 M1 M2:List Ent} {I0:List aM}
theorem aEH {q:Option Addr} {a:List Int} {c n:Nat} (hl:a.length=n) (hn:1≤n∧n≤100):
  CD Tryz.prog 46 [.slice q n c] X w0 (.row q n c (recs eZ a) 3 1::M1) I0 (fun v M I=>I0=I∧∃(q':Option Addr) (c':Nat),v= .slice q' n c'∧M= .row q' n c' (recs eZ a) 3 1:: .row q n c (recs eZ a) 3 1::M1):=by
 subst hl
 refine aS Tryz.func46 rfl Tryz.ntmps46 rfl ?_
 repeat refine aB ?_
 refine nG (φ:=∃b,q=some ⟨b,0,none⟩∧a.length≤c) (fun w hw=>Mem.rowA hw (List.Mem.head _) (by omega)) (fun hb=>?_)
 obtain ⟨b,rfl,hc3⟩:=hb
 refine aC rfl (fun _=>nT rfl) rfl rfl ?_
 repeat refine aB ?_
 refine gX (cs:=recs eZ []) ([]) rfl (fun b1=>?_)
 repeat refine aB ?_
 refine gF (mm:=0) 1 jL rfl (by omega) ?_
 refine iE (xs:=[]) (ys:=a) 0 rfl rfl rfl (Src.row aA) (by decide) rfl (by simp;omega) (by simp;omega) rfl rfl ?_
 intro a2 c2
 refine aL ?_
 repeat refine aB ?_
 refine aP (by first|exact .inl rfl|exact .inr rfl) rfl rfl _ _ aF aD (⟨rfl,a2,c2,by simp,by simp⟩)
theorem aYH {kd tol:Int} {b3 b4 b5 bb n c size:Nat} {q:Option Addr} {l:List Q4} {mdl:List Int→Option Mt} (hl:l.length=n) (hn:n≤64) (hsz:1≤size∧size≤8) (hs:∀s∈l,s.near) (ht:0≤tol∧tol≤1073741824)
  (f3:aH (some ⟨b3,0,none⟩) [.int .i64 kd]∈I0) (f4:aH (some ⟨b4,0,none⟩) [.slice q n c]∈I0) (f5:aH (some ⟨b5,0,none⟩) [.int .i64 tol]∈I0) (hq:aH q (recs iL l)∈I0)
  {vis:List (List Int)} {f:BF} {smp:List Int} {qs:Option Addr} {cs:Nat}
  (hM:∀M0 I0,aH q (recs iL l)∈I0→CD Tryz.prog 44 [.int .i64 kd, .slice q n c, .slice qs size cs] X w0 (.row qs size cs (recs eZ smp) 3 1::M0) I0 (aCK (mdl smp) kX (.row qs size cs (recs eZ smp) 3 1::M0) I0))
  (hR:BR mdl (fun A=>mY A l tol) kd vis f) (hsm:SmpP n size 0 smp):
  CD Tryz.prog 43 [.slice qs size cs, .pointer (some ⟨b3,0,none⟩), .pointer (some ⟨b4,0,none⟩), .pointer (some ⟨b5,0,none⟩), .pointer (some ⟨bb,0,none⟩)] X w0 (.row qs size cs (recs eZ smp) 3 1::enB bb f::M2) (IsBF f::I0)
   (fun _ M I=>∃f',BR mdl (fun A=>mY A l tol) kd (vis++[smp]) f'∧M= .row qs size cs (recs eZ smp) 3 1::enB bb f'::M2∧I=IsBF f'::I0):=by
 have hsl:smp.length=size:=hsm.len
 subst hsl
 refine aZW Tryz.func43 rfl Tryz.ntmps43 rfl ?_
 repeat refine aB ?_
 cases hm:mdl smp with
 |none=>
  rw [hm] at hM
  have hR2:BR mdl (fun A=>mY A l tol) kd (vis++[smp]) f:=by
   unfold BR at hR ⊢
   rw [yG]
   unfold aHW
   rw [hm]
   exact hR
  (refine aQ rfl (hM _ _ aA) ?_;rintro _ _ _ ⟨rfl,rfl,u,rfl⟩;refine aL ?_)
  repeat refine aB ?_
  refine nH (by first|exact .inl rfl|exact .inr rfl) rfl _ _ aF aD (⟨f,hR2,rfl,rfl⟩)
 |some A=>
  rw [hm] at hM
  (refine aQ rfl (hM _ _ aA) ?_;rintro _ _ _ ⟨rfl,m,rfl,hmq,hmd,rfl⟩;refine aL ?_)
  have hI:=fun M0 I0 h1 h2=>aYV (X:=X) (w0:=w0) (M0:=M0) (I0:=I0) (m:=m) (q:=q) (l:=l) (n:=n) (c:=c) (u:=kX) (tol:=tol) (by decide) hmd hl hn hs ht h1 h2
  rw [hmq] at hI
  obtain ⟨zs,hzs⟩:∃zs,mY A l tol=zs:=⟨_,rfl⟩
  rw [hzs] at hI
  have hzl:zs.length≤64:=by rw [←hzs];unfold mY;exact Nat.le_trans zC (by omega)
  have hfl:f.inl.length≤64:=by
   unfold BR at hR
   split at hR
   ·rw [hR];exact Nat.zero_le _
   ·rename_i g hg
    rw [hR.2.2.1,(aRR hg).2.2]
    unfold mY
    exact Nat.le_trans zC (by omega)
  refine nG (φ:=m.p≠none) (fun w hw=>Mem.xptr (k:=kX) (List.Mem.head _) (by rw [hmd.1];decide) hw) (fun hmp=>?_)
  repeat refine aB ?_
  (refine aQ rfl (hI _ _ aA aA) ?_;rintro _ _ _ ⟨rfl,qi,ci,rfl,rfl⟩;refine aL ?_)
  by_cases hbet:f.inl.length < zs.length∨qO mdl (fun A=>mY A l tol) vis=none
  ·have hnew:∀(q':Option Addr) (c':Nat),BR mdl (fun A=>mY A l tol) kd (vis++[smp]) ⟨kd,q',c',smp,qi,ci,zs,m⟩:=by
    intro q' c'
    have e:aHW mdl (fun A=>mY A l tol) (qO mdl (fun A=>mY A l tol) vis) smp=some (smp,mY A l tol,A):=by
     unfold aHW
     rw [hm]
     cases hb:qO mdl (fun A=>mY A l tol) vis with
     |none=>rfl
     |some g=>
      have h1:=hbet.resolve_right (by rw [hb];simp)
      unfold BR at hR
      rw [hb] at hR
      have h2:g.2.1.length < (mY A l tol).length:=by rw [hzs,←hR.2.2.1];exact h1
      show (if g.2.1.length < (mY A l tol).length then some (smp,mY A l tol,A) else some g)=_
      rw [if_pos h2]
    unfold BR
    rw [yG,e]
    exact ⟨rfl,rfl,hzs.symm,hmq,hmd,hmp⟩
   have hnil:¬f.inl.length < zs.length→f.m.p=none:=fun h=>by
    have h1:=hbet.resolve_left h
    unfold BR at hR
    rw [h1] at hR
    rw [hR]
   by_cases hgt:f.inl.length < zs.length
   ·repeat refine aB ?_
    (repeat refine aG ?_);refine qQ (.row qs smp.length cs (recs eZ smp) 3 1::M2) (aH qi (recs eZ zs)::iB m kX::I0) [0,1,3,4,2,5,6] [1,0,1,1,0,0,0] mixed ?_
    repeat refine aB ?_
    (refine aQ rfl (aEH rfl ⟨hsz.1,by omega⟩) ?_;rintro _ _ _ ⟨rfl,q2,c2,rfl,rfl⟩;refine aL ?_)
    refine eX .here ?_
    repeat refine aB ?_
    (refine aC rfl (fun _=>tK (vals:=[.int .i64 kd, .slice q2 smp.length c2, .slice qi zs.length ci,mv m]) (cells:=eBF ⟨kd,q2,c2,smp,qi,ci,zs,m⟩) rfl ?hpl rfl ?hz) rfl rfl ?_;(case hpl=>repeat (first|exact True.intro|refine ⟨rfl,?_⟩));(case hz=>rfl))
    repeat refine aB ?_
    refine dF (φ:=IsBF ⟨kd,q2,c2,smp,qi,ci,zs,m⟩) (Hv.mkBF aA aA aA) ?_
    refine fB (M':= .row qs smp.length cs (recs eZ smp) 3 1::enB bb ⟨kd,q2,c2,smp,qi,ci,zs,m⟩::M2) (I':=IsBF ⟨kd,q2,c2,smp,qi,ci,zs,m⟩::I0) aF aD ?_
    refine nH (by first|exact .inl rfl|exact .inr rfl) rfl _ _ aF aD (⟨_,hnew q2 c2,rfl,rfl⟩)
   ·have hp:=hnil hgt
    repeat refine aB ?_
    refine aC rfl (fun _=>nT rfl) rfl rfl ?_
    rw [hp]
    repeat refine aB ?_
    (repeat refine aG ?_);refine qQ (.row qs smp.length cs (recs eZ smp) 3 1::M2) (aH qi (recs eZ zs)::iB m kX::I0) [0,1,3,4,2,5,6] [1,0,1,1,0,0,0] mixed ?_
    repeat refine aB ?_
    (refine aQ rfl (aEH rfl ⟨hsz.1,by omega⟩) ?_;rintro _ _ _ ⟨rfl,q2,c2,rfl,rfl⟩;refine aL ?_)
    refine eX .here ?_
    repeat refine aB ?_
    (refine aC rfl (fun _=>tK (vals:=[.int .i64 kd, .slice q2 smp.length c2, .slice qi zs.length ci,mv m]) (cells:=eBF ⟨kd,q2,c2,smp,qi,ci,zs,m⟩) rfl ?hpl rfl ?hz) rfl rfl ?_;(case hpl=>repeat (first|exact True.intro|refine ⟨rfl,?_⟩));(case hz=>rfl))
    repeat refine aB ?_
    refine dF (φ:=IsBF ⟨kd,q2,c2,smp,qi,ci,zs,m⟩) (Hv.mkBF aA aA aA) ?_
    refine fB (M':= .row qs smp.length cs (recs eZ smp) 3 1::enB bb ⟨kd,q2,c2,smp,qi,ci,zs,m⟩::M2) (I':=IsBF ⟨kd,q2,c2,smp,qi,ci,zs,m⟩::I0) aF aD ?_
    refine nH (by first|exact .inl rfl|exact .inr rfl) rfl _ _ aF aD (⟨_,hnew q2 c2,rfl,rfl⟩)
  ·have hgt:¬f.inl.length < zs.length:=fun h=>hbet (.inl h)
   have hnn:qO mdl (fun A=>mY A l tol) vis≠none:=fun h=>hbet (.inr h)
   obtain ⟨g,hg⟩:∃g,qO mdl (fun A=>mY A l tol) vis=some g:=by
    cases hb:qO mdl (fun A=>mY A l tol) vis with
    |none=>exact absurd hb hnn
    |some g=>exact ⟨g,rfl⟩
   have hR1:=hR
   unfold BR at hR1
   rw [hg] at hR1
   have hR2:BR mdl (fun A=>mY A l tol) kd (vis++[smp]) f:=by
    unfold BR
    rw [yG,hg]
    unfold aHW
    rw [hm]
    have h2:¬g.2.1.length < (mY A l tol).length:=by rw [hzs,←hR1.2.2.1];exact hgt
    show match (if g.2.1.length < (mY A l tol).length then some (smp,mY A l tol,A) else some g) with|none=>_|some g=>_
    rw [if_neg h2]
    exact hR1
   have hp:f.m.p.isNone=false:=by
    cases hh:f.m.p with
    |none=>exact absurd hh hR1.2.2.2.2.2
    |some a=>rfl
   repeat refine aB ?_
   refine aC rfl (fun _=>nT rfl) rfl rfl ?_
   rw [hp]
   repeat refine aB ?_
   refine fB (M':= .row qs smp.length cs (recs eZ smp) 3 1::enB bb f::M2) (I':=IsBF f::I0) aF aD ?_
   refine nH (by first|exact .inl rfl|exact .inr rfl) rfl _ _ aF aD (⟨f,hR2,rfl,rfl⟩)
end
def BestR (o:Option (List Int × List Int × Mt)) (kd:Int) (M0:List Ent) (I0:List aM) (v:Value) (M:List Ent) (I:List aM):Prop:=M0=M∧match o with
 |none=>I0=I∧v= .tuple #[.agg zF4.toArray, .int .i64 6]
 |some g=>∃f:BF,v= .tuple #[.agg (eBF f).toArray, .int .i64 0]∧f.kd=kd∧f.smp=g.1∧f.inl=g.2.1∧f.m.q=g.2.2∧f.m.dim 3 3∧I=IsBF f::I0
section
variable {X:List Nat} {w0:World} {M0 M1 M2:List Ent} {I0:List aM}
theorem bAV {kd:Nat} {tol:Int} {q:Option Addr} {l:List Q4} {n c:Nat} {mdl:List Int→Option Mt} (hk:kd≤3) (hl:l.length=n) (hn:n≤12) (hc:jH l=0) (ht:tolP tol) (hq:aH q (recs iL l)∈I0)
  (hM:∀(smp:List Int) (qs:Option Addr) (cs:Nat),SmpP n (kd+1) 0 smp→∀M0 I0,aH q (recs iL l)∈I0→CD Tryz.prog 44 [.int .i64 (kd:Int), .slice q n c, .slice qs (kd+1) cs] X w0 (.row qs (kd+1) cs (recs eZ smp) 3 1::M0) I0 (aCK (mdl smp) kX (.row qs (kd+1) cs (recs eZ smp) 3 1::M0) I0)):
  CD Tryz.prog 9 [.int .i64 (kd:Int), .slice q n c, .int .i64 tol] X w0 M0 I0 (BestR (qO mdl (fun A=>mY A l tol) (cmb n (kd+1) 0)) (kd:Int) M0 I0):=by
 have hkc:qI (kd:Int) l=0:=by unfold qI;rw [if_pos hc,if_pos ⟨by omega,by omega⟩]
 have hK:=fun M0 I0 h=>aAU (X:=X) (w0:=w0) (M0:=M0) (I0:=I0) (x:=(kd:Int)) (q:=q) (l:=l) (n:=n) (c:=c) hl (by omega) h
 have hT:=fun M0 I0=>bCO (X:=X) (w0:=w0) (M0:=M0) (I0:=I0) (t:=tol)
 rw [hkc,if_pos rfl] at hK
 rw [if_pos ht] at hT
 have hs:=(aDC hc).2
 refine aX (φ:=aH q (recs iL l)) (Hv.mem hq) ?_
 refine gG Tryz.func9 rfl Tryz.ntmps9 rfl ?_
 refine iH ?_
 refine tyX rfl (fun b3=>?_)
 refine aI .here ?_
 (refine pX rfl rfl rfl ?_;intro b4;refine aL ?_)
 refine tyX rfl (fun b5=>?_)
 refine aI .here ?_
 refine dS (fun b6=>?_)
 repeat refine aB ?_
 refine dK rfl (hK _ _ aA) ?_
 repeat refine aB ?_
 refine dK rfl (hT _ _) ?_
 have e1:(kd:Int)+1=((kd+1:Nat):Int):=rfl
 rcases (show (kd:Int)=2∨(kd:Int)=3∨(¬(kd:Int)=2∧¬(kd:Int)=3) by omega) with h2|h2|⟨h2,h3⟩ <;>(
  repeat refine aB ?_
  refine dS (fun b10=>?_)
  repeat refine aB ?_
  rw [e1]
  refine cK (φ:=IsBF zBF) Hv.zBF ?_
  refine yN (M':=enB b10 zBF:: .blk b6 zF4 36::M0) (I':=IsBF zBF::aH (some ⟨b5,0,none⟩) [.int .i64 tol]::aH (some ⟨b4,0,none⟩) [.slice q n c]::aH (some ⟨b3,0,none⟩) [.int .i64 (kd:Int)]::aH q (recs iL l)::I0) SubP.refl aD ?_
  (refine aQ rfl (aOJ (enB b10) IsBF (BR mdl (fun A=>mY A l tol) (kd:Int)) (M1:= .blk b6 zF4 36::M0) (s0:=zBF) (by omega) (by omega) rfl (fun I1 hI vis s smp qs cs M2 hR hsm=>aYH hl (by omega) ⟨by omega,by omega⟩ hs ht (hI _ aA) (hI _ aA) (hI _ aA) (hI _ aA) (hM smp qs cs hsm) hR hsm)) ?_;rintro _ _ _ ⟨f,hR,rfl,rfl⟩;refine aL ?_)
  unfold BR at hR
  cases hb:qO mdl (fun A=>mY A l tol) (cmb n (kd+1) 0) with
  |none=>
   rw [hb] at hR
   have hp:f.m.p=none:=by rw [hR]
   repeat refine aB ?_
   refine aC rfl (fun _=>nT rfl) rfl rfl ?_
   rw [hp]
   repeat refine aB ?_
   (refine aC rfl (fun _=>bF (pvs:=([]).zipIdx.map (fun p=>(p.2,p.1))) (cells:=zF4) rfl rfl) rfl rfl ?_)
   repeat refine aB ?_
   refine fB (M':= .blk b6 zF4 36::M0) (I':=I0) aF aD ?_
   refine fF (rs:=[.cell 6 36, .tmp 7]) (vs:=[.agg zF4.toArray, .int .i64 6]) (.inl rfl) rfl (.cellN (cs:=zF4) inferInstance rfl aA rfl (.tmp rfl .nil)) rfl M0 I0 aF aD ⟨rfl,rfl,rfl⟩
  |some g=>
   rw [hb] at hR
   have hp:f.m.p.isNone=false:=by
    cases hh:f.m.p with
    |none=>exact absurd hh hR.2.2.2.2.2
    |some a=>rfl
   repeat refine aB ?_
   refine aC rfl (fun _=>nT rfl) rfl rfl ?_
   rw [hp]
   repeat refine aB ?_
   refine fB (M':= .blk b6 (eBF f) 36::M0) (I':=IsBF f::I0) aF aD ?_
   refine fF (rs:=[.cell 6 36, .tmp 7]) (vs:=[.agg (eBF f).toArray, .int .i64 0]) (.inl rfl) rfl (.cellN (cs:=eBF f) inferInstance rfl aA rfl (.tmp rfl .nil)) rfl M0 (IsBF f::I0) aF aD ⟨rfl,f,rfl,hR.1,hR.2.1,hR.2.2.1,hR.2.2.2.1,hR.2.2.2.2.1,rfl⟩)
end
def exQ:List Q4:=[⟨0,0,5,5⟩,⟨10,0,15,5⟩,⟨0,10,5,16⟩,⟨3,3,90,1⟩]
instance lexL.dec (X Y x y:Int):Decidable (lexL X Y x y):=inferInstanceAs (Decidable (X < x∨(X=x∧Y≤y)))
theorem bBI:BestD (rC exQ) 1 5 6 3:=⟨by decide,by decide,by decide,by decide,by decide⟩
theorem aYT:(qO (fun s=>qJ 0 (bV exQ s)) (fun A=>mY A exQ 1) (cmb 4 1 0)).map (fun g=>(g.1,g.2.1))=some ([0],[0,1,2]):=by decide+kernel
theorem aOH:jH exQ=0:=by decide
section
variable {X:List Nat} {w0:World} {M0 M1 M2:List Ent} {I0:List aM}
theorem aES:CD Tryz.prog 65 [] X w0 M0 I0 (fun v M I=>M0=M∧∃b:Nat,v= .slice (some ⟨b,0,none⟩) 4 4∧I=aH (some ⟨b,0,none⟩) (recs iL exQ)::I0):=by
 refine aQY Tryz.func65 rfl Tryz.ntmps65 rfl ?_
 repeat refine aB ?_
 (refine aC rfl (fun _=>bF (pvs:=([.int .i64 5, .int .i64 5]).zipIdx.map (fun p=>(p.2,p.1))) (cells:=[.int .i64 5, .int .i64 5]) rfl rfl) rfl rfl ?_)
 (refine aC rfl (fun _=>bF (pvs:=[(1, .agg #[.int .i64 5, .int .i64 5])]) (cells:=[.int .i64 0, .int .i64 0, .int .i64 5, .int .i64 5]) rfl rfl) rfl rfl ?_)
 (refine aC rfl (fun _=>bF (pvs:=[(0, .int .i64 10)]) (cells:=[.int .i64 10, .int .i64 0]) rfl rfl) rfl rfl ?_)
 (refine aC rfl (fun _=>bF (pvs:=([.int .i64 15, .int .i64 5]).zipIdx.map (fun p=>(p.2,p.1))) (cells:=[.int .i64 15, .int .i64 5]) rfl rfl) rfl rfl ?_)
 (refine aC rfl (fun _=>bF (pvs:=[(0, .agg #[.int .i64 10, .int .i64 0]),(1, .agg #[.int .i64 15, .int .i64 5])]) (cells:=[.int .i64 10, .int .i64 0, .int .i64 15, .int .i64 5]) rfl rfl) rfl rfl ?_)
 (refine aC rfl (fun _=>bF (pvs:=[(1, .int .i64 10)]) (cells:=[.int .i64 0, .int .i64 10]) rfl rfl) rfl rfl ?_)
 (refine aC rfl (fun _=>bF (pvs:=([.int .i64 5, .int .i64 16]).zipIdx.map (fun p=>(p.2,p.1))) (cells:=[.int .i64 5, .int .i64 16]) rfl rfl) rfl rfl ?_)
 (refine aC rfl (fun _=>bF (pvs:=[(0, .agg #[.int .i64 0, .int .i64 10]),(1, .agg #[.int .i64 5, .int .i64 16])]) (cells:=[.int .i64 0, .int .i64 10, .int .i64 5, .int .i64 16]) rfl rfl) rfl rfl ?_)
 (refine aC rfl (fun _=>bF (pvs:=([.int .i64 3, .int .i64 3]).zipIdx.map (fun p=>(p.2,p.1))) (cells:=[.int .i64 3, .int .i64 3]) rfl rfl) rfl rfl ?_)
 (refine aC rfl (fun _=>bF (pvs:=([.int .i64 90, .int .i64 1]).zipIdx.map (fun p=>(p.2,p.1))) (cells:=[.int .i64 90, .int .i64 1]) rfl rfl) rfl rfl ?_)
 (refine aC rfl (fun _=>bF (pvs:=[(0, .agg #[.int .i64 3, .int .i64 3]),(1, .agg #[.int .i64 90, .int .i64 1])]) (cells:=[.int .i64 3, .int .i64 3, .int .i64 90, .int .i64 1]) rfl rfl) rfl rfl ?_)
 refine gX (cs:=recs iL exQ) ([vQ4 ⟨0,0,5,5⟩,vQ4 ⟨10,0,15,5⟩,vQ4 ⟨0,10,5,16⟩,vQ4 ⟨3,3,90,1⟩]) rfl (fun b=>?_)
 refine aI .here ?_
 repeat refine aB ?_
 refine iA rfl rfl (⟨rfl,b,rfl,rfl⟩)
theorem aNB:CD Tryz.prog 15 [] X w0 M0 I0 (fun v M I=>M0=M∧I0=I∧v= .bool true):=by
 obtain ⟨g,hg,hg1⟩:∃g,qO (fun s=>qJ 0 (bV exQ s)) (fun A=>mY A exQ 1) (cmb 4 1 0)=some g∧(g.1,g.2.1)=(([0],[0,1,2]):List Int × List Int):=by
  have:=aYT
  cases h:qO (fun s=>qJ 0 (bV exQ s)) (fun A=>mY A exQ 1) (cmb 4 1 0) with
  |none=>rw [h] at this;cases this
  |some g=>rw [h] at this;exact ⟨g,rfl,Option.some.inj this⟩
 injection hg1 with hgs hgi
 have hnr:=(aDC aOH).2
 have hB:=fun (b:Nat) M0 I0 h=>bAV (X:=X) (w0:=w0) (M0:=M0) (I0:=I0) (kd:=0) (tol:=1) (q:=some ⟨b,0,none⟩) (l:=exQ) (n:=4) (c:=4) (mdl:=fun s=>qJ 0 (bV exQ s)) (by omega) rfl (by omega) aOH (by decide) h
  (fun smp qs cs hsm M0 I0 h=>aNL (kd:=0) (by omega) rfl (by omega) hnr hsm.len (by omega) (fun x hx=>⟨by have:=hsm.lt x hx;omega,(hsm.lt x hx).2⟩) h)
 rw [hg] at hB
 have hD:=fun (b:Nat) M0 I0 h=>aYS (X:=X) (w0:=w0) (M0:=M0) (I0:=I0) (tol:=1) (q:=some ⟨b,0,none⟩) (l:=exQ) (n:=4) (c:=4) rfl (by omega) aOH (by decide) h
 have hC0:=fun M0 I0 h=>xL (X:=X) (w0:=w0) (M0:=M0) (I0:=I0) (q:=none) (l:=[]) (n:=0) (c:=0) rfl (by omega) h
 refine aQY Tryz.func15 rfl Tryz.ntmps15 rfl ?_
 repeat refine aB ?_
 (refine aQ rfl (aES) ?_;rintro _ _ _ ⟨rfl,b1,rfl,rfl⟩;refine aL ?_)
 repeat refine aB ?_
 (refine aQ rfl (hB b1 _ _ aA) ?_;rintro _ _ _ ⟨rfl,f,rfl,hk,hs,hi,hmq,hmd,rfl⟩;refine aL ?_)
 rw [hgs] at hs
 rw [hgi] at hi
 repeat refine aB ?_
 refine dS (fun b3=>?_)
 repeat refine aB ?_
 (refine aQ rfl (aES) ?_;rintro _ _ _ ⟨rfl,b2,rfl,rfl⟩;refine aL ?_)
 repeat refine aB ?_
 (refine aQ rfl (hD b2 _ _ aA) ?_;rintro _ _ _ ⟨rfl,rfl,x,y,nn,⟨hn0,hbd⟩,rfl⟩;refine aL ?_)
 obtain ⟨rfl,rfl,rfl⟩:=hbd.uniq bBI
 repeat refine aB ?_
 refine dS (fun b4=>?_)
 repeat refine aB ?_
 refine gX (cs:=recs eZ [0]) ([.int .i64 0]) rfl (fun b5=>?_)
 refine aI .here ?_
 refine cK (φ:=aH f.ps (recs eZ f.smp)) (Hv.bfS aA) ?_
 refine cK (φ:=aH f.pi (recs eZ f.inl)) (Hv.bfI aA) ?_
 (refine bY rfl (aUG (a:=f.smp) (b:=[0]) (by rw [hs];decide) aA aA) rfl rfl ?_;rintro _ _ _ ⟨rfl,rfl,rfl⟩;refine aL ?_)
 rw [bJ hs]
 repeat refine aB ?_
 refine gX (cs:=recs eZ [0,1,2]) ([.int .i64 0, .int .i64 1, .int .i64 2]) rfl (fun b6=>?_)
 refine aI .here ?_
 (refine bY rfl (aUG (a:=f.inl) (b:=[0,1,2]) (by rw [hi];decide) aA aA) rfl rfl ?_;rintro _ _ _ ⟨rfl,rfl,rfl⟩;refine aL ?_)
 rw [bJ hi]
 repeat refine aB ?_
 (refine aC rfl (fun _=>bF (pvs:=([.int .i64 4, .int .i64 5]).zipIdx.map (fun p=>(p.2,p.1))) (cells:=[.int .i64 4, .int .i64 5]) rfl rfl) rfl rfl ?_)
 (refine aC rfl (fun _=>aSN (xs:=[5 - 1,6 - 1]) (ys:=[4,5]) rfl rfl rfl rfl) rfl rfl ?_)
 rw [bJ (show ([5 - 1,6 - 1]:List Int)=[4,5] from rfl)]
 refine cK (φ:=aH none (recs iL [])) ⟨fun X w _=>⟨fun j v hj=>by simp [recs] at hj⟩⟩ ?_
 repeat refine aB ?_
 refine dK rfl (hC0 _ _ aA) ?_
 rw [show jH []=1 from rfl]
 repeat refine aB ?_
 refine fB (M':=M0) (I':=I0) aF aD ?_
 refine iA rfl rfl (⟨rfl,rfl,congrArg Value.bool (bJ rfl)⟩)
end
section
variable {X:List Nat} {w0:World} {M0 M1 M2:List Ent} {I0:List aM}
theorem bBB {q:Option Addr} {n c:Nat} {m:Int}:CD Tryz.prog 16 [.slice q n c, .int .i64 m] X w0 M0 I0 (fun v M I=>M0=M∧I0=I∧v= .bool (B ((n:Int)≤m))):=by
 refine aN Tryz.func16 rfl Tryz.ntmps16 rfl ?_
 repeat refine aB ?_
 refine iA rfl rfl (⟨rfl,rfl,rfl⟩)
theorem aYK {a b:Int}:CD Tryz.prog 68 [.agg #[.int .i64 a, .int .i64 b]] X w0 M0 I0 (fun v M I=>M0=M∧I0=I∧v= .bool (B (¬farC a b))):=by
 refine aS Tryz.func68 rfl Tryz.ntmps68 rfl ?_
 refine iH ?_
 refine gU rfl (fun b1=>?_)
 by_cases h1: -32768≤a
 ·by_cases h2:a≤32768
  ·by_cases h3: -32768≤b
   ·by_cases h4:b≤32768
    ·repeat refine aB ?_
     refine fB (M':=M0) (I':=I0) aF aD ?_
     refine aP (by first|exact .inl rfl|exact .inr rfl) rfl rfl _ _ aF aD (⟨rfl,rfl,congrArg Value.bool ((bJ h4).trans (bJ (show ¬farC a b by unfold farC;omega)).symm)⟩)
    ·repeat refine aB ?_
     refine fB (M':=M0) (I':=I0) aF aD ?_
     refine aP (by first|exact .inl rfl|exact .inr rfl) rfl rfl _ _ aF aD (⟨rfl,rfl,congrArg Value.bool ((bE h4).trans (bE (show ¬¬farC a b by unfold farC;omega)).symm)⟩)
   ·repeat refine aB ?_
    refine fB (M':=M0) (I':=I0) aF aD ?_
    refine aP (by first|exact .inl rfl|exact .inr rfl) rfl rfl _ _ aF aD (⟨rfl,rfl,congrArg Value.bool (bE (show ¬¬farC a b by unfold farC;omega)).symm⟩)
  ·repeat refine aB ?_
   refine fB (M':=M0) (I':=I0) aF aD ?_
   refine aP (by first|exact .inl rfl|exact .inr rfl) rfl rfl _ _ aF aD (⟨rfl,rfl,congrArg Value.bool (bE (show ¬¬farC a b by unfold farC;omega)).symm⟩)
 ·repeat refine aB ?_
  refine fB (M':=M0) (I':=I0) aF aD ?_
  refine aP (by first|exact .inl rfl|exact .inr rfl) rfl rfl _ _ aF aD (⟨rfl,rfl,congrArg Value.bool (bE (show ¬¬farC a b by unfold farC;omega)).symm⟩)
theorem aTF {q:Option Addr} {l:List Q4} {n c:Nat} (hl:l.length=n) (hn:(n:Int)≤9223372036854775807) (hq:aH q (recs iL l)∈I0):CD Tryz.prog 21 [.slice q n c] X w0 M0 I0 (fun v M I=>M0=M∧I0=I∧v= .int .i64 (jH l)):=by
 have hN:=fun a b M0 I0=>aYK (X:=X) (w0:=w0) (M0:=M0) (I0:=I0) (a:=a) (b:=b)
 refine aX (φ:=aH q (recs iL l)) (Hv.mem hq) ?_
 refine aS Tryz.func21 rfl Tryz.ntmps21 rfl ?_
 by_cases h0:n=0
 ·rw [show jH l=1 by unfold jH;rw [if_pos (by omega)]]
  repeat refine aB ?_
  refine iA rfl rfl (⟨rfl,rfl,rfl⟩)
 by_cases h1:64 < n
 ·rw [show jH l=3 by unfold jH;rw [if_neg (by omega),if_pos (by omega)]]
  repeat refine aB ?_
  refine iA rfl rfl (⟨rfl,rfl,rfl⟩)
 have ec:jH l=if anyFar l then 2 else 0:=by unfold jH;rw [if_neg (by omega),if_neg (by omega)]
 repeat refine aB ?_
 refine lV [11,12] rfl (fun k G M I=>∃i:Nat,i≤n∧k=n - i∧(∀j:Nat,j < i→¬(gt l (j:Int)).far)∧G=[(13, .int .i64 i)]∧M0=M∧I=aH q (recs iL l)::I0) (n) (⟨0,by omega,rfl,fun j hj=>by omega,rfl,rfl,rfl⟩) ?_
 rintro kk G M I ⟨i,hi,rfl,hnf,rfl,rfl,rfl⟩
 by_cases hin:i < n
 ·have hmem:=bD (ms:=l) (i:=(i:Int)) (by omega)
  have hnx:∀j:Nat,¬(gt l (i:Int)).far→j < i+1→¬(gt l (j:Int)).far:=fun j h hj=>by
   by_cases e:j=i
   ·subst e;exact h
   ·exact hnf j (by omega)
  obtain ⟨s,hss⟩:∃s,gt l (i:Int)=s:=⟨_,rfl⟩
  rw [hss] at hmem hnx
  repeat refine aB ?_
  rw [hss]
  refine dS (fun b4=>?_)
  repeat refine aB ?_
  by_cases f1:farC s.x s.y
  ·have e2:jH l=2:=by rw [ec,if_pos ⟨s,hmem, .inl f1⟩]
   rw [e2]
   have hN1:=hN s.x s.y
   rw [bE (show ¬¬farC s.x s.y from fun h=>h f1)] at hN1
   (refine aQ rfl (hN1 _ _) ?_;rintro _ _ _ ⟨rfl,rfl,rfl⟩;refine aL ?_)
   repeat refine aB ?_
   refine fB (M':=M0) (I':=I0) aF aD ?_
   refine iA rfl rfl (⟨rfl,rfl,rfl⟩)
  ·have hN1:=hN s.x s.y
   rw [bJ (show ¬farC s.x s.y from f1)] at hN1
   (refine aQ rfl (hN1 _ _) ?_;rintro _ _ _ ⟨rfl,rfl,rfl⟩;refine aL ?_)
   repeat refine aB ?_
   by_cases f2:farC s.u s.v
   ·have e2:jH l=2:=by rw [ec,if_pos ⟨s,hmem, .inr f2⟩]
    rw [e2]
    have hN2:=hN s.u s.v
    rw [bE (show ¬¬farC s.u s.v from fun h=>h f2)] at hN2
    (refine aQ rfl (hN2 _ _) ?_;rintro _ _ _ ⟨rfl,rfl,rfl⟩;refine aL ?_)
    repeat refine aB ?_
    refine fB (M':=M0) (I':=I0) aF aD ?_
    refine iA rfl rfl (⟨rfl,rfl,rfl⟩)
   ·have hN2:=hN s.u s.v
    rw [bJ (show ¬farC s.u s.v from f2)] at hN2
    (refine aQ rfl (hN2 _ _) ?_;rintro _ _ _ ⟨rfl,rfl,rfl⟩;refine aL ?_)
    repeat refine aB ?_
    refine gJ (n - (i+1)) (⟨i+1,by omega,rfl,fun j hj=>hnx j (fun h=>h.elim f1 f2) hj,rfl,rfl,rfl⟩)
 ·obtain rfl:i=n:=by omega
  have e2:jH l=0:=by
   rw [ec,if_neg]
   rintro ⟨s,hs,hf⟩
   obtain ⟨j,hj,rfl⟩:=List.mem_iff_getElem.1 hs
   exact hnf j (by omega) (by rw [gtQ hj];exact hf)
  rw [e2]
  repeat refine aB ?_
  refine iA rfl rfl (⟨rfl,rfl,rfl⟩)
theorem lF {x:Int} (hx: -9223372036854775808≤x∧x≤9223372036854775807) {k:Nat} (hk:x.natAbs≤2 ^ k):CD Tryz.prog 138 [.int .i64 x] X w0 M0 I0 (RQ (x:Rat) k M0 I0):=by
 refine aS Tryz.func138 rfl Tryz.ntmps138 rfl ?_
 refine iH ?_
 refine dS (fun b2=>?_)
 repeat refine aB ?_
 (refine aQ rfl (aFC hx hk) ?_;rintro _ _ _ ⟨rfl,e,rfl,he,rfl⟩;refine aL ?_)
 repeat refine aB ?_
 refine aT (cs:=eR e) (.inl rfl) rfl rfl aA rfl M0 (bW e k::I0) aF aD ⟨rfl,e,rfl,he,rfl⟩
end
/- ---------- the law's search ---------- -/
def VisL (l:List Q4) (i j:Nat) (x y:Int):Prop:=(∃a:Nat,a < i∧a < l.length∧x=gt (dxs l) (a:Int)∧∃b:Nat,b < l.length∧y=gt (dys l) (b:Int))∨(i < l.length∧x=gt (dxs l) (i:Int)∧∃b:Nat,b < j∧b < l.length∧y=gt (dys l) (b:Int))
section
variable {l:List Q4} {t X Y:Int} {i j n:Nat}
end
section
variable {X:List Nat} {w0:World} {M0 M1 M2:List Ent} {I0:List aM}
end
def fourS (a:WM):Prop:=a.rows.length≤4∧∀r∈a.rows,r.es.length≤4∧∀e∈r.es,e.brief
def NR (a:WM):Prop:=sqC a≠0∨∃(A:MX) (n:Nat),a=A.raw∧A.fit n n∧n≤4∧(n=3→dt 3 (at2 A.q)=0)
section
variable {X:List Nat} {w0:World} {M0 M1 M2:List Ent} {I0:List aM}
end
def MisK (m:Mt) (s:Q4) (k:Nat) (M0:List Ent) (I0:List aM) (v:Value) (M:List Ent) (I:List aM):Prop:=
 M0=M∧if xU m 2 s=0 then I0=I∧v= .tuple #[zR, .bool false] else ∃e:RE,v= .tuple #[rv e, .bool true]∧e.q=aCM m s∧I=bW e k::I0
section
variable {X:List Nat} {w0:World} {M0 M1 M2:List Ent} {I0:List aM}
end
section
variable {X:List Nat} {w0:World} {M0 M1 M2:List Ent} {I0:List aM}
theorem Hv.three {I:List aM} {a b c:RE} {k:Nat} (h1:bW a k∈I) (h2:bW b k∈I) (h3:bW c k∈I):Hv I (aU [a,b,c] k):=⟨fun X w hw=>⟨fun x hx=>by
 simp only [List.mem_cons,List.not_mem_nil,or_false] at hx
 rcases hx with rfl|rfl|rfl
 ·exact hw _ h1
 ·exact hw _ h2
 ·exact hw _ h3⟩⟩
end
theorem Hv.threeL {I:List aM} {a b c:RL} {k:Nat} (h1:iQ a k∈I) (h2:iQ b k∈I) (h3:iQ c k∈I):Hv I (dX [a,b,c] k):=⟨fun X w hw=>⟨fun x hx=>by
 simp only [List.mem_cons,List.not_mem_nil,or_false] at hx
 rcases hx with rfl|rfl|rfl
 ·exact hw _ h1
 ·exact hw _ h2
 ·exact hw _ h3⟩⟩
section
variable {X:List Nat} {w0:World} {M0 M1 M2:List Ent} {I0:List aM}
abbrev l3 (b:Nat) (x y z:RE):RL:=⟨some ⟨b,0,none⟩,3,[x,y,z]⟩
theorem nM {P:Program} {n:Nat} {Q:Exit→Act→World→Prop} {G:Env} {M:List Ent} {I:List aM} {ops l:List Oper} {m:Fx.Mode} {b k:Nat} {x y z:RE} {ty:TypeId} (ha:aU [x,y,z] k∈I) (h:RD P n ops Q m l G X w0 M (iQ (l3 b x y z) k::I)):RD P n ops Q m l G X w0 (.blk b (recs eR [x,y,z]) ty::M) I:=aZK ha h
theorem aRP {kd u:Nat} {x:RL} (hk:kd≤2) (hu:u≤100000000000) (hl:mI kd≤x.es.length) (hx:iQ x u∈I0):CD Tryz.prog 73 [.int .i64 (kd:Int),lv x] X w0 M0 I0 (XQ (frm kd x.q) 3 3 u M0 I0):=by
 have hW0:=fun M0 I0=>lF (X:=X) (w0:=w0) (M0:=M0) (I0:=I0) (x:=0) (by decide) (k:=u) (by simp)
 have hW1:=fun M0 I0=>lF (X:=X) (w0:=w0) (M0:=M0) (I0:=I0) (x:=1) (by decide) (k:=u) (by show 1≤2 ^ u;exact Nat.one_le_two_pow)
 have hq:∀i:Nat,i < mI kd→x.q.getD i 0=(gt x.es (i:Int)).q:=fun i hi=>iM (by omega)
 refine aX (φ:=aH x.p (recs eR x.es)) (Hv.lsl hx) (aX (φ:=iQ x u) (Hv.mem (List.mem_cons_of_mem _ hx)) ?_)
 refine aN Tryz.func73 rfl Tryz.ntmps73 rfl ?_
 repeat refine aB ?_
 (refine aQ rfl (hW0 _ _) ?_;rintro _ _ _ ⟨rfl,e0,rfl,he0,rfl⟩;refine aL ?_)
 (refine aQ rfl (hW1 _ _) ?_;rintro _ _ _ ⟨rfl,e1,rfl,he1,rfl⟩;refine aL ?_)
 refine dS (fun b5=>?_)
 refine dS (fun b6=>?_)
 repeat refine aB ?_
 refine gX (cs:=recs eR [e0,e0,e1]) ([rv e0,rv e0,rv e1]) rfl (fun b7=>?_)
 refine cK (φ:=aU [e0,e0,e1] u) (Hv.three aA aA aA) ?_
 refine nM (k:=u) aA ?_
 rcases (show kd=0∨kd=1∨kd=2 by omega) with h0|h0|h0
 ·obtain rfl:kd=0:=h0
  have hl2:2≤x.es.length:=hl
  have q0:x.q.getD 0 0=(gt x.es 0).q:=hq 0 (by decide)
  have q1:x.q.getD 1 0=(gt x.es 1).q:=hq 1 (by decide)
  refine cK (φ:=bW (gt x.es 0) u) (Hv.lel (r:=x) (k:=u) aA ⟨by omega,by omega⟩) ?_
  refine cK (φ:=bW (gt x.es 1) u) (Hv.lel (r:=x) (k:=u) aA ⟨by omega,by omega⟩) ?_
  refine cK (φ:=aU [e1,e0,gt x.es 0] u) (Hv.three aA aA aA) ?_
  refine cK (φ:=aU [e0,e1,gt x.es 1] u) (Hv.three aA aA aA) ?_
  repeat refine aB ?_
  refine nJ (fun G M I=>∃(ba bb bc:Nat) (r1:RL) (r2:RL),[r1.q,r2.q,[0,0,1]]=frm 0 x.q∧r1.es.length=3∧r2.es.length=3∧G=[(4, .slice (some ⟨bc,0,none⟩) 3 3)]∧M= .blk bc (recs eL [r1,r2,l3 b7 e0 e0 e1]) 70::M0∧I=iQ r2 u::iQ r1 u::iQ (l3 b7 e0 e0 e1) u::I0) ?_ ?_
  ·((repeat refine aG ?_);refine pV (.blk b6 (eR e1) 77:: .blk b5 (eR e0) 77::M0) (aU [e0,e1,gt x.es 1] u::aU [e1,e0,gt x.es 0] u::bW (gt x.es 0) u::bW (gt x.es 1) u::iQ (l3 b7 e0 e0 e1) u::bW e1 u::bW e0 u::iQ x u::aH x.p (recs eR x.es)::I0) mixed ?_)
   refine dM (fuel:=4) (listed':=#[true,true,true,true,true,false,true,true,true,true,true,false,true,false,false]) [0,1,2,3,4,6,7,8,9,10,12] [2,2,3,3,2,2,2,3,3,2,2] aF aD (by kernel_rfl) (by kernel_rfl) rfl rfl ?_
   repeat refine aB ?_
   refine bB (fuel:=3) (i:=5) (j:=11) (by kernel_rfl) ?_ ?_
   ·(refine gX (cs:=recs eR [e1,e0,gt x.es 0]) ([rv e1,rv e0,rv (gt x.es 0)]) rfl (fun ba=>?_);refine nM (k:=u) aA ?_)
    refine bK ?_
    refine bL [11,13,14] [0,0,0] aF aD (by kernel_rfl) (by kernel_rfl) rfl rfl ?_
    repeat refine aB ?_
    (refine gX (cs:=recs eR [e0,e1,gt x.es 1]) ([rv e0,rv e1,rv (gt x.es 1)]) rfl (fun bb=>?_);refine nM (k:=u) aA ?_)
    repeat refine aB ?_
    refine gX (cs:=recs eL [l3 ba e1 e0 (gt x.es 0),l3 bb e0 e1 (gt x.es 1),l3 b7 e0 e0 e1]) ([lv (l3 ba e1 e0 (gt x.es 0)),lv (l3 bb e0 e1 (gt x.es 1)),lv (l3 b7 e0 e0 e1)]) rfl (fun bc=>?_)
    repeat refine aB ?_
    (refine yA ⟨ba,bb,bc,l3 ba e1 e0 (gt x.es 0),l3 bb e0 e1 (gt x.es 1),by show [[e1.q,e0.q,(gt x.es 0).q],[e0.q,e1.q,(gt x.es 1).q],[0,0,1]]=_;unfold frm;rw [if_pos rfl];simp only [he0,he1,q0,q1];rfl,rfl,rfl,rfl,rfl,rfl⟩)
   ·(refine gX (cs:=recs eR [e0,e1,gt x.es 1]) ([rv e0,rv e1,rv (gt x.es 1)]) rfl (fun bb=>?_);refine nM (k:=u) aA ?_)
    refine bK ?_
    refine bL [5,13,14] [0,0,0] aF aD (by kernel_rfl) (by kernel_rfl) rfl rfl ?_
    repeat refine aB ?_
    (refine gX (cs:=recs eR [e1,e0,gt x.es 0]) ([rv e1,rv e0,rv (gt x.es 0)]) rfl (fun ba=>?_);refine nM (k:=u) aA ?_)
    repeat refine aB ?_
    refine gX (cs:=recs eL [l3 ba e1 e0 (gt x.es 0),l3 bb e0 e1 (gt x.es 1),l3 b7 e0 e0 e1]) ([lv (l3 ba e1 e0 (gt x.es 0)),lv (l3 bb e0 e1 (gt x.es 1)),lv (l3 b7 e0 e0 e1)]) rfl (fun bc=>?_)
    repeat refine aB ?_
    (refine yA ⟨ba,bb,bc,l3 ba e1 e0 (gt x.es 0),l3 bb e0 e1 (gt x.es 1),by show [[e1.q,e0.q,(gt x.es 0).q],[e0.q,e1.q,(gt x.es 1).q],[0,0,1]]=_;unfold frm;rw [if_pos rfl];simp only [he0,he1,q0,q1];rfl,rfl,rfl,rfl,rfl,rfl⟩)
  rintro G M I ⟨ba,bb,bc,r1,r2,hqq,hl1,hl2',rfl,rfl,rfl⟩
  refine bH (φ:=dX [r1,r2,l3 b7 e0 e0 e1] u) (Hv.threeL aA aA aA) ?_
  refine aAJ (C:=3) rfl (by omega) aA ?_
  repeat refine aB ?_
  refine fB (M':=M0) (I':=iB ⟨some ⟨bc,0,none⟩,3,[r1,r2,l3 b7 e0 e0 e1]⟩ u::I0) aF aD ?_
  refine aP (by first|exact .inl rfl|exact .inr rfl) rfl rfl _ _ aF aD (⟨rfl,⟨some ⟨bc,0,none⟩,3,[r1,r2,l3 b7 e0 e0 e1]⟩,rfl,by rw [←hqq];show [r1.q,r2.q,[e0.q,e0.q,e1.q]]=_;rw [he0,he1];rfl,⟨rfl,fun r hr=>by
   simp only [List.mem_cons,List.not_mem_nil,or_false] at hr
   rcases hr with rfl|rfl|rfl
   ·exact hl1
   ·exact hl2'
   ·rfl⟩,rfl⟩)
 ·obtain rfl:kd=1:=h0
  have hl2:4≤x.es.length:=hl
  have q0:x.q.getD 0 0=(gt x.es 0).q:=hq 0 (by decide)
  have q1:x.q.getD 1 0=(gt x.es 1).q:=hq 1 (by decide)
  have q2:x.q.getD 2 0=(gt x.es 2).q:=hq 2 (by decide)
  have q3:x.q.getD 3 0=(gt x.es 3).q:=hq 3 (by decide)
  refine cK (φ:=bW (gt x.es 0) u) (Hv.lel (r:=x) (k:=u) aA ⟨by omega,by omega⟩) ?_
  refine cK (φ:=bW (gt x.es 1) u) (Hv.lel (r:=x) (k:=u) aA ⟨by omega,by omega⟩) ?_
  refine cK (φ:=bW (gt x.es 2) u) (Hv.lel (r:=x) (k:=u) aA ⟨by omega,by omega⟩) ?_
  refine cK (φ:=bW (gt x.es 3) u) (Hv.lel (r:=x) (k:=u) aA ⟨by omega,by omega⟩) ?_
  have hN:=fun M0 I0 h=>zP (X:=X) (w0:=w0) (M0:=M0) (I0:=I0) (e:=gt x.es 1) (k:=u) (by omega) h
  refine cK (φ:=aU [gt x.es 1,gt x.es 0,gt x.es 3] u) (Hv.three aA aA aA) ?_
  repeat refine aB ?_
  refine nJ (fun G M I=>∃(ba bb bc:Nat) (r1:RL) (r2:RL),[r1.q,r2.q,[0,0,1]]=frm 1 x.q∧r1.es.length=3∧r2.es.length=3∧G=[(4, .slice (some ⟨bc,0,none⟩) 3 3)]∧M= .blk bc (recs eL [r1,r2,l3 b7 e0 e0 e1]) 70::M0∧I=iQ r2 u::iQ r1 u::iQ (l3 b7 e0 e0 e1) u::I0) ?_ ?_
  ·((repeat refine aG ?_);refine pV (.blk b6 (eR e1) 77:: .blk b5 (eR e0) 77::M0) (aU [gt x.es 1,gt x.es 0,gt x.es 3] u::bW (gt x.es 0) u::bW (gt x.es 1) u::bW (gt x.es 2) u::bW (gt x.es 3) u::iQ (l3 b7 e0 e0 e1) u::bW e1 u::bW e0 u::iQ x u::aH x.p (recs eR x.es)::I0) mixed ?_)
   refine dM (fuel:=5) (listed':=#[true,true,true,true,true,true,false,true,true,true,false,true,true,true,true,true,true,true,true,true,false,true,false,false]) [0,1,2,3,4,5,7,8,9,11,12,13,14,15,16,17,18,19,21] [4,4,3,4,4,3,4,4,3,4,4,3,4,4,3,4,4,3,3] aF aD (by kernel_rfl) (by kernel_rfl) rfl rfl ?_
   repeat refine aB ?_
   refine bB (fuel:=4) (i:=6) (j:=20) (by kernel_rfl) ?_ ?_
   ·((refine aQ rfl (hN _ _ (Hv.mem aA)) ?_;rintro _ _ _ ⟨rfl,yn,rfl,hyn,rfl⟩;refine aL ?_);refine cK (φ:=aU [gt x.es 0,yn,gt x.es 2] u) (Hv.three aA aA aA) ?_)
    refine bK ?_
    repeat refine aB ?_
    refine bB (fuel:=3) (i:=10) (j:=20) (by kernel_rfl) ?_ ?_
    ·(refine gX (cs:=recs eR [gt x.es 0,yn,gt x.es 2]) ([rv (gt x.es 0),rv yn,rv (gt x.es 2)]) rfl (fun ba=>?_);refine nM (k:=u) aA ?_)
     refine bK ?_
     refine bL [20,22,23] [0,0,0] aF aD (by kernel_rfl) (by kernel_rfl) rfl rfl ?_
     repeat refine aB ?_
     (refine gX (cs:=recs eR [gt x.es 1,gt x.es 0,gt x.es 3]) ([rv (gt x.es 1),rv (gt x.es 0),rv (gt x.es 3)]) rfl (fun bb=>?_);refine nM (k:=u) aA ?_)
     repeat refine aB ?_
     refine gX (cs:=recs eL [l3 ba (gt x.es 0) yn (gt x.es 2),l3 bb (gt x.es 1) (gt x.es 0) (gt x.es 3),l3 b7 e0 e0 e1]) ([lv (l3 ba (gt x.es 0) yn (gt x.es 2)),lv (l3 bb (gt x.es 1) (gt x.es 0) (gt x.es 3)),lv (l3 b7 e0 e0 e1)]) rfl (fun bc=>?_)
     repeat refine aB ?_
     (refine yA ⟨ba,bb,bc,l3 ba (gt x.es 0) yn (gt x.es 2),l3 bb (gt x.es 1) (gt x.es 0) (gt x.es 3),by show [[(gt x.es 0).q,yn.q,(gt x.es 2).q],[(gt x.es 1).q,(gt x.es 0).q,(gt x.es 3).q],[0,0,1]]=_;unfold frm;rw [if_neg (by decide),if_pos rfl];simp only [he0,he1,q0,q1,q2,q3,hyn],rfl,rfl,rfl,rfl,rfl⟩)
    ·(refine gX (cs:=recs eR [gt x.es 1,gt x.es 0,gt x.es 3]) ([rv (gt x.es 1),rv (gt x.es 0),rv (gt x.es 3)]) rfl (fun bb=>?_);refine nM (k:=u) aA ?_)
     refine bK ?_
     refine bL [10,22,23] [0,0,0] aF aD (by kernel_rfl) (by kernel_rfl) rfl rfl ?_
     repeat refine aB ?_
     (refine gX (cs:=recs eR [gt x.es 0,yn,gt x.es 2]) ([rv (gt x.es 0),rv yn,rv (gt x.es 2)]) rfl (fun ba=>?_);refine nM (k:=u) aA ?_)
     repeat refine aB ?_
     refine gX (cs:=recs eL [l3 ba (gt x.es 0) yn (gt x.es 2),l3 bb (gt x.es 1) (gt x.es 0) (gt x.es 3),l3 b7 e0 e0 e1]) ([lv (l3 ba (gt x.es 0) yn (gt x.es 2)),lv (l3 bb (gt x.es 1) (gt x.es 0) (gt x.es 3)),lv (l3 b7 e0 e0 e1)]) rfl (fun bc=>?_)
     repeat refine aB ?_
     (refine yA ⟨ba,bb,bc,l3 ba (gt x.es 0) yn (gt x.es 2),l3 bb (gt x.es 1) (gt x.es 0) (gt x.es 3),by show [[(gt x.es 0).q,yn.q,(gt x.es 2).q],[(gt x.es 1).q,(gt x.es 0).q,(gt x.es 3).q],[0,0,1]]=_;unfold frm;rw [if_neg (by decide),if_pos rfl];simp only [he0,he1,q0,q1,q2,q3,hyn],rfl,rfl,rfl,rfl,rfl⟩)
   ·(refine gX (cs:=recs eR [gt x.es 1,gt x.es 0,gt x.es 3]) ([rv (gt x.es 1),rv (gt x.es 0),rv (gt x.es 3)]) rfl (fun bb=>?_);refine nM (k:=u) aA ?_)
    refine bK ?_
    refine bL [6,10,22,23] [0,0,0,0] aF aD (by kernel_rfl) (by kernel_rfl) rfl rfl ?_
    repeat refine aB ?_
    ((refine aQ rfl (hN _ _ (Hv.mem aA)) ?_;rintro _ _ _ ⟨rfl,yn,rfl,hyn,rfl⟩;refine aL ?_);refine cK (φ:=aU [gt x.es 0,yn,gt x.es 2] u) (Hv.three aA aA aA) ?_)
    repeat refine aB ?_
    (refine gX (cs:=recs eR [gt x.es 0,yn,gt x.es 2]) ([rv (gt x.es 0),rv yn,rv (gt x.es 2)]) rfl (fun ba=>?_);refine nM (k:=u) aA ?_)
    repeat refine aB ?_
    refine gX (cs:=recs eL [l3 ba (gt x.es 0) yn (gt x.es 2),l3 bb (gt x.es 1) (gt x.es 0) (gt x.es 3),l3 b7 e0 e0 e1]) ([lv (l3 ba (gt x.es 0) yn (gt x.es 2)),lv (l3 bb (gt x.es 1) (gt x.es 0) (gt x.es 3)),lv (l3 b7 e0 e0 e1)]) rfl (fun bc=>?_)
    repeat refine aB ?_
    (refine yA ⟨ba,bb,bc,l3 ba (gt x.es 0) yn (gt x.es 2),l3 bb (gt x.es 1) (gt x.es 0) (gt x.es 3),by show [[(gt x.es 0).q,yn.q,(gt x.es 2).q],[(gt x.es 1).q,(gt x.es 0).q,(gt x.es 3).q],[0,0,1]]=_;unfold frm;rw [if_neg (by decide),if_pos rfl];simp only [he0,he1,q0,q1,q2,q3,hyn],rfl,rfl,rfl,rfl,rfl⟩)
  rintro G M I ⟨ba,bb,bc,r1,r2,hqq,hl1,hl2',rfl,rfl,rfl⟩
  refine bH (φ:=dX [r1,r2,l3 b7 e0 e0 e1] u) (Hv.threeL aA aA aA) ?_
  refine aAJ (C:=3) rfl (by omega) aA ?_
  repeat refine aB ?_
  refine fB (M':=M0) (I':=iB ⟨some ⟨bc,0,none⟩,3,[r1,r2,l3 b7 e0 e0 e1]⟩ u::I0) aF aD ?_
  refine aP (by first|exact .inl rfl|exact .inr rfl) rfl rfl _ _ aF aD (⟨rfl,⟨some ⟨bc,0,none⟩,3,[r1,r2,l3 b7 e0 e0 e1]⟩,rfl,by rw [←hqq];show [r1.q,r2.q,[e0.q,e0.q,e1.q]]=_;rw [he0,he1];rfl,⟨rfl,fun r hr=>by
   simp only [List.mem_cons,List.not_mem_nil,or_false] at hr
   rcases hr with rfl|rfl|rfl
   ·exact hl1
   ·exact hl2'
   ·rfl⟩,rfl⟩)
 ·obtain rfl:kd=2:=h0
  have hl2:6≤x.es.length:=hl
  have q0:x.q.getD 0 0=(gt x.es 0).q:=hq 0 (by decide)
  have q1:x.q.getD 1 0=(gt x.es 1).q:=hq 1 (by decide)
  have q2:x.q.getD 2 0=(gt x.es 2).q:=hq 2 (by decide)
  have q3:x.q.getD 3 0=(gt x.es 3).q:=hq 3 (by decide)
  have q4:x.q.getD 4 0=(gt x.es 4).q:=hq 4 (by decide)
  have q5:x.q.getD 5 0=(gt x.es 5).q:=hq 5 (by decide)
  refine cK (φ:=bW (gt x.es 0) u) (Hv.lel (r:=x) (k:=u) aA ⟨by omega,by omega⟩) ?_
  refine cK (φ:=bW (gt x.es 1) u) (Hv.lel (r:=x) (k:=u) aA ⟨by omega,by omega⟩) ?_
  refine cK (φ:=bW (gt x.es 2) u) (Hv.lel (r:=x) (k:=u) aA ⟨by omega,by omega⟩) ?_
  refine cK (φ:=bW (gt x.es 3) u) (Hv.lel (r:=x) (k:=u) aA ⟨by omega,by omega⟩) ?_
  refine cK (φ:=bW (gt x.es 4) u) (Hv.lel (r:=x) (k:=u) aA ⟨by omega,by omega⟩) ?_
  refine cK (φ:=bW (gt x.es 5) u) (Hv.lel (r:=x) (k:=u) aA ⟨by omega,by omega⟩) ?_
  refine cK (φ:=aU [gt x.es 0,gt x.es 1,gt x.es 2] u) (Hv.three aA aA aA) ?_
  refine cK (φ:=aU [gt x.es 3,gt x.es 4,gt x.es 5] u) (Hv.three aA aA aA) ?_
  repeat refine aB ?_
  refine nJ (fun G M I=>∃(ba bb bc:Nat) (r1:RL) (r2:RL),[r1.q,r2.q,[0,0,1]]=frm 2 x.q∧r1.es.length=3∧r2.es.length=3∧G=[(4, .slice (some ⟨bc,0,none⟩) 3 3)]∧M= .blk bc (recs eL [r1,r2,l3 b7 e0 e0 e1]) 70::M0∧I=iQ r2 u::iQ r1 u::iQ (l3 b7 e0 e0 e1) u::I0) ?_ ?_
  ·((repeat refine aG ?_);refine pV (.blk b6 (eR e1) 77:: .blk b5 (eR e0) 77::M0) (aU [gt x.es 3,gt x.es 4,gt x.es 5] u::aU [gt x.es 0,gt x.es 1,gt x.es 2] u::bW (gt x.es 0) u::bW (gt x.es 1) u::bW (gt x.es 2) u::bW (gt x.es 3) u::bW (gt x.es 4) u::bW (gt x.es 5) u::iQ (l3 b7 e0 e0 e1) u::bW e1 u::bW e0 u::iQ x u::aH x.p (recs eR x.es)::I0) mixed ?_)
   refine dM (fuel:=4) (listed':=#[true,true,true,true,true,true,true,true,true,false,true,true,true,true,true,true,true,true,true,false,true,false,false]) [0,1,2,3,4,5,6,7,8,10,11,12,13,14,15,16,17,18,20] [3,3,2,3,3,2,3,3,2,3,3,2,3,3,2,3,3,2,2] aF aD (by kernel_rfl) (by kernel_rfl) rfl rfl ?_
   repeat refine aB ?_
   refine bB (fuel:=3) (i:=9) (j:=19) (by kernel_rfl) ?_ ?_
   ·(refine gX (cs:=recs eR [gt x.es 0,gt x.es 1,gt x.es 2]) ([rv (gt x.es 0),rv (gt x.es 1),rv (gt x.es 2)]) rfl (fun ba=>?_);refine nM (k:=u) aA ?_)
    refine bK ?_
    refine bL [19,21,22] [0,0,0] aF aD (by kernel_rfl) (by kernel_rfl) rfl rfl ?_
    repeat refine aB ?_
    (refine gX (cs:=recs eR [gt x.es 3,gt x.es 4,gt x.es 5]) ([rv (gt x.es 3),rv (gt x.es 4),rv (gt x.es 5)]) rfl (fun bb=>?_);refine nM (k:=u) aA ?_)
    repeat refine aB ?_
    refine gX (cs:=recs eL [l3 ba (gt x.es 0) (gt x.es 1) (gt x.es 2),l3 bb (gt x.es 3) (gt x.es 4) (gt x.es 5),l3 b7 e0 e0 e1]) ([lv (l3 ba (gt x.es 0) (gt x.es 1) (gt x.es 2)),lv (l3 bb (gt x.es 3) (gt x.es 4) (gt x.es 5)),lv (l3 b7 e0 e0 e1)]) rfl (fun bc=>?_)
    repeat refine aB ?_
    (refine yA ⟨ba,bb,bc,l3 ba (gt x.es 0) (gt x.es 1) (gt x.es 2),l3 bb (gt x.es 3) (gt x.es 4) (gt x.es 5),by show [[(gt x.es 0).q,(gt x.es 1).q,(gt x.es 2).q],[(gt x.es 3).q,(gt x.es 4).q,(gt x.es 5).q],[0,0,1]]=_;unfold frm;rw [if_neg (by decide),if_neg (by decide)];simp only [he0,he1,q0,q1,q2,q3,q4,q5],rfl,rfl,rfl,rfl,rfl⟩)
   ·(refine gX (cs:=recs eR [gt x.es 3,gt x.es 4,gt x.es 5]) ([rv (gt x.es 3),rv (gt x.es 4),rv (gt x.es 5)]) rfl (fun bb=>?_);refine nM (k:=u) aA ?_)
    refine bK ?_
    refine bL [9,21,22] [0,0,0] aF aD (by kernel_rfl) (by kernel_rfl) rfl rfl ?_
    repeat refine aB ?_
    (refine gX (cs:=recs eR [gt x.es 0,gt x.es 1,gt x.es 2]) ([rv (gt x.es 0),rv (gt x.es 1),rv (gt x.es 2)]) rfl (fun ba=>?_);refine nM (k:=u) aA ?_)
    repeat refine aB ?_
    refine gX (cs:=recs eL [l3 ba (gt x.es 0) (gt x.es 1) (gt x.es 2),l3 bb (gt x.es 3) (gt x.es 4) (gt x.es 5),l3 b7 e0 e0 e1]) ([lv (l3 ba (gt x.es 0) (gt x.es 1) (gt x.es 2)),lv (l3 bb (gt x.es 3) (gt x.es 4) (gt x.es 5)),lv (l3 b7 e0 e0 e1)]) rfl (fun bc=>?_)
    repeat refine aB ?_
    (refine yA ⟨ba,bb,bc,l3 ba (gt x.es 0) (gt x.es 1) (gt x.es 2),l3 bb (gt x.es 3) (gt x.es 4) (gt x.es 5),by show [[(gt x.es 0).q,(gt x.es 1).q,(gt x.es 2).q],[(gt x.es 3).q,(gt x.es 4).q,(gt x.es 5).q],[0,0,1]]=_;unfold frm;rw [if_neg (by decide),if_neg (by decide)];simp only [he0,he1,q0,q1,q2,q3,q4,q5],rfl,rfl,rfl,rfl,rfl⟩)
  rintro G M I ⟨ba,bb,bc,r1,r2,hqq,hl1,hl2',rfl,rfl,rfl⟩
  refine bH (φ:=dX [r1,r2,l3 b7 e0 e0 e1] u) (Hv.threeL aA aA aA) ?_
  refine aAJ (C:=3) rfl (by omega) aA ?_
  repeat refine aB ?_
  refine fB (M':=M0) (I':=iB ⟨some ⟨bc,0,none⟩,3,[r1,r2,l3 b7 e0 e0 e1]⟩ u::I0) aF aD ?_
  refine aP (by first|exact .inl rfl|exact .inr rfl) rfl rfl _ _ aF aD (⟨rfl,⟨some ⟨bc,0,none⟩,3,[r1,r2,l3 b7 e0 e0 e1]⟩,rfl,by rw [←hqq];show [r1.q,r2.q,[e0.q,e0.q,e1.q]]=_;rw [he0,he1];rfl,⟨rfl,fun r hr=>by
   simp only [List.mem_cons,List.not_mem_nil,or_false] at hr
   rcases hr with rfl|rfl|rfl
   ·exact hl1
   ·exact hl2'
   ·rfl⟩,rfl⟩)
end
end Go.Proofs.YtmmmfphealhapaaGreat
