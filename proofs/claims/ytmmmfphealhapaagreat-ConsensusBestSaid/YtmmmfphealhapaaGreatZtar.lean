/- consensus.Best, for any way to find the map of a sample. -/
import Derived.Test.YtmmmfphealhapaaGreatZtap
import Derived.Test.YtmmmfphealhapaaGreatZtaq
import Derived.Test.YtmmmfphealhapaaGreatZtal
import Derived.Test.YtmmmfphealhapaaGreatZtaj
import Derived.Test.YtmmmfphealhapaaGreatZtan
import Derived.Test.YtmmmfphealhapaaGreatZtam
import Derived.Test.YtmmmfphealhapaaGreatZtac
import Derived.Test.YtmmmfphealhapaaGreatZtah
set_option linter.unusedSimpArgs false
set_option linter.unusedVariables false
set_option maxRecDepth 100000
set_option maxHeartbeats 4000000
namespace Go.Proofs.YtmmmfphealhapaaGreat
open Go Go.Fx
structure BF where
 kd:Int
 ps:Option Addr
 cs:Nat
 smp:List Int
 pi:Option Addr
 ci:Nat
 inl:List Int
 m:MX
abbrev eBF (f:BF):List Value:=[.int .i64 f.kd, .slice f.ps f.smp.length f.cs, .slice f.pi f.inl.length f.ci, .slice f.m.p f.m.rows.length f.m.c]
abbrev enB (b:Nat) (f:BF):Ent:= .blk b (eBF f) 36
abbrev zBF:BF:=⟨0,none,0,[],none,0,[],⟨none,0,[]⟩⟩
abbrev zF4:List Value:=[.int .i64 0, .slice none 0 0, .slice none 0 0, .slice none 0 0]
structure IsBF (f:BF) (X:List Nat) (w:World):Prop where
 s:SlI f.ps (recs eZ f.smp) X w
 i:SlI f.pi (recs eZ f.inl) X w
 m:IsX f.m kX X w
instance (f:BF):Fx.Good (IsBF f):=⟨fun X Y w w' h he hY=>⟨Fx.Good.go (φ:=SlI _ _) X Y w w' h.s he hY,Fx.Good.go (φ:=SlI _ _) X Y w w' h.i he hY,Fx.Good.go (φ:=IsX _ _) X Y w w' h.m he hY⟩⟩
theorem Hv.mkBF {I:List aL} {f:BF} (h1:aI f.ps (recs eZ f.smp)∈I) (h2:aI f.pi (recs eZ f.inl)∈I) (h3:gI f.m kX∈I):Hv I (IsBF f):=⟨fun X w hw=>⟨hw _ h1,hw _ h2,hw _ h3⟩⟩
theorem Hv.bfS {I:List aL} {f:BF} (h:IsBF f∈I):Hv I (aI f.ps (recs eZ f.smp)):=⟨fun X w hw=>(hw _ h:IsBF f X w).s⟩
theorem Hv.bfI {I:List aL} {f:BF} (h:IsBF f∈I):Hv I (aI f.pi (recs eZ f.inl)):=⟨fun X w hw=>(hw _ h:IsBF f X w).i⟩
theorem Hv.bfM {I:List aL} {f:BF} (h:IsBF f∈I):Hv I (gI f.m kX):=⟨fun X w hw=>(hw _ h:IsBF f X w).m⟩
theorem Hv.zBF {I:List aL}:Hv I (IsBF zBF):=⟨fun X w _=>⟨⟨fun j v hj=>by simp [Go.Proofs.YtmmmfphealhapaaGreat.zBF,recs] at hj⟩,⟨fun j v hj=>by simp [Go.Proofs.YtmmmfphealhapaaGreat.zBF,recs] at hj⟩,⟨fun j v hj=>by simp [Go.Proofs.YtmmmfphealhapaaGreat.zBF,recs] at hj,fun r hr=>by simp [Go.Proofs.YtmmmfphealhapaaGreat.zBF] at hr,⟨Nat.le_refl _, .inr ⟨rfl,rfl⟩⟩⟩⟩⟩
def BR (mdl:List Int→Option Mt) (inl:Mt→List Int) (kd:Int) (vis:List (List Int)) (f:BF):Prop:=
 match nC mdl inl vis with
 |none=>f=zBF
 |some g=>f.kd=kd∧f.smp=g.1∧f.inl=g.2.1∧f.m.q=g.2.2∧f.m.dim 3 3∧f.m.p≠none
theorem Mem.xptr {X:List Nat} {w0 w:World} {M:List Ent} {I:List aL} {m:MX} {k:Nat} (hm:gI m k∈I) (h0:m.rows.length≠0) (h:Mem X w0 M I w):m.p≠none:=fun e=>by
 have hx:IsX m k (muts M) w:=(h.imm _ hm).2
 rcases hx.cap.2 with h1|h1
 ·obtain ⟨b,o,e2⟩:=h1.cases;rw [e] at e2;cases e2
 ·exact h0 h1.1
def vG (x:Int) (l:List Q4) (tol:Int):Int:=if pK x l=0 then (if tolP tol then 0 else 2) else pK x l
section
variable {X:List Nat} {w0:World} {M0 M1 M2:List Ent} {I0:List aL}
theorem aFJ {q:Option Addr} {a:List Int} {c n:Nat} (hl:a.length=n) (hn:1≤n∧n≤100):
  CD Tryz.prog 46 [.slice q n c] X w0 (.row q n c (recs eZ a) 3 1::M1) I0 (fun v M I=>I0=I∧∃(q':Option Addr) (c':Nat),v= .slice q' n c'∧M= .row q' n c' (recs eZ a) 3 1:: .row q n c (recs eZ a) 3 1::M1):=by
 subst hl
 refine aR Tryz.func46 rfl Tryz.ntmps46 rfl ?_
 repeat refine aB ?_
 refine nQ (φ:=∃b,q=some ⟨b,0,none⟩∧a.length≤c) (fun w hw=>Mem.rowA hw (List.Mem.head _) (by omega)) (fun hb=>?_)
 obtain ⟨b,rfl,hc3⟩:=hb
 refine aD rfl (fun _=>oD rfl) rfl rfl ?_
 repeat refine aB ?_
 refine gK (cs:=recs eZ []) ([]) rfl (fun b1=>?_)
 repeat refine aB ?_
 refine fM (mm:=0) 1 jJ rfl (by omega) ?_
 refine iB (xs:=[]) (ys:=a) 0 rfl rfl rfl (Src.row aA) (by decide) rfl (by simp;omega) (by simp;omega) rfl rfl ?_
 intro a2 c2
 refine aN ?_
 repeat refine aB ?_
 refine aU (by first|exact .inl rfl|exact .inr rfl) rfl rfl _ _ aF aC (⟨rfl,a2,c2,by simp,by simp⟩)
theorem aXW {kd tol:Int} {b3 b4 b5 bb n c size:Nat} {q:Option Addr} {l:List Q4} {mdl:List Int→Option Mt} (hl:l.length=n) (hn:n≤64) (hsz:1≤size∧size≤8) (hs:∀s∈l,s.near) (ht:0≤tol∧tol≤1073741824)
  (f3:aI (some ⟨b3,0,none⟩) [.int .i64 kd]∈I0) (f4:aI (some ⟨b4,0,none⟩) [.slice q n c]∈I0) (f5:aI (some ⟨b5,0,none⟩) [.int .i64 tol]∈I0) (hq:aI q (recs gX l)∈I0)
  {vis:List (List Int)} {f:BF} {smp:List Int} {qs:Option Addr} {cs:Nat}
  (hM:∀M0 I0,aI q (recs gX l)∈I0→CD Tryz.prog 44 [.int .i64 kd, .slice q n c, .slice qs size cs] X w0 (.row qs size cs (recs eZ smp) 3 1::M0) I0 (aFX (mdl smp) kX (.row qs size cs (recs eZ smp) 3 1::M0) I0))
  (hR:BR mdl (fun A=>iJ A l tol) kd vis f) (hsm:SmpP n size 0 smp):
  CD Tryz.prog 43 [.slice qs size cs, .pointer (some ⟨b3,0,none⟩), .pointer (some ⟨b4,0,none⟩), .pointer (some ⟨b5,0,none⟩), .pointer (some ⟨bb,0,none⟩)] X w0 (.row qs size cs (recs eZ smp) 3 1::enB bb f::M2) (IsBF f::I0)
   (fun _ M I=>∃f',BR mdl (fun A=>iJ A l tol) kd (vis++[smp]) f'∧M= .row qs size cs (recs eZ smp) 3 1::enB bb f'::M2∧I=IsBF f'::I0):=by
 have hsl:smp.length=size:=hsm.len
 subst hsl
 refine aZX Tryz.func43 rfl Tryz.ntmps43 rfl ?_
 repeat refine aB ?_
 cases hm:mdl smp with
 |none=>
  rw [hm] at hM
  have hR2:BR mdl (fun A=>iJ A l tol) kd (vis++[smp]) f:=by
   unfold BR at hR ⊢
   rw [sH]
   unfold aEA
   rw [hm]
   exact hR
  (refine bD rfl (hM _ _ aA) ?_;rintro _ _ _ ⟨rfl,rfl,u,rfl⟩;refine aN ?_)
  repeat refine aB ?_
  refine jH (by first|exact .inl rfl|exact .inr rfl) rfl _ _ aF aC (⟨f,hR2,rfl,rfl⟩)
 |some A=>
  rw [hm] at hM
  (refine bD rfl (hM _ _ aA) ?_;rintro _ _ _ ⟨rfl,m,rfl,hmq,hmd,rfl⟩;refine aN ?_)
  have hI:=fun M0 I0 h1 h2=>bAW (X:=X) (w0:=w0) (M0:=M0) (I0:=I0) (m:=m) (q:=q) (l:=l) (n:=n) (c:=c) (u:=kX) (tol:=tol) (by decide) hmd hl hn hs ht h1 h2
  rw [hmq] at hI
  obtain ⟨zs,hzs⟩:∃zs,iJ A l tol=zs:=⟨_,rfl⟩
  rw [hzs] at hI
  have hzl:zs.length≤64:=by rw [←hzs];unfold iJ;exact Nat.le_trans qW (by omega)
  have hfl:f.inl.length≤64:=by
   unfold BR at hR
   split at hR
   ·rw [hR];exact Nat.zero_le _
   ·rename_i g hg
    rw [hR.2.2.1,(aBQ hg).2.2]
    unfold iJ
    exact Nat.le_trans qW (by omega)
  refine nQ (φ:=m.p≠none) (fun w hw=>Mem.xptr (k:=kX) (List.Mem.head _) (by rw [hmd.1];decide) hw) (fun hmp=>?_)
  repeat refine aB ?_
  (refine bD rfl (hI _ _ aA aA) ?_;rintro _ _ _ ⟨rfl,qi,ci,rfl,rfl⟩;refine aN ?_)
  by_cases hbet:f.inl.length < zs.length∨nC mdl (fun A=>iJ A l tol) vis=none
  ·have hnew:∀(q':Option Addr) (c':Nat),BR mdl (fun A=>iJ A l tol) kd (vis++[smp]) ⟨kd,q',c',smp,qi,ci,zs,m⟩:=by
    intro q' c'
    have e:aEA mdl (fun A=>iJ A l tol) (nC mdl (fun A=>iJ A l tol) vis) smp=some (smp,iJ A l tol,A):=by
     unfold aEA
     rw [hm]
     cases hb:nC mdl (fun A=>iJ A l tol) vis with
     |none=>rfl
     |some g=>
      have h1:=hbet.resolve_right (by rw [hb];simp)
      unfold BR at hR
      rw [hb] at hR
      have h2:g.2.1.length < (iJ A l tol).length:=by rw [hzs,←hR.2.2.1];exact h1
      show (if g.2.1.length < (iJ A l tol).length then some (smp,iJ A l tol,A) else some g)=_
      rw [if_pos h2]
    unfold BR
    rw [sH,e]
    exact ⟨rfl,rfl,hzs.symm,hmq,hmd,hmp⟩
   have hnil:¬f.inl.length < zs.length→f.m.p=none:=fun h=>by
    have h1:=hbet.resolve_left h
    unfold BR at hR
    rw [h1] at hR
    rw [hR]
   by_cases hgt:f.inl.length < zs.length
   ·repeat refine aB ?_
    (repeat refine aG ?_);refine pW (.row qs smp.length cs (recs eZ smp) 3 1::M2) (aI qi (recs eZ zs)::gI m kX::I0) [0,1,3,4,2,5,6] [1,0,1,1,0,0,0] mixed ?_
    repeat refine aB ?_
    (refine bD rfl (aFJ rfl ⟨hsz.1,by omega⟩) ?_;rintro _ _ _ ⟨rfl,q2,c2,rfl,rfl⟩;refine aN ?_)
    refine fD .here ?_
    repeat refine aB ?_
    (refine aD rfl (fun _=>qI (vals:=[.int .i64 kd, .slice q2 smp.length c2, .slice qi zs.length ci,mv m]) (cells:=eBF ⟨kd,q2,c2,smp,qi,ci,zs,m⟩) rfl ?hpl rfl ?hz) rfl rfl ?_;(case hpl=>repeat (first|exact True.intro|refine ⟨rfl,?_⟩));(case hz=>rfl))
    repeat refine aB ?_
    refine dF (φ:=IsBF ⟨kd,q2,c2,smp,qi,ci,zs,m⟩) (Hv.mkBF aA aA aA) ?_
    refine fC (M':= .row qs smp.length cs (recs eZ smp) 3 1::enB bb ⟨kd,q2,c2,smp,qi,ci,zs,m⟩::M2) (I':=IsBF ⟨kd,q2,c2,smp,qi,ci,zs,m⟩::I0) aF aC ?_
    refine jH (by first|exact .inl rfl|exact .inr rfl) rfl _ _ aF aC (⟨_,hnew q2 c2,rfl,rfl⟩)
   ·have hp:=hnil hgt
    repeat refine aB ?_
    refine aD rfl (fun _=>oD rfl) rfl rfl ?_
    rw [hp]
    repeat refine aB ?_
    (repeat refine aG ?_);refine pW (.row qs smp.length cs (recs eZ smp) 3 1::M2) (aI qi (recs eZ zs)::gI m kX::I0) [0,1,3,4,2,5,6] [1,0,1,1,0,0,0] mixed ?_
    repeat refine aB ?_
    (refine bD rfl (aFJ rfl ⟨hsz.1,by omega⟩) ?_;rintro _ _ _ ⟨rfl,q2,c2,rfl,rfl⟩;refine aN ?_)
    refine fD .here ?_
    repeat refine aB ?_
    (refine aD rfl (fun _=>qI (vals:=[.int .i64 kd, .slice q2 smp.length c2, .slice qi zs.length ci,mv m]) (cells:=eBF ⟨kd,q2,c2,smp,qi,ci,zs,m⟩) rfl ?hpl rfl ?hz) rfl rfl ?_;(case hpl=>repeat (first|exact True.intro|refine ⟨rfl,?_⟩));(case hz=>rfl))
    repeat refine aB ?_
    refine dF (φ:=IsBF ⟨kd,q2,c2,smp,qi,ci,zs,m⟩) (Hv.mkBF aA aA aA) ?_
    refine fC (M':= .row qs smp.length cs (recs eZ smp) 3 1::enB bb ⟨kd,q2,c2,smp,qi,ci,zs,m⟩::M2) (I':=IsBF ⟨kd,q2,c2,smp,qi,ci,zs,m⟩::I0) aF aC ?_
    refine jH (by first|exact .inl rfl|exact .inr rfl) rfl _ _ aF aC (⟨_,hnew q2 c2,rfl,rfl⟩)
  ·have hgt:¬f.inl.length < zs.length:=fun h=>hbet (.inl h)
   have hnn:nC mdl (fun A=>iJ A l tol) vis≠none:=fun h=>hbet (.inr h)
   obtain ⟨g,hg⟩:∃g,nC mdl (fun A=>iJ A l tol) vis=some g:=by
    cases hb:nC mdl (fun A=>iJ A l tol) vis with
    |none=>exact absurd hb hnn
    |some g=>exact ⟨g,rfl⟩
   have hR1:=hR
   unfold BR at hR1
   rw [hg] at hR1
   have hR2:BR mdl (fun A=>iJ A l tol) kd (vis++[smp]) f:=by
    unfold BR
    rw [sH,hg]
    unfold aEA
    rw [hm]
    have h2:¬g.2.1.length < (iJ A l tol).length:=by rw [hzs,←hR1.2.2.1];exact hgt
    show match (if g.2.1.length < (iJ A l tol).length then some (smp,iJ A l tol,A) else some g) with|none=>_|some g=>_
    rw [if_neg h2]
    exact hR1
   have hp:f.m.p.isNone=false:=by
    cases hh:f.m.p with
    |none=>exact absurd hh hR1.2.2.2.2.2
    |some a=>rfl
   repeat refine aB ?_
   refine aD rfl (fun _=>oD rfl) rfl rfl ?_
   rw [hp]
   repeat refine aB ?_
   refine fC (M':= .row qs smp.length cs (recs eZ smp) 3 1::enB bb f::M2) (I':=IsBF f::I0) aF aC ?_
   refine jH (by first|exact .inl rfl|exact .inr rfl) rfl _ _ aF aC (⟨f,hR2,rfl,rfl⟩)
end
def aUV (o:Option (List Int × List Int × Mt)) (kd:Int) (M0:List Ent) (I0:List aL) (v:Value) (M:List Ent) (I:List aL):Prop:=M0=M∧match o with
 |none=>I0=I∧v= .tuple #[.agg zF4.toArray, .int .i64 6]
 |some g=>∃f:BF,v= .tuple #[.agg (eBF f).toArray, .int .i64 0]∧f.kd=kd∧f.smp=g.1∧f.inl=g.2.1∧f.m.q=g.2.2∧f.m.dim 3 3∧I=IsBF f::I0
section
variable {X:List Nat} {w0:World} {M0 M1 M2:List Ent} {I0:List aL}
theorem aUW {x tol:Int} {q:Option Addr} {l:List Q4} {n c:Nat} (hl:l.length=n) (hn:(n:Int)≤9223372036854775807) (hc:vG x l tol≠0) (hq:aI q (recs gX l)∈I0):
  CD Tryz.prog 9 [.int .i64 x, .slice q n c, .int .i64 tol] X w0 M0 I0 (fun v M I=>M0=M∧I0=I∧v= .tuple #[.agg zF4.toArray, .int .i64 (vG x l tol)]):=by
 have hK:=fun M0 I0 h=>aGU (X:=X) (w0:=w0) (M0:=M0) (I0:=I0) (x:=x) (q:=q) (l:=l) (n:=n) (c:=c) hl hn h
 have hT:=fun M0 I0=>aVO (X:=X) (w0:=w0) (M0:=M0) (I0:=I0) (t:=tol)
 refine aV (φ:=aI q (recs gX l)) (Hv.mem hq) ?_
 obtain ⟨C,hC⟩:∃C,vG x l tol=C:=⟨_,rfl⟩
 rw [hC] at hc ⊢
 unfold vG at hC
 refine iC Tryz.func9 rfl Tryz.ntmps9 rfl ?_
 refine gG ?_
 refine tyX rfl (fun b3=>?_)
 refine aH .here ?_
 (refine oI rfl rfl rfl ?_;intro b4;refine aN ?_)
 refine tyX rfl (fun b5=>?_)
 refine aH .here ?_
 refine cK (fun b6=>?_)
 by_cases h0:pK x l=0
 ·rw [h0,if_pos rfl] at hK
  rw [if_pos h0] at hC
  have ht:¬tolP tol:=fun h=>hc (by rw [←hC,if_pos h])
  rw [if_neg ht] at hC hT
  subst hC
  repeat refine aB ?_
  refine dH rfl (hK _ _ aA) ?_
  repeat refine aB ?_
  refine dH rfl (hT _ _) ?_
  repeat refine aB ?_
  (refine aD rfl (fun _=>bC (pvs:=([]).zipIdx.map (fun p=>(p.2,p.1))) (cells:=zF4) rfl rfl) rfl rfl ?_)
  repeat refine aB ?_
  refine fC (M':= .blk b6 zF4 36::M0) (I':=I0) aF aC ?_
  refine dW (rs:=[.cell 6 36, .tmp 7]) (vs:=[.agg zF4.toArray, .int .i64 2]) (.inl rfl) rfl (.cellN (cs:=zF4) inferInstance rfl aA rfl (.tmp rfl .nil)) rfl M0 I0 aF aC ⟨rfl,rfl,rfl⟩
 ·rw [if_neg h0] at hC hK
  rw [hC] at hK h0
  repeat refine aB ?_
  refine dH rfl (hK _ _ aA) ?_
  repeat refine aB ?_
  (refine aD rfl (fun _=>bC (pvs:=([]).zipIdx.map (fun p=>(p.2,p.1))) (cells:=zF4) rfl rfl) rfl rfl ?_)
  repeat refine aB ?_
  refine fC (M':= .blk b6 zF4 36::M0) (I':=I0) aF aC ?_
  refine dW (rs:=[.cell 6 36, .tmp 7]) (vs:=[.agg zF4.toArray, .int .i64 C]) (.inl rfl) rfl (.cellN (cs:=zF4) inferInstance rfl aA rfl (.tmp rfl .nil)) rfl M0 I0 aF aC ⟨rfl,rfl,rfl⟩
theorem aQT {kd:Nat} {tol:Int} {q:Option Addr} {l:List Q4} {n c:Nat} {mdl:List Int→Option Mt} (hk:kd≤3) (hl:l.length=n) (hn:n≤12) (hc:lF l=0) (ht:tolP tol) (hq:aI q (recs gX l)∈I0)
  (hM:∀(smp:List Int) (qs:Option Addr) (cs:Nat),SmpP n (kd+1) 0 smp→∀M0 I0,aI q (recs gX l)∈I0→CD Tryz.prog 44 [.int .i64 (kd:Int), .slice q n c, .slice qs (kd+1) cs] X w0 (.row qs (kd+1) cs (recs eZ smp) 3 1::M0) I0 (aFX (mdl smp) kX (.row qs (kd+1) cs (recs eZ smp) 3 1::M0) I0)):
  CD Tryz.prog 9 [.int .i64 (kd:Int), .slice q n c, .int .i64 tol] X w0 M0 I0 (aUV (nC mdl (fun A=>iJ A l tol) (cmb n (kd+1) 0)) (kd:Int) M0 I0):=by
 have hkc:pK (kd:Int) l=0:=by unfold pK;rw [if_pos hc,if_pos ⟨by omega,by omega⟩]
 have hK:=fun M0 I0 h=>aGU (X:=X) (w0:=w0) (M0:=M0) (I0:=I0) (x:=(kd:Int)) (q:=q) (l:=l) (n:=n) (c:=c) hl (by omega) h
 have hT:=fun M0 I0=>aVO (X:=X) (w0:=w0) (M0:=M0) (I0:=I0) (t:=tol)
 rw [hkc,if_pos rfl] at hK
 rw [if_pos ht] at hT
 have hs:=(aAE hc).2
 refine aV (φ:=aI q (recs gX l)) (Hv.mem hq) ?_
 refine iC Tryz.func9 rfl Tryz.ntmps9 rfl ?_
 refine gG ?_
 refine tyX rfl (fun b3=>?_)
 refine aH .here ?_
 (refine oI rfl rfl rfl ?_;intro b4;refine aN ?_)
 refine tyX rfl (fun b5=>?_)
 refine aH .here ?_
 refine cK (fun b6=>?_)
 repeat refine aB ?_
 refine dH rfl (hK _ _ aA) ?_
 repeat refine aB ?_
 refine dH rfl (hT _ _) ?_
 have e1:(kd:Int)+1=((kd+1:Nat):Int):=rfl
 rcases (show (kd:Int)=2∨(kd:Int)=3∨(¬(kd:Int)=2∧¬(kd:Int)=3) by omega) with h2|h2|⟨h2,h3⟩ <;>(
  repeat refine aB ?_
  refine cK (fun b10=>?_)
  repeat refine aB ?_
  rw [e1]
  refine bQ (φ:=IsBF zBF) Hv.zBF ?_
  refine wO (M':=enB b10 zBF:: .blk b6 zF4 36::M0) (I':=IsBF zBF::aI (some ⟨b5,0,none⟩) [.int .i64 tol]::aI (some ⟨b4,0,none⟩) [.slice q n c]::aI (some ⟨b3,0,none⟩) [.int .i64 (kd:Int)]::aI q (recs gX l)::I0) SubP.refl aC ?_
  (refine bD rfl (aOU (enB b10) IsBF (BR mdl (fun A=>iJ A l tol) (kd:Int)) (M1:= .blk b6 zF4 36::M0) (s0:=zBF) (by omega) (by omega) rfl (fun I1 hI vis s smp qs cs M2 hR hsm=>aXW hl (by omega) ⟨by omega,by omega⟩ hs ht (hI _ aA) (hI _ aA) (hI _ aA) (hI _ aA) (hM smp qs cs hsm) hR hsm)) ?_;rintro _ _ _ ⟨f,hR,rfl,rfl⟩;refine aN ?_)
  unfold BR at hR
  cases hb:nC mdl (fun A=>iJ A l tol) (cmb n (kd+1) 0) with
  |none=>
   rw [hb] at hR
   have hp:f.m.p=none:=by rw [hR]
   repeat refine aB ?_
   refine aD rfl (fun _=>oD rfl) rfl rfl ?_
   rw [hp]
   repeat refine aB ?_
   (refine aD rfl (fun _=>bC (pvs:=([]).zipIdx.map (fun p=>(p.2,p.1))) (cells:=zF4) rfl rfl) rfl rfl ?_)
   repeat refine aB ?_
   refine fC (M':= .blk b6 zF4 36::M0) (I':=I0) aF aC ?_
   refine dW (rs:=[.cell 6 36, .tmp 7]) (vs:=[.agg zF4.toArray, .int .i64 6]) (.inl rfl) rfl (.cellN (cs:=zF4) inferInstance rfl aA rfl (.tmp rfl .nil)) rfl M0 I0 aF aC ⟨rfl,rfl,rfl⟩
  |some g=>
   rw [hb] at hR
   have hp:f.m.p.isNone=false:=by
    cases hh:f.m.p with
    |none=>exact absurd hh hR.2.2.2.2.2
    |some a=>rfl
   repeat refine aB ?_
   refine aD rfl (fun _=>oD rfl) rfl rfl ?_
   rw [hp]
   repeat refine aB ?_
   refine fC (M':= .blk b6 (eBF f) 36::M0) (I':=IsBF f::I0) aF aC ?_
   refine dW (rs:=[.cell 6 36, .tmp 7]) (vs:=[.agg (eBF f).toArray, .int .i64 0]) (.inl rfl) rfl (.cellN (cs:=eBF f) inferInstance rfl aA rfl (.tmp rfl .nil)) rfl M0 (IsBF f::I0) aF aC ⟨rfl,f,rfl,hR.1,hR.2.1,hR.2.2.1,hR.2.2.2.1,hR.2.2.2.2.1,rfl⟩)
end
def exQ:List Q4:=[⟨0,0,5,5⟩,⟨10,0,15,5⟩,⟨0,10,5,16⟩,⟨3,3,90,1⟩]
instance lexL.dec (X Y x y:Int):Decidable (lexL X Y x y):=inferInstanceAs (Decidable (X < x∨(X=x∧Y≤y)))
theorem bAU:BestD (rQ exQ) 1 5 6 3:=⟨by decide,by decide,by decide,by decide,by decide⟩
theorem bCK:(nC (fun s=>qQ 0 (bM exQ s)) (fun A=>iJ A exQ 1) (cmb 4 1 0)).map (fun g=>(g.1,g.2.1))=some ([0],[0,1,2]):=by decide+kernel
theorem aOW:lF exQ=0:=by decide
section
variable {X:List Nat} {w0:World} {M0 M1 M2:List Ent} {I0:List aL}
theorem aFD:CD Tryz.prog 65 [] X w0 M0 I0 (fun v M I=>M0=M∧∃b:Nat,v= .slice (some ⟨b,0,none⟩) 4 4∧I=aI (some ⟨b,0,none⟩) (recs gX exQ)::I0):=by
 refine aRN Tryz.func65 rfl Tryz.ntmps65 rfl ?_
 repeat refine aB ?_
 (refine aD rfl (fun _=>bC (pvs:=([.int .i64 5, .int .i64 5]).zipIdx.map (fun p=>(p.2,p.1))) (cells:=[.int .i64 5, .int .i64 5]) rfl rfl) rfl rfl ?_)
 (refine aD rfl (fun _=>bC (pvs:=[(1, .agg #[.int .i64 5, .int .i64 5])]) (cells:=[.int .i64 0, .int .i64 0, .int .i64 5, .int .i64 5]) rfl rfl) rfl rfl ?_)
 (refine aD rfl (fun _=>bC (pvs:=[(0, .int .i64 10)]) (cells:=[.int .i64 10, .int .i64 0]) rfl rfl) rfl rfl ?_)
 (refine aD rfl (fun _=>bC (pvs:=([.int .i64 15, .int .i64 5]).zipIdx.map (fun p=>(p.2,p.1))) (cells:=[.int .i64 15, .int .i64 5]) rfl rfl) rfl rfl ?_)
 (refine aD rfl (fun _=>bC (pvs:=[(0, .agg #[.int .i64 10, .int .i64 0]),(1, .agg #[.int .i64 15, .int .i64 5])]) (cells:=[.int .i64 10, .int .i64 0, .int .i64 15, .int .i64 5]) rfl rfl) rfl rfl ?_)
 (refine aD rfl (fun _=>bC (pvs:=[(1, .int .i64 10)]) (cells:=[.int .i64 0, .int .i64 10]) rfl rfl) rfl rfl ?_)
 (refine aD rfl (fun _=>bC (pvs:=([.int .i64 5, .int .i64 16]).zipIdx.map (fun p=>(p.2,p.1))) (cells:=[.int .i64 5, .int .i64 16]) rfl rfl) rfl rfl ?_)
 (refine aD rfl (fun _=>bC (pvs:=[(0, .agg #[.int .i64 0, .int .i64 10]),(1, .agg #[.int .i64 5, .int .i64 16])]) (cells:=[.int .i64 0, .int .i64 10, .int .i64 5, .int .i64 16]) rfl rfl) rfl rfl ?_)
 (refine aD rfl (fun _=>bC (pvs:=([.int .i64 3, .int .i64 3]).zipIdx.map (fun p=>(p.2,p.1))) (cells:=[.int .i64 3, .int .i64 3]) rfl rfl) rfl rfl ?_)
 (refine aD rfl (fun _=>bC (pvs:=([.int .i64 90, .int .i64 1]).zipIdx.map (fun p=>(p.2,p.1))) (cells:=[.int .i64 90, .int .i64 1]) rfl rfl) rfl rfl ?_)
 (refine aD rfl (fun _=>bC (pvs:=[(0, .agg #[.int .i64 3, .int .i64 3]),(1, .agg #[.int .i64 90, .int .i64 1])]) (cells:=[.int .i64 3, .int .i64 3, .int .i64 90, .int .i64 1]) rfl rfl) rfl rfl ?_)
 refine gK (cs:=recs gX exQ) ([vQ4 ⟨0,0,5,5⟩,vQ4 ⟨10,0,15,5⟩,vQ4 ⟨0,10,5,16⟩,vQ4 ⟨3,3,90,1⟩]) rfl (fun b=>?_)
 refine aH .here ?_
 repeat refine aB ?_
 refine iR rfl rfl (⟨rfl,b,rfl,rfl⟩)
theorem aPA:CD Tryz.prog 15 [] X w0 M0 I0 (fun v M I=>M0=M∧I0=I∧v= .bool true):=by
 obtain ⟨g,hg,hg1⟩:∃g,nC (fun s=>qQ 0 (bM exQ s)) (fun A=>iJ A exQ 1) (cmb 4 1 0)=some g∧(g.1,g.2.1)=(([0],[0,1,2]):List Int × List Int):=by
  have:=bCK
  cases h:nC (fun s=>qQ 0 (bM exQ s)) (fun A=>iJ A exQ 1) (cmb 4 1 0) with
  |none=>rw [h] at this;cases this
  |some g=>rw [h] at this;exact ⟨g,rfl,Option.some.inj this⟩
 injection hg1 with hgs hgi
 have hnr:=(aAE aOW).2
 have hB:=fun (b:Nat) M0 I0 h=>aQT (X:=X) (w0:=w0) (M0:=M0) (I0:=I0) (kd:=0) (tol:=1) (q:=some ⟨b,0,none⟩) (l:=exQ) (n:=4) (c:=4) (mdl:=fun s=>qQ 0 (bM exQ s)) (by omega) rfl (by omega) aOW (by decide) h
  (fun smp qs cs hsm M0 I0 h=>aEV (kd:=0) (by omega) rfl (by omega) hnr hsm.len (by omega) (fun x hx=>⟨by have:=hsm.lt x hx;omega,(hsm.lt x hx).2⟩) h)
 rw [hg] at hB
 have hD:=fun (b:Nat) M0 I0 h=>bBB (X:=X) (w0:=w0) (M0:=M0) (I0:=I0) (tol:=1) (q:=some ⟨b,0,none⟩) (l:=exQ) (n:=4) (c:=4) rfl (by omega) aOW (by decide) h
 have hC0:=fun M0 I0 h=>aBD (X:=X) (w0:=w0) (M0:=M0) (I0:=I0) (q:=none) (l:=[]) (n:=0) (c:=0) rfl (by omega) h
 refine aRN Tryz.func15 rfl Tryz.ntmps15 rfl ?_
 repeat refine aB ?_
 (refine bD rfl (aFD) ?_;rintro _ _ _ ⟨rfl,b1,rfl,rfl⟩;refine aN ?_)
 repeat refine aB ?_
 (refine bD rfl (hB b1 _ _ aA) ?_;rintro _ _ _ ⟨rfl,f,rfl,hk,hs,hi,hmq,hmd,rfl⟩;refine aN ?_)
 rw [hgs] at hs
 rw [hgi] at hi
 repeat refine aB ?_
 refine cK (fun b3=>?_)
 repeat refine aB ?_
 (refine bD rfl (aFD) ?_;rintro _ _ _ ⟨rfl,b2,rfl,rfl⟩;refine aN ?_)
 repeat refine aB ?_
 (refine bD rfl (hD b2 _ _ aA) ?_;rintro _ _ _ ⟨rfl,rfl,x,y,nn,⟨hn0,hbd⟩,rfl⟩;refine aN ?_)
 obtain ⟨rfl,rfl,rfl⟩:=hbd.uniq bAU
 repeat refine aB ?_
 refine cK (fun b4=>?_)
 repeat refine aB ?_
 refine gK (cs:=recs eZ [0]) ([.int .i64 0]) rfl (fun b5=>?_)
 refine aH .here ?_
 refine bQ (φ:=aI f.ps (recs eZ f.smp)) (Hv.bfS aA) ?_
 refine bQ (φ:=aI f.pi (recs eZ f.inl)) (Hv.bfI aA) ?_
 (refine bR rfl (aIF (a:=f.smp) (b:=[0]) (by rw [hs];decide) aA aA) rfl rfl ?_;rintro _ _ _ ⟨rfl,rfl,rfl⟩;refine aN ?_)
 rw [bK hs]
 repeat refine aB ?_
 refine gK (cs:=recs eZ [0,1,2]) ([.int .i64 0, .int .i64 1, .int .i64 2]) rfl (fun b6=>?_)
 refine aH .here ?_
 (refine bR rfl (aIF (a:=f.inl) (b:=[0,1,2]) (by rw [hi];decide) aA aA) rfl rfl ?_;rintro _ _ _ ⟨rfl,rfl,rfl⟩;refine aN ?_)
 rw [bK hi]
 repeat refine aB ?_
 (refine aD rfl (fun _=>bC (pvs:=([.int .i64 4, .int .i64 5]).zipIdx.map (fun p=>(p.2,p.1))) (cells:=[.int .i64 4, .int .i64 5]) rfl rfl) rfl rfl ?_)
 (refine aD rfl (fun _=>aUA (xs:=[5 - 1,6 - 1]) (ys:=[4,5]) rfl rfl rfl rfl) rfl rfl ?_)
 rw [bK (show ([5 - 1,6 - 1]:List Int)=[4,5] from rfl)]
 refine bQ (φ:=aI none (recs gX [])) ⟨fun X w _=>⟨fun j v hj=>by simp [recs] at hj⟩⟩ ?_
 repeat refine aB ?_
 refine dH rfl (hC0 _ _ aA) ?_
 rw [show lF []=1 from rfl]
 repeat refine aB ?_
 refine fC (M':=M0) (I':=I0) aF aC ?_
 refine iR rfl rfl (⟨rfl,rfl,congrArg Value.bool (bK rfl)⟩)
end
section
variable {X:List Nat} {w0:World} {M0 M1 M2:List Ent} {I0:List aL}
theorem bAG {q:Option Addr} {n c:Nat} {m:Int}:CD Tryz.prog 16 [.slice q n c, .int .i64 m] X w0 M0 I0 (fun v M I=>M0=M∧I0=I∧v= .bool (B ((n:Int)≤m))):=by
 refine aM Tryz.func16 rfl Tryz.ntmps16 rfl ?_
 repeat refine aB ?_
 refine iR rfl rfl (⟨rfl,rfl,rfl⟩)
theorem aXE {a b:Int}:CD Tryz.prog 68 [.agg #[.int .i64 a, .int .i64 b]] X w0 M0 I0 (fun v M I=>M0=M∧I0=I∧v= .bool (B (¬farC a b))):=by
 refine aR Tryz.func68 rfl Tryz.ntmps68 rfl ?_
 refine gG ?_
 refine gN rfl (fun b1=>?_)
 by_cases h1: -32768≤a
 ·by_cases h2:a≤32768
  ·by_cases h3: -32768≤b
   ·by_cases h4:b≤32768
    ·repeat refine aB ?_
     refine fC (M':=M0) (I':=I0) aF aC ?_
     refine aU (by first|exact .inl rfl|exact .inr rfl) rfl rfl _ _ aF aC (⟨rfl,rfl,congrArg Value.bool ((bK h4).trans (bK (show ¬farC a b by unfold farC;omega)).symm)⟩)
    ·repeat refine aB ?_
     refine fC (M':=M0) (I':=I0) aF aC ?_
     refine aU (by first|exact .inl rfl|exact .inr rfl) rfl rfl _ _ aF aC (⟨rfl,rfl,congrArg Value.bool ((bH h4).trans (bH (show ¬¬farC a b by unfold farC;omega)).symm)⟩)
   ·repeat refine aB ?_
    refine fC (M':=M0) (I':=I0) aF aC ?_
    refine aU (by first|exact .inl rfl|exact .inr rfl) rfl rfl _ _ aF aC (⟨rfl,rfl,congrArg Value.bool (bH (show ¬¬farC a b by unfold farC;omega)).symm⟩)
  ·repeat refine aB ?_
   refine fC (M':=M0) (I':=I0) aF aC ?_
   refine aU (by first|exact .inl rfl|exact .inr rfl) rfl rfl _ _ aF aC (⟨rfl,rfl,congrArg Value.bool (bH (show ¬¬farC a b by unfold farC;omega)).symm⟩)
 ·repeat refine aB ?_
  refine fC (M':=M0) (I':=I0) aF aC ?_
  refine aU (by first|exact .inl rfl|exact .inr rfl) rfl rfl _ _ aF aC (⟨rfl,rfl,congrArg Value.bool (bH (show ¬¬farC a b by unfold farC;omega)).symm⟩)
theorem aSR {q:Option Addr} {l:List Q4} {n c:Nat} (hl:l.length=n) (hn:(n:Int)≤9223372036854775807) (hq:aI q (recs gX l)∈I0):CD Tryz.prog 21 [.slice q n c] X w0 M0 I0 (fun v M I=>M0=M∧I0=I∧v= .int .i64 (lF l)):=by
 have hN:=fun a b M0 I0=>aXE (X:=X) (w0:=w0) (M0:=M0) (I0:=I0) (a:=a) (b:=b)
 refine aV (φ:=aI q (recs gX l)) (Hv.mem hq) ?_
 refine aR Tryz.func21 rfl Tryz.ntmps21 rfl ?_
 by_cases h0:n=0
 ·rw [show lF l=1 by unfold lF;rw [if_pos (by omega)]]
  repeat refine aB ?_
  refine iR rfl rfl (⟨rfl,rfl,rfl⟩)
 by_cases h1:64 < n
 ·rw [show lF l=3 by unfold lF;rw [if_neg (by omega),if_pos (by omega)]]
  repeat refine aB ?_
  refine iR rfl rfl (⟨rfl,rfl,rfl⟩)
 have ec:lF l=if anyFar l then 2 else 0:=by unfold lF;rw [if_neg (by omega),if_neg (by omega)]
 repeat refine aB ?_
 refine lX [11,12] rfl (fun k G M I=>∃i:Nat,i≤n∧k=n - i∧(∀j:Nat,j < i→¬(gt l (j:Int)).far)∧G=[(13, .int .i64 i)]∧M0=M∧I=aI q (recs gX l)::I0) (n) (⟨0,by omega,rfl,fun j hj=>by omega,rfl,rfl,rfl⟩) ?_
 rintro kk G M I ⟨i,hi,rfl,hnf,rfl,rfl,rfl⟩
 by_cases hin:i < n
 ·have hmem:=bF (ms:=l) (i:=(i:Int)) (by omega)
  have hnx:∀j:Nat,¬(gt l (i:Int)).far→j < i+1→¬(gt l (j:Int)).far:=fun j h hj=>by
   by_cases e:j=i
   ·subst e;exact h
   ·exact hnf j (by omega)
  obtain ⟨s,hss⟩:∃s,gt l (i:Int)=s:=⟨_,rfl⟩
  rw [hss] at hmem hnx
  repeat refine aB ?_
  rw [hss]
  refine cK (fun b4=>?_)
  repeat refine aB ?_
  by_cases f1:farC s.x s.y
  ·have e2:lF l=2:=by rw [ec,if_pos ⟨s,hmem, .inl f1⟩]
   rw [e2]
   have hN1:=hN s.x s.y
   rw [bH (show ¬¬farC s.x s.y from fun h=>h f1)] at hN1
   (refine bD rfl (hN1 _ _) ?_;rintro _ _ _ ⟨rfl,rfl,rfl⟩;refine aN ?_)
   repeat refine aB ?_
   refine fC (M':=M0) (I':=I0) aF aC ?_
   refine iR rfl rfl (⟨rfl,rfl,rfl⟩)
  ·have hN1:=hN s.x s.y
   rw [bK (show ¬farC s.x s.y from f1)] at hN1
   (refine bD rfl (hN1 _ _) ?_;rintro _ _ _ ⟨rfl,rfl,rfl⟩;refine aN ?_)
   repeat refine aB ?_
   by_cases f2:farC s.u s.v
   ·have e2:lF l=2:=by rw [ec,if_pos ⟨s,hmem, .inr f2⟩]
    rw [e2]
    have hN2:=hN s.u s.v
    rw [bH (show ¬¬farC s.u s.v from fun h=>h f2)] at hN2
    (refine bD rfl (hN2 _ _) ?_;rintro _ _ _ ⟨rfl,rfl,rfl⟩;refine aN ?_)
    repeat refine aB ?_
    refine fC (M':=M0) (I':=I0) aF aC ?_
    refine iR rfl rfl (⟨rfl,rfl,rfl⟩)
   ·have hN2:=hN s.u s.v
    rw [bK (show ¬farC s.u s.v from f2)] at hN2
    (refine bD rfl (hN2 _ _) ?_;rintro _ _ _ ⟨rfl,rfl,rfl⟩;refine aN ?_)
    repeat refine aB ?_
    refine gL (n - (i+1)) (⟨i+1,by omega,rfl,fun j hj=>hnx j (fun h=>h.elim f1 f2) hj,rfl,rfl,rfl⟩)
 ·obtain rfl:i=n:=by omega
  have e2:lF l=0:=by
   rw [ec,if_neg]
   rintro ⟨s,hs,hf⟩
   obtain ⟨j,hj,rfl⟩:=List.mem_iff_getElem.1 hs
   exact hnf j (by omega) (by rw [gtQ hj];exact hf)
  rw [e2]
  repeat refine aB ?_
  refine iR rfl rfl (⟨rfl,rfl,rfl⟩)
theorem iT {x:Int} (hx: -9223372036854775808≤x∧x≤9223372036854775807) {k:Nat} (hk:x.natAbs≤2 ^ k):CD Tryz.prog 138 [.int .i64 x] X w0 M0 I0 (RQ (x:Rat) k M0 I0):=by
 refine aR Tryz.func138 rfl Tryz.ntmps138 rfl ?_
 refine gG ?_
 refine cK (fun b2=>?_)
 repeat refine aB ?_
 refine fK rfl (vO hx hk) (fun e he=>?_)
 repeat refine aB ?_
 refine aO (cs:=eR e) (.inl rfl) rfl rfl aA rfl M0 (bL e k::I0) aF aC ⟨rfl,e,rfl,he,rfl⟩
end
/- ---------- the law's search ---------- -/
def VisL (l:List Q4) (i j:Nat) (x y:Int):Prop:=(∃a:Nat,a < i∧a < l.length∧x=gt (dxs l) (a:Int)∧∃b:Nat,b < l.length∧y=gt (dys l) (b:Int))∨(i < l.length∧x=gt (dxs l) (i:Int)∧∃b:Nat,b < j∧b < l.length∧y=gt (dys l) (b:Int))
section
variable {l:List Q4} {t X Y:Int} {i j n:Nat}
end
section
variable {X:List Nat} {w0:World} {M0 M1 M2:List Ent} {I0:List aL}
end
def fourS (a:WM):Prop:=a.rows.length≤4∧∀r∈a.rows,r.es.length≤4∧∀e∈r.es,e.brief
def NR (a:WM):Prop:=sqC a≠0∨∃(A:MX) (n:Nat),a=A.raw∧A.fit n n∧n≤4∧(n=3→dt 3 (at2 A.q)=0)
section
variable {X:List Nat} {w0:World} {M0 M1 M2:List Ent} {I0:List aL}
end
def MisK (m:Mt) (s:Q4) (k:Nat) (M0:List Ent) (I0:List aL) (v:Value) (M:List Ent) (I:List aL):Prop:=
 M0=M∧if lL m 2 s=0 then I0=I∧v= .tuple #[zR, .bool false] else ∃e:RE,v= .tuple #[rv e, .bool true]∧e.q=tQ m s∧I=bL e k::I0
section
variable {X:List Nat} {w0:World} {M0 M1 M2:List Ent} {I0:List aL}
theorem aZZ {a b:RE} {x y:Int} {k:Nat} (hk:k≤10000000000) (hx: -32768≤x∧x≤32768) (hy: -32768≤y∧y≤32768) (ha:bL a k∈I0) (hb:bL b k∈I0):
  CD Tryz.prog 218 [.agg #[.int .i64 x, .int .i64 y], .agg (eR a++eR b).toArray] X w0 M0 I0 (RQ ((a.q - (x:Rat))*(a.q - (x:Rat))+(b.q - (y:Rat))*(b.q - (y:Rat))) (4*k+65) M0 I0):=by
 have hWx:=fun M0 I0=>vO (X:=X) (w0:=w0) (M0:=M0) (I0:=I0) (x:=x) (by omega) (k:=15) (by rw [e15];omega)
 have hWy:=fun M0 I0=>vO (X:=X) (w0:=w0) (M0:=M0) (I0:=I0) (x:=y) (by omega) (k:=15) (by rw [e15];omega)
 have hS:=fun (a b:RE) M0 I0 h1 h2=>aEB (X:=X) (w0:=w0) (M0:=M0) (I0:=I0) (a:=a) (b:=b) (k:=k) (m:=15) (by omega) h1 h2
 have hM:=fun (a:RE) M0 I0 h1=>sN (X:=X) (w0:=w0) (M0:=M0) (I0:=I0) (a:=a) (b:=a) (k:=k+15+1) (m:=k+15+1) (by omega) h1 h1
 have hA:=fun (a b:RE) M0 I0 h1 h2=>xG (X:=X) (w0:=w0) (M0:=M0) (I0:=I0) (a:=a) (b:=b) (k:=k+15+1+(k+15+1)) (m:=k+15+1+(k+15+1)) (by omega) h1 h2
 refine aV (φ:=bL a k) (Hv.mem ha) (aV (φ:=bL b k) (Hv.mem (List.mem_cons_of_mem _ hb)) ?_)
 refine aM Tryz.func218 rfl Tryz.ntmps218 rfl ?_
 refine gG ?_
 refine gN rfl (fun b2=>?_)
 refine aH .here ?_
 refine gN rfl (fun b3=>?_)
 refine aH (cs:=recs eR [a,b]) .here ?_
 refine cK (fun b4=>?_)
 repeat refine aB ?_
 refine jQ (fun G M I=>∃(b5:Nat) (ex:RE),ex.q=a.q - (x:Rat)∧G=[(2, .pointer (some ⟨b2,0,none⟩)),(3, .pointer (some ⟨b3,0,none⟩)),(4, .pointer (some ⟨b4,0,none⟩)),(5, .pointer (some ⟨b5,0,none⟩))]∧M= .blk b5 (eR ex) 77:: .blk b4 zRg 77::M0∧I=bL ex (k+15+1)::aI (some ⟨b3,0,none⟩) (recs eR [a,b])::aI (some ⟨b2,0,none⟩) [.int .i64 x, .int .i64 y]::bL b k::bL a k::I0) ?_ ?_
 ·((repeat refine aG ?_);refine lU (M0) (aI (some ⟨b3,0,none⟩) (recs eR [a,b])::aI (some ⟨b2,0,none⟩) [.int .i64 x, .int .i64 y]::bL b k::bL a k::I0) mixed ?_)
  refine cB (fuel:=4) (listed':=#[true,true,true,true,false,false,false,false]) [0,1,2,3] [3,2,3,2] aF aC (by kernel_rfl) (by kernel_rfl) rfl rfl ?_
  repeat refine aB ?_
  refine aS (fuel:=3) (i:=4) (j:=6) (by kernel_rfl) ?_ ?_
  ·refine fK rfl (hWx _ _) (fun g0 hg0=>?_)
   refine bE ?_
   repeat refine aB ?_
   refine aS (fuel:=2) (i:=5) (j:=6) (by kernel_rfl) ?_ ?_
   ·refine fK rfl (hS a g0 _ _ (Hv.mem aA) (Hv.mem aA)) (fun g1 hg1=>?_)
    refine bE ?_
    refine aY [6,7] [0,0] aF aC (by kernel_rfl) (by kernel_rfl) rfl rfl ?_
    repeat refine aB ?_
    refine cK (fun b5=>?_)
    repeat refine aB ?_
    (refine tV ⟨b5,g1,by rw [hg1,hg0],rfl,rfl,rfl⟩)
   ·refine cK (fun b5=>?_)
    refine bE ?_
    refine aY [5,7] [0,0] aF aC (by kernel_rfl) (by kernel_rfl) rfl rfl ?_
    repeat refine aB ?_
    refine fK rfl (hS a g0 _ _ (Hv.mem aA) (Hv.mem aA)) (fun g1 hg1=>?_)
    repeat refine aB ?_
    (refine tV ⟨b5,g1,by rw [hg1,hg0],rfl,rfl,rfl⟩)
  ·refine cK (fun b5=>?_)
   refine bE ?_
   refine aY [4,5,7] [0,0,0] aF aC (by kernel_rfl) (by kernel_rfl) rfl rfl ?_
   repeat refine aB ?_
   refine fK rfl (hWx _ _) (fun g0 hg0=>?_)
   repeat refine aB ?_
   refine fK rfl (hS a g0 _ _ (Hv.mem aA) (Hv.mem aA)) (fun g1 hg1=>?_)
   repeat refine aB ?_
   (refine tV ⟨b5,g1,by rw [hg1,hg0],rfl,rfl,rfl⟩)
 rintro G M I ⟨b5,ex,hex,rfl,rfl,rfl⟩
 refine aG ?_
 refine jQ (fun G M I=>∃(b6:Nat) (ey:RE),ey.q=b.q - (y:Rat)∧G=[(4, .pointer (some ⟨b4,0,none⟩)),(5, .pointer (some ⟨b5,0,none⟩)),(6, .pointer (some ⟨b6,0,none⟩))]∧M= .blk b6 (eR ey) 77:: .blk b5 (eR ex) 77:: .blk b4 zRg 77::M0∧I=bL ey (k+15+1)::bL ex (k+15+1)::I0) ?_ ?_
 ·((repeat refine aG ?_);refine lU (M0) (bL ex (k+15+1)::aI (some ⟨b3,0,none⟩) (recs eR [a,b])::aI (some ⟨b2,0,none⟩) [.int .i64 x, .int .i64 y]::bL b k::bL a k::I0) mixed ?_)
  refine cB (fuel:=4) (listed':=#[true,true,true,true,false,false,false,false]) [0,1,2,3] [3,2,3,2] aF aC (by kernel_rfl) (by kernel_rfl) rfl rfl ?_
  repeat refine aB ?_
  refine aS (fuel:=3) (i:=4) (j:=6) (by kernel_rfl) ?_ ?_
  ·refine fK rfl (hWy _ _) (fun g0 hg0=>?_)
   refine bE ?_
   repeat refine aB ?_
   refine aS (fuel:=2) (i:=5) (j:=6) (by kernel_rfl) ?_ ?_
   ·refine fK rfl (hS b g0 _ _ (Hv.mem aA) (Hv.mem aA)) (fun g1 hg1=>?_)
    refine bE ?_
    refine aY [6,7] [0,0] aF aC (by kernel_rfl) (by kernel_rfl) rfl rfl ?_
    repeat refine aB ?_
    refine cK (fun b6=>?_)
    repeat refine aB ?_
    (refine tV ⟨b6,g1,by rw [hg1,hg0],rfl,rfl,rfl⟩)
   ·refine cK (fun b6=>?_)
    refine bE ?_
    refine aY [5,7] [0,0] aF aC (by kernel_rfl) (by kernel_rfl) rfl rfl ?_
    repeat refine aB ?_
    refine fK rfl (hS b g0 _ _ (Hv.mem aA) (Hv.mem aA)) (fun g1 hg1=>?_)
    repeat refine aB ?_
    (refine tV ⟨b6,g1,by rw [hg1,hg0],rfl,rfl,rfl⟩)
  ·refine cK (fun b6=>?_)
   refine bE ?_
   refine aY [4,5,7] [0,0,0] aF aC (by kernel_rfl) (by kernel_rfl) rfl rfl ?_
   repeat refine aB ?_
   refine fK rfl (hWy _ _) (fun g0 hg0=>?_)
   repeat refine aB ?_
   refine fK rfl (hS b g0 _ _ (Hv.mem aA) (Hv.mem aA)) (fun g1 hg1=>?_)
   repeat refine aB ?_
   (refine tV ⟨b6,g1,by rw [hg1,hg0],rfl,rfl,rfl⟩)
 rintro G M I ⟨b6,ey,hey,rfl,rfl,rfl⟩
 (repeat refine aG ?_);refine pW (.blk b6 (eR ey) 77:: .blk b5 (eR ex) 77::M0) (bL ey (k+15+1)::bL ex (k+15+1)::I0) [0,1,3,4,2,5,6,7] [2,2,2,2,0,0,0,0] mixed ?_
 repeat refine aB ?_
 refine fK rfl (hM ex _ _ (Hv.mem aA)) (fun f0 hf0=>?_)
 refine fK rfl (hM ey _ _ (Hv.mem aA)) (fun f1 hf1=>?_)
 refine fK rfl (hA f0 f1 _ _ (Hv.mem aA) (Hv.mem aA)) (fun f2 hf2=>?_)
 repeat refine aB ?_
 have e9:k+15+1+(k+15+1)+(k+15+1+(k+15+1))+1=4*k+65:=by omega
 rw [e9]
 refine aO (cs:=eR f2) (.inl rfl) rfl rfl aA rfl M0 (bL f2 (4*k+65)::I0) aF aC ⟨rfl,f2,rfl,by rw [hf2,hf1,hf0,hex,hey],rfl⟩
end
section
variable {X:List Nat} {w0:World} {M0 M1 M2:List Ent} {I0:List aL}
theorem Hv.three {I:List aL} {a b c:RE} {k:Nat} (h1:bL a k∈I) (h2:bL b k∈I) (h3:bL c k∈I):Hv I (aP [a,b,c] k):=⟨fun X w hw=>⟨fun x hx=>by
 simp only [List.mem_cons,List.not_mem_nil,or_false] at hx
 rcases hx with rfl|rfl|rfl
 ·exact hw _ h1
 ·exact hw _ h2
 ·exact hw _ h3⟩⟩
theorem app3 {m:Mt} {x:List Rat} {i:Nat} (s:Q4) (hx:x=[(s.x:Rat),(s.y:Rat),((1:Int):Rat)]):sm 3 (fun t=>at2 m i t*x.getD t 0)=lL m i s:=by
 subst hx
 show ((0+at2 m i 0*(s.x:Rat))+at2 m i 1*(s.y:Rat))+at2 m i 2*((1:Int):Rat)=_
 unfold lL
 grind
theorem aLA {m:MX} {s:Q4} {u:Nat} (hu:u≤500000000) (dm:m.dim 3 3) (hn:s.near) (hm:gI m u∈I0):
  CD Tryz.prog 155 [mv m,vQ4 s] X w0 M0 I0 (MisK m.q s (24*u+449) M0 I0):=by
 obtain ⟨n1,n2,n3,n4⟩:=hn
 have hWx:=fun M0 I0=>iT (X:=X) (w0:=w0) (M0:=M0) (I0:=I0) (x:=s.x) (by omega) (k:=15) (by rw [e15];omega)
 have hWy:=fun M0 I0=>iT (X:=X) (w0:=w0) (M0:=M0) (I0:=I0) (x:=s.y) (by omega) (k:=15) (by rw [e15];omega)
 have hW1:=fun M0 I0=>iT (X:=X) (w0:=w0) (M0:=M0) (I0:=I0) (x:=1) (by omega) (k:=15) (by decide)
 have hAp:=fun (x:RL) (hl:x.es.length=3) M0 I0 h1 h2=>aTE (X:=X) (w0:=w0) (M0:=M0) (I0:=I0) (a:=m) (x:=x) (R:=3) (C:=3) (k0:=u) (m:=15) (by omega) (by omega) (by omega) (by omega) dm hl h1 h2
 have hO:=fun (a b:RE) (h0:b.q≠0) M0 I0 h1 h2=>wQ (X:=X) (w0:=w0) (M0:=M0) (I0:=I0) (a:=a) (b:=b) (k:=3*(u+15+1)) (m:=3*(u+15+1)) (by omega) h0 h1 h2
 have hDi:=fun (a b:RE) M0 I0 h1 h2=>aZZ (X:=X) (w0:=w0) (M0:=M0) (I0:=I0) (a:=a) (b:=b) (x:=s.u) (y:=s.v) (k:=3*(u+15+1)+3*(u+15+1)) (by omega) ⟨by omega,by omega⟩ ⟨by omega,by omega⟩ h1 h2
 refine aV (φ:=gI m u) (Hv.mem hm) ?_
 refine aM Tryz.func155 rfl Tryz.ntmps155 rfl ?_
 refine gG ?_
 refine gN rfl (fun b3=>?_)
 refine aH .here ?_
 refine cK (fun b4=>?_)
 repeat refine aB ?_
 (repeat refine aG ?_);refine pW (.blk b4 zRg 77::M0) (aI (some ⟨b3,0,none⟩) (gX s)::gI m u::I0) [0,1,2,3,5,6,7,4,8,9,10,11,12] [4,5,5,4,5,5,4,0,0,0,0,0,0] mixed ?_
 repeat refine aB ?_
 refine fK rfl (hWx _ _) (fun gx hgx=>?_)
 refine fK rfl (hWy _ _) (fun gy hgy=>?_)
 refine fK rfl (hW1 _ _) (fun g1 hg1=>?_)
 repeat refine aB ?_
 refine gK (cs:=recs eR [gx,gy,g1]) ([rv gx,rv gy,rv g1]) rfl (fun bl=>?_)
 refine bQ (φ:=aP [gx,gy,g1] 15) (Hv.three aA aA aA) ?_
 refine aRT (k:=15) aA ?_
 (refine bD rfl (hAp ⟨some ⟨bl,0,none⟩,3,[gx,gy,g1]⟩ rfl _ _ aA aA) ?_;rintro _ _ _ ⟨rfl,r,rfl,hr,rfl⟩;refine aN ?_)
 repeat refine aB ?_
 have hrl:r.es.length=3:=by
  have h:r.q.length=3:=by rw [hr];simp
  rwa [show r.q.length=r.es.length from List.length_map _] at h
 have hrw:∀i:Nat,i < 3→(gt r.es (i:Int)).q=lL m.q i s:=fun i hi=>by
  rw [←iK (by omega)]
  show r.q.getD i 0=_
  rw [hr]
  rw [show ((List.range 3).map (fun i=>sm 3 (fun t=>at2 m.q i t*(RL.q ⟨some ⟨bl,0,none⟩,3,[gx,gy,g1]⟩).getD t 0))).getD i 0=sm 3 (fun t=>at2 m.q i t*(RL.q ⟨some ⟨bl,0,none⟩,3,[gx,gy,g1]⟩).getD t 0) by simp [List.getD,hi]]
  exact app3 s (by show [gx.q,gy.q,g1.q]=_;rw [hgx,hgy,hg1])
 have hq0:(gt r.es 0).q=lL m.q 0 s:=hrw 0 (by omega)
 have hq1:(gt r.es 1).q=lL m.q 1 s:=hrw 1 (by omega)
 have hq2:(gt r.es 2).q=lL m.q 2 s:=hrw 2 (by omega)
 clear hrw hr
 refine bQ (φ:=aI r.p (recs eR r.es)) (Hv.lsl (k:=(3*(u+15+1))) aA) ?_
 repeat refine aB ?_
 refine dH rfl (pV (e:=gt r.es 2) (k:=(3*(u+15+1))) (by omega) (Hv.lel (r:=r) (k:=(3*(u+15+1))) aA ⟨by omega,by omega⟩)) ?_
 by_cases h0:lL m.q 2 s=0
 ·have hs0:(gt r.es 2).q.num.sign=0:=aZD.2 (hq2.trans h0)
  rw [hs0]
  repeat refine aB ?_
  (refine aD rfl (fun _=>bC (pvs:=([]).zipIdx.map (fun p=>(p.2,p.1))) (cells:=zRg) rfl rfl) rfl rfl ?_)
  repeat refine aB ?_
  refine fC (M':= .blk b4 zRg 77::M0) (I':=I0) aF aC ?_
  refine dW (rs:=[.cell 4 77, .tmp 5]) (vs:=[zR, .bool false]) (.inl rfl) rfl (.cellN (cs:=zRg) inferInstance rfl aA rfl (.tmp rfl .nil)) rfl M0 I0 aF aC ⟨rfl,by rw [if_pos h0];exact ⟨rfl,rfl⟩⟩
 ·have hc0:(gt r.es 2).q≠0:=by rw [hq2];exact h0
  have hs0:¬(gt r.es 2).q.num.sign=0:=fun e=>hc0 (aZD.1 e)
  repeat refine aB ?_
  refine jQ (fun G M I=>∃(b7:Nat) (ex:RE),ex.q=lL m.q 0 s / lL m.q 2 s∧G=[(3, .pointer (some ⟨b3,0,none⟩)),(4, .pointer (some ⟨b4,0,none⟩)),(6,lv r),(7, .pointer (some ⟨b7,0,none⟩))]∧M= .blk b7 (eR ex) 77:: .blk b4 zRg 77::M0∧I=bL ex (3*(u+15+1)+3*(u+15+1))::aI r.p (recs eR r.es)::iN r (3*(u+15+1))::aI (some ⟨b3,0,none⟩) (gX s)::I0) ?_ ?_
  ·((repeat refine aG ?_);refine lU (M0) (aI r.p (recs eR r.es)::iN r (3*(u+15+1))::aI (some ⟨b3,0,none⟩) (gX s)::I0) mixed ?_)
   refine cB (fuel:=7) (listed':=#[true,true,true,true,true,true,false,false,false,false,false,false,false]) [0,1,2,3,4,5] [2,2,1,2,2,1] aF aC (by kernel_rfl) (by kernel_rfl) rfl rfl ?_
   repeat refine aB ?_
   refine aS (fuel:=6) (i:=6) (j:=10) (by kernel_rfl) ?_ ?_
   ·(refine bD rfl (hO (gt r.es 0) (gt r.es 2) hc0 _ _ (Hv.lel (r:=r) (k:=(3*(u+15+1))) aA ⟨by omega,by omega⟩) (Hv.lel (r:=r) (k:=(3*(u+15+1))) aA ⟨by omega,by omega⟩)) ?_;rintro _ _ _ ⟨rfl,g1,rfl,hg1,rfl⟩;refine aN ?_)
    refine bE ?_
    refine aY [7,8,9,10,11,12] [1,1,2,0,0,0] aF aC (by kernel_rfl) (by kernel_rfl) rfl rfl ?_
    repeat refine aB ?_
    refine cK (fun b7=>?_)
    repeat refine aB ?_
    (refine tV ⟨b7,g1,by rw [hg1,hq0,hq2],rfl,rfl,rfl⟩)
   ·refine cK (fun b7=>?_)
    refine bE ?_
    refine aY [6,7,8,9,11,12] [0,0,0,1,0,0] aF aC (by kernel_rfl) (by kernel_rfl) rfl rfl ?_
    repeat refine aB ?_
    (refine bD rfl (hO (gt r.es 0) (gt r.es 2) hc0 _ _ (Hv.lel (r:=r) (k:=(3*(u+15+1))) aA ⟨by omega,by omega⟩) (Hv.lel (r:=r) (k:=(3*(u+15+1))) aA ⟨by omega,by omega⟩)) ?_;rintro _ _ _ ⟨rfl,g1,rfl,hg1,rfl⟩;refine aN ?_)
    repeat refine aB ?_
    (refine tV ⟨b7,g1,by rw [hg1,hq0,hq2],rfl,rfl,rfl⟩)
  rintro G M I ⟨b7,ex,hex,rfl,rfl,rfl⟩
  refine aG ?_
  refine jQ (fun G M I=>∃(b9:Nat) (ey:RE),ey.q=lL m.q 1 s / lL m.q 2 s∧G=[(3, .pointer (some ⟨b3,0,none⟩)),(4, .pointer (some ⟨b4,0,none⟩)),(7, .pointer (some ⟨b7,0,none⟩)),(9, .pointer (some ⟨b9,0,none⟩))]∧M= .blk b9 (eR ey) 77:: .blk b7 (eR ex) 77:: .blk b4 zRg 77::M0∧I=bL ey (3*(u+15+1)+3*(u+15+1))::bL ex (3*(u+15+1)+3*(u+15+1))::aI (some ⟨b3,0,none⟩) (gX s)::I0) ?_ ?_
  ·((repeat refine aG ?_);refine lU (M0) (bL ex (3*(u+15+1)+3*(u+15+1))::aI r.p (recs eR r.es)::iN r (3*(u+15+1))::aI (some ⟨b3,0,none⟩) (gX s)::I0) mixed ?_)
   refine cB (fuel:=7) (listed':=#[true,true,true,true,true,true,false,false,false,false,false,false,false]) [0,1,2,3,4,5] [2,2,1,2,2,1] aF aC (by kernel_rfl) (by kernel_rfl) rfl rfl ?_
   repeat refine aB ?_
   refine aS (fuel:=6) (i:=6) (j:=10) (by kernel_rfl) ?_ ?_
   ·(refine bD rfl (hO (gt r.es 1) (gt r.es 2) hc0 _ _ (Hv.lel (r:=r) (k:=(3*(u+15+1))) aA ⟨by omega,by omega⟩) (Hv.lel (r:=r) (k:=(3*(u+15+1))) aA ⟨by omega,by omega⟩)) ?_;rintro _ _ _ ⟨rfl,g1,rfl,hg1,rfl⟩;refine aN ?_)
    refine bE ?_
    refine aY [7,8,9,10,11,12] [1,1,2,0,0,0] aF aC (by kernel_rfl) (by kernel_rfl) rfl rfl ?_
    repeat refine aB ?_
    refine cK (fun b9=>?_)
    repeat refine aB ?_
    (refine tV ⟨b9,g1,by rw [hg1,hq1,hq2],rfl,rfl,rfl⟩)
   ·refine cK (fun b9=>?_)
    refine bE ?_
    refine aY [6,7,8,9,11,12] [0,0,0,1,0,0] aF aC (by kernel_rfl) (by kernel_rfl) rfl rfl ?_
    repeat refine aB ?_
    (refine bD rfl (hO (gt r.es 1) (gt r.es 2) hc0 _ _ (Hv.lel (r:=r) (k:=(3*(u+15+1))) aA ⟨by omega,by omega⟩) (Hv.lel (r:=r) (k:=(3*(u+15+1))) aA ⟨by omega,by omega⟩)) ?_;rintro _ _ _ ⟨rfl,g1,rfl,hg1,rfl⟩;refine aN ?_)
    repeat refine aB ?_
    (refine tV ⟨b9,g1,by rw [hg1,hq1,hq2],rfl,rfl,rfl⟩)
  rintro G M I ⟨b9,ey,hey,rfl,rfl,rfl⟩
  repeat refine aB ?_
  (refine aD rfl (fun _=>qI (vals:=[rv ex,rv ey]) (cells:=recs eR [ex,ey]) rfl ?hpl rfl ?hz) rfl rfl ?_;(case hpl=>repeat (first|exact True.intro|refine ⟨rfl,?_⟩));(case hz=>rfl))
  repeat refine aB ?_
  refine fK rfl (hDi ex ey _ _ aA aA) (fun f hf=>?_)
  repeat refine aB ?_
  have e9:4*(3*(u+15+1)+3*(u+15+1))+65=24*u+449:=by omega
  rw [e9]
  refine dW (rs:=[.cell 4 77, .tmp 5]) (vs:=[rv f, .bool true]) (.inl rfl) rfl (.cellN (cs:=eR f) inferInstance rfl aA rfl (.tmp rfl .nil)) rfl M0 (bL f (24*u+449)::I0) aF aC ⟨rfl,by rw [if_neg h0];exact ⟨f,rfl,by rw [hf,hex,hey];rfl,rfl⟩⟩
end
structure T3 (α:Type) where
 a:α
 b:α
 c:α
structure M9 (α:Type) where
 x:T3 α
 y:T3 α
 z:T3 α
section
variable {α:Type} [Mul α] [Add α] [Sub α]
def T3.cross (p q:T3 α):T3 α:=⟨p.b*q.c - p.c*q.b,p.c*q.a - p.a*q.c,p.a*q.b - p.b*q.a⟩
def T3.dot (p q:T3 α):α:=p.a*q.a+p.b*q.b+p.c*q.c
def d3 (p q r:T3 α):α:=(p.cross q).dot r
def T3.smul (k:α) (p:T3 α):T3 α:=⟨k*p.a,k*p.b,k*p.c⟩
def T3.add (p q:T3 α):T3 α:=⟨p.a+q.a,p.b+q.b,p.c+q.c⟩
def M9.tr (m:M9 α):M9 α:=⟨⟨m.x.a,m.y.a,m.z.a⟩,⟨m.x.b,m.y.b,m.z.b⟩,⟨m.x.c,m.y.c,m.z.c⟩⟩
def M9.app (m:M9 α) (p:T3 α):T3 α:=⟨m.x.dot p,m.y.dot p,m.z.dot p⟩
def M9.mul (g h:M9 α):M9 α:=⟨h.tr.app g.x,h.tr.app g.y,h.tr.app g.z⟩
def M9.cof (m:M9 α):M9 α:=⟨m.y.cross m.z,m.z.cross m.x,m.x.cross m.y⟩
structure P4 (α:Type) where
 p:T3 α
 q:T3 α
 r:T3 α
 s:T3 α
def P4.k0 (l:P4 α):α:=d3 l.s l.q l.r
def P4.k1 (l:P4 α):α:=d3 l.p l.s l.r
def P4.k2 (l:P4 α):α:=d3 l.p l.q l.s
def P4.k3 (l:P4 α):α:=d3 l.p l.q l.r
def P4.bas (l:P4 α):M9 α:=(M9.mk (l.p.smul l.k0) (l.q.smul l.k1) (l.r.smul l.k2)).tr
def tJ (l m:P4 α):M9 α:=m.bas.mul l.bas.cof.tr
end
def jI (p:T3 Int):T3 Rat:=⟨(p.a:Rat),(p.b:Rat),(p.c:Rat)⟩
def iI (m:M9 Int):M9 Rat:=⟨jI m.x,jI m.y,jI m.z⟩
def dG (l:P4 Int):P4 Rat:=⟨jI l.p,jI l.q,jI l.r,jI l.s⟩
theorem vK (p q:T3 Int):jI (p.cross q)=(jI p).cross (jI q):=by simp [jI,T3.cross,Rat.intCast_sub,Rat.intCast_mul]
theorem zX (p q:T3 Int):((p.dot q:Int):Rat)=(jI p).dot (jI q):=by simp [jI,T3.dot,Rat.intCast_add,Rat.intCast_mul]
theorem wC (p q r:T3 Int):((d3 p q r:Int):Rat)=d3 (jI p) (jI q) (jI r):=by unfold d3;rw [zX,vK]
theorem aBG (k:Int) (p:T3 Int):jI (p.smul k)=(jI p).smul (k:Rat):=by simp [jI,T3.smul,Rat.intCast_mul]
theorem aJL (m:M9 Int):iI m.tr=(iI m).tr:=rfl
theorem aFU (m:M9 Int) (p:T3 Int):jI (m.app p)=(iI m).app (jI p):=by
 unfold M9.app
 show T3.mk _ _ _=T3.mk _ _ _
 rw [zX,zX,zX];rfl
theorem aVQ (g h:M9 Int):iI (g.mul h)=(iI g).mul (iI h):=by
 unfold M9.mul
 show M9.mk _ _ _=M9.mk _ _ _
 rw [aFU,aFU,aFU,aJL];rfl
theorem aXX (m:M9 Int):iI m.cof=(iI m).cof:=by
 unfold M9.cof
 show M9.mk _ _ _=M9.mk _ _ _
 rw [vK,vK,vK];rfl
theorem aMS (l:P4 Int):iI l.bas=(dG l).bas:=by
 unfold P4.bas
 rw [aJL]
 congr 1
 show M9.mk _ _ _=M9.mk _ _ _
 rw [aBG,aBG,aBG]
 unfold P4.k0 P4.k1 P4.k2
 rw [wC,wC,wC];rfl
theorem aBT (l m:P4 Int):iI (tJ l m)=tJ (dG l) (dG m):=by
 unfold tJ
 rw [aVQ,aJL,aXX,aMS,aMS]
theorem bEL (l:P4 Int):((l.k0:Int):Rat)=(dG l).k0∧((l.k1:Int):Rat)=(dG l).k1∧((l.k2:Int):Rat)=(dG l).k2∧((l.k3:Int):Rat)=(dG l).k3:=by
 unfold P4.k0 P4.k1 P4.k2 P4.k3
 rw [wC,wC,wC,wC]
 exact ⟨rfl,rfl,rfl,rfl⟩
/- ---------- over fractions ---------- -/
theorem T3.ext3 {p q:T3 Rat} (h1:p.a=q.a) (h2:p.b=q.b) (h3:p.c=q.c):p=q:=by
 cases p;cases q;simp only at h1 h2 h3;rw [h1,h2,h3]
theorem bFE (p q r R:T3 Rat):R.smul (d3 p q r)=(((q.cross r).smul (R.dot p)).add ((r.cross p).smul (R.dot q))).add ((p.cross q).smul (R.dot r)):=by
 apply T3.ext3 <;>simp only [T3.smul,T3.add,T3.cross,T3.dot,d3] <;>grind
theorem cram3 (l:P4 Rat):l.s.smul l.k3=((l.p.smul l.k0).add (l.q.smul l.k1)).add (l.r.smul l.k2):=by
 apply T3.ext3 <;>simp only [T3.smul,T3.add,T3.cross,T3.dot,d3,P4.k0,P4.k1,P4.k2,P4.k3] <;>grind
def aCO (l m:P4 Rat) (u v w:Rat):T3 Rat:=(((l.q.cross l.r).smul (m.k0*u*(l.k1*l.k2))).add ((l.r.cross l.p).smul (m.k1*v*(l.k2*l.k0)))).add ((l.p.cross l.q).smul (m.k2*w*(l.k0*l.k1)))
theorem aHO (l m:P4 Rat):tJ l m=⟨aCO l m m.p.a m.q.a m.r.a,aCO l m m.p.b m.q.b m.r.b,aCO l m m.p.c m.q.c m.r.c⟩:=by
 unfold tJ P4.bas aCO
 generalize l.k0=k0
 generalize l.k1=k1
 generalize l.k2=k2
 generalize m.k0=m0
 generalize m.k1=m1
 generalize m.k2=m2
 simp only [M9.mul,M9.tr,M9.cof,M9.app,T3.cross,T3.dot,T3.smul,T3.add,M9.mk.injEq,T3.mk.injEq]
 refine ⟨⟨?_,?_,?_⟩,⟨?_,?_,?_⟩,⟨?_,?_,?_⟩⟩ <;>grind
theorem zO (l m:P4 Rat) (u v w:Rat) (x:T3 Rat):(aCO l m u v w).dot x=m.k0*u*(l.k1*l.k2)*(l.q.cross l.r).dot x+m.k1*v*(l.k2*l.k0)*(l.r.cross l.p).dot x+m.k2*w*(l.k0*l.k1)*(l.p.cross l.q).dot x:=by
 unfold aCO
 simp only [T3.smul,T3.add,T3.dot]
 grind
theorem yD (p q:T3 Rat):(p.cross q).dot p=0∧(p.cross q).dot q=0:=by
 simp only [T3.cross,T3.dot]
 constructor <;>grind
theorem aQB (p q r:T3 Rat):(q.cross r).dot p=d3 p q r∧(r.cross p).dot q=d3 p q r:=by
 simp only [T3.cross,T3.dot,d3]
 constructor <;>grind
theorem bFX (l m:P4 Rat) (u v w:Rat):(aCO l m u v w).dot l.p=(m.k0*l.k1*l.k2*l.k3)*u:=by
 rw [zO,(aQB l.p l.q l.r).1,(yD l.r l.p).2,(yD l.p l.q).1]
 show _=m.k0*l.k1*l.k2*d3 l.p l.q l.r*u
 grind
theorem bEY (l m:P4 Rat) (u v w:Rat):(aCO l m u v w).dot l.q=(m.k1*l.k0*l.k2*l.k3)*v:=by
 rw [zO,(aQB l.p l.q l.r).2,(yD l.q l.r).1,(yD l.p l.q).2]
 show _=m.k1*l.k0*l.k2*d3 l.p l.q l.r*v
 grind
theorem bED (l m:P4 Rat) (u v w:Rat):(aCO l m u v w).dot l.r=(m.k2*l.k0*l.k1*l.k3)*w:=by
 rw [zO,(yD l.q l.r).2,(yD l.r l.p).1]
 show _=m.k2*l.k0*l.k1*d3 l.p l.q l.r*w
 show m.k0*u*(l.k1*l.k2)*0+m.k1*v*(l.k2*l.k0)*0+m.k2*w*(l.k0*l.k1)*d3 l.p l.q l.r=_
 grind
theorem aNQ (l:P4 Rat):(l.q.cross l.r).dot l.s=l.k0∧(l.r.cross l.p).dot l.s=l.k1∧(l.p.cross l.q).dot l.s=l.k2:=by
 simp only [T3.cross,T3.dot,d3,P4.k0,P4.k1,P4.k2]
 refine ⟨?_,?_,?_⟩ <;>grind
theorem aON (l m:P4 Rat) (u v w t:Rat) (h:t*m.k3=u*m.k0+v*m.k1+w*m.k2):(aCO l m u v w).dot l.s=(m.k3*l.k0*l.k1*l.k2)*t:=by
 rw [zO,(aNQ l).1,(aNQ l).2.1,(aNQ l).2.2]
 grind
theorem zH (m:P4 Rat):m.s.a*m.k3=m.p.a*m.k0+m.q.a*m.k1+m.r.a*m.k2∧m.s.b*m.k3=m.p.b*m.k0+m.q.b*m.k1+m.r.b*m.k2∧m.s.c*m.k3=m.p.c*m.k0+m.q.c*m.k1+m.r.c*m.k2:=by
 have h:=cram3 m
 simp only [T3.smul,T3.add,T3.mk.injEq] at h
 refine ⟨?_,?_,?_⟩ <;>grind
theorem aKZ (l m:P4 Rat):(tJ l m).app l.p=m.p.smul (m.k0*l.k1*l.k2*l.k3)∧(tJ l m).app l.q=m.q.smul (m.k1*l.k0*l.k2*l.k3)∧(tJ l m).app l.r=m.r.smul (m.k2*l.k0*l.k1*l.k3)∧(tJ l m).app l.s=m.s.smul (m.k3*l.k0*l.k1*l.k2):=by
 rw [aHO]
 have hc:=zH m
 refine ⟨?_,?_,?_,?_⟩
 ·simp only [M9.app,T3.smul,bFX]
 ·simp only [M9.app,T3.smul,bEY]
 ·simp only [M9.app,T3.smul,bED]
 ·simp only [M9.app,T3.smul]
  rw [aON l m _ _ _ _ hc.1,aON l m _ _ _ _ hc.2.1,aON l m _ _ _ _ hc.2.2]
structure P4.ok (l:P4 Rat):Prop where
 h0:l.k0≠0
 h1:l.k1≠0
 h2:l.k2≠0
 h3:l.k3≠0
theorem bEN {p q r:T3 Rat} (hd:d3 p q r≠0) {x y z:Rat} (ha:x*p.a+y*q.a+z*r.a=0) (hb:x*p.b+y*q.b+z*r.b=0) (hc:x*p.c+y*q.c+z*r.c=0):x=0∧y=0∧z=0:=by
 have ex:x*d3 p q r=(x*p.a+y*q.a+z*r.a)*(q.cross r).a+(x*p.b+y*q.b+z*r.b)*(q.cross r).b+(x*p.c+y*q.c+z*r.c)*(q.cross r).c:=by
  simp only [T3.cross,T3.dot,d3];grind
 have ey:y*d3 p q r=(x*p.a+y*q.a+z*r.a)*(r.cross p).a+(x*p.b+y*q.b+z*r.b)*(r.cross p).b+(x*p.c+y*q.c+z*r.c)*(r.cross p).c:=by
  simp only [T3.cross,T3.dot,d3];grind
 have ez:z*d3 p q r=(x*p.a+y*q.a+z*r.a)*(p.cross q).a+(x*p.b+y*q.b+z*r.b)*(p.cross q).b+(x*p.c+y*q.c+z*r.c)*(p.cross q).c:=by
  simp only [T3.cross,T3.dot,d3];grind
 rw [ha,hb,hc] at ex ey ez
 have f:∀g:Rat,g*d3 p q r=0→g=0:=fun g h=>(Rat.mul_eq_zero.1 h).resolve_right hd
 exact ⟨f x (by grind),f y (by grind),f z (by grind)⟩
theorem aPE {l m:P4 Rat} {H:M9 Rat} {c0 c1 c2 c3:Rat} (h0:H.app l.p=m.p.smul c0) (h1:H.app l.q=m.q.smul c1) (h2:H.app l.r=m.r.smul c2) (h3:H.app l.s=m.s.smul c3) (hm:m.ok):
  m.k3*l.k0*c0=l.k3*c3*m.k0∧m.k3*l.k1*c1=l.k3*c3*m.k1∧m.k3*l.k2*c2=l.k3*c3*m.k2:=by
 have hl:=zH l
 have hc:=zH m
 have e:∀(x0 x1 x2 x3:Rat) (R:T3 Rat),R.dot l.p=c0*x0→R.dot l.q=c1*x1→R.dot l.r=c2*x2→R.dot l.s=c3*x3→x3*m.k3=x0*m.k0+x1*m.k1+x2*m.k2→
   (m.k3*l.k0*c0 - l.k3*c3*m.k0)*x0+(m.k3*l.k1*c1 - l.k3*c3*m.k1)*x1+(m.k3*l.k2*c2 - l.k3*c3*m.k2)*x2=0:=by
  intro x0 x1 x2 x3 R e0 e1 e2 e3 e4
  have e5:R.dot l.s*l.k3=R.dot l.p*l.k0+R.dot l.q*l.k1+R.dot l.r*l.k2:=by
   have a1:=hl.1
   have a2:=hl.2.1
   have a3:=hl.2.2
   simp only [T3.dot]
   grind
  rw [e0,e1,e2,e3] at e5
  generalize l.k0=a0 at*
  generalize l.k1=a1 at*
  generalize l.k2=a2 at*
  generalize l.k3=a3 at*
  generalize m.k0=b0 at*
  generalize m.k1=b1 at*
  generalize m.k2=b2 at*
  generalize m.k3=b3 at*
  grind
 simp only [M9.app,T3.smul,T3.mk.injEq] at h0 h1 h2 h3
 have ea:=e m.p.a m.q.a m.r.a m.s.a H.x h0.1 h1.1 h2.1 h3.1 hc.1
 have eb:=e m.p.b m.q.b m.r.b m.s.b H.y h0.2.1 h1.2.1 h2.2.1 h3.2.1 hc.2.1
 have ec:=e m.p.c m.q.c m.r.c m.s.c H.z h0.2.2 h1.2.2 h2.2.2 h3.2.2 hc.2.2
 obtain ⟨d0,d1,d2⟩:=bEN (p:=m.p) (q:=m.q) (r:=m.r) hm.h3 ea eb ec
 refine ⟨?_,?_,?_⟩ <;>grind
theorem aFP {l m:P4 Rat} (hl:l.ok) {c0 c1 c2 c3 u v w:Rat} {R:T3 Rat} (e0:R.dot l.p=c0*u) (e1:R.dot l.q=c1*v) (e2:R.dot l.r=c2*w)
  (s0:m.k3*l.k0*c0=l.k3*c3*m.k0) (s1:m.k3*l.k1*c1=l.k3*c3*m.k1) (s2:m.k3*l.k2*c2=l.k3*c3*m.k2):
  R.smul (m.k3*l.k0*l.k1*l.k2)=(aCO l m u v w).smul c3:=by
 have f:=bFE l.p l.q l.r R
 rw [e0,e1,e2] at f
 have hk:d3 l.p l.q l.r=l.k3:=rfl
 rw [hk] at f
 have h3:=hl.h3
 have fin:∀R' A B C:Rat,l.k3*R'=c0*u*A+c1*v*B+c2*w*C→m.k3*l.k0*l.k1*l.k2*R'=c3*(m.k0*u*(l.k1*l.k2)*A+m.k1*v*(l.k2*l.k0)*B+m.k2*w*(l.k0*l.k1)*C):=by
  intro R' A B C h
  have e:l.k3*(m.k3*l.k0*l.k1*l.k2*R')=l.k3*(c3*(m.k0*u*(l.k1*l.k2)*A+m.k1*v*(l.k2*l.k0)*B+m.k2*w*(l.k0*l.k1)*C)):=by
   generalize l.k0=a0 at*
   generalize l.k1=a1 at*
   generalize l.k2=a2 at*
   generalize l.k3=a3 at*
   generalize m.k0=b0 at*
   generalize m.k1=b1 at*
   generalize m.k2=b2 at*
   generalize m.k3=b3 at*
   have e1:a3*(b3*a0*a1*a2*R')=b3*a0*a1*a2*(a3*R'):=by grind
   rw [e1,h]
   have e2:b3*a0*a1*a2*(c0*u*A+c1*v*B+c2*w*C)=(b3*a0*c0)*(a1*a2*u*A)+(b3*a1*c1)*(a0*a2*v*B)+(b3*a2*c2)*(a0*a1*w*C):=by grind
   rw [e2,s0,s1,s2]
   grind
  have e':l.k3*(m.k3*l.k0*l.k1*l.k2*R' - c3*(m.k0*u*(l.k1*l.k2)*A+m.k1*v*(l.k2*l.k0)*B+m.k2*w*(l.k0*l.k1)*C))=0:=by
   have e9:∀x y z:Rat,x*y=x*z→x*(y - z)=0:=by intro x y z h;grind
   exact e9 _ _ _ e
  have:=(Rat.mul_eq_zero.1 e').resolve_left h3
  grind
 simp only [T3.smul,T3.add,T3.mk.injEq] at f
 obtain ⟨fa,fb,fc⟩:=f
 unfold aCO
 apply T3.ext3 <;>simp only [T3.smul,T3.add]
 ·exact fin _ _ _ _ fa
 ·exact fin _ _ _ _ fb
 ·exact fin _ _ _ _ fc
theorem aSL {l m:P4 Rat} {H:M9 Rat} {c0 c1 c2 c3:Rat} (hl:l.ok) (hm:m.ok) (h0:H.app l.p=m.p.smul c0) (h1:H.app l.q=m.q.smul c1) (h2:H.app l.r=m.r.smul c2) (h3:H.app l.s=m.s.smul c3):
  H.x.smul (m.k3*l.k0*l.k1*l.k2)=(tJ l m).x.smul c3∧H.y.smul (m.k3*l.k0*l.k1*l.k2)=(tJ l m).y.smul c3∧H.z.smul (m.k3*l.k0*l.k1*l.k2)=(tJ l m).z.smul c3:=by
 obtain ⟨s0,s1,s2⟩:=aPE h0 h1 h2 h3 hm
 rw [aHO]
 simp only [M9.app,T3.smul,T3.mk.injEq] at h0 h1 h2
 exact ⟨aFP hl h0.1 h1.1 h2.1 s0 s1 s2,aFP hl h0.2.1 h1.2.1 h2.2.1 s0 s1 s2,aFP hl h0.2.2 h1.2.2 h2.2.2 s0 s1 s2⟩
structure ZE where
 z:Int
 p:Option Addr
 c:Nat
instance ZE.inh:Inhabited ZE:=⟨⟨0,none,0⟩⟩
abbrev eN (e:ZE):List Value:=[.bool (B (e.z < 0)), .slice e.p (gr e.z.natAbs).length e.c]
abbrev nv (e:ZE):Value:= .agg #[.bool (B (e.z < 0)), .slice e.p (gr e.z.natAbs).length e.c]
abbrev zN:List Value:=[.bool false, .slice none 0 0]
instance ZE.szd:Sized eN 2:=⟨fun _=>rfl⟩
instance ZE.ones:Ones eN:=⟨fun m u hu=>by
 simp only [eN,List.mem_cons,List.not_mem_nil,or_false] at hu
 rcases hu with rfl|rfl <;>rfl⟩
abbrev jF (e:ZE) (k:Nat):aL:=iA (nv e) e.z k
def wN:Option ZE→List Value
 |none=>zN
 |some e=>eN e
instance wN.szd:Sized wN 2:=⟨fun o=>by cases o <;>rfl⟩
instance wN.ones:Ones wN:=⟨fun m u hu=>by
 rcases m with _|e
 ·simp only [wN,zN,List.mem_cons,List.not_mem_nil,or_false] at hu
  rcases hu with rfl|rfl <;>rfl
 ·exact ZE.ones.one e u hu⟩
structure AllO (os:List (Option ZE)) (k:Nat) (X:List Nat) (w:World):Prop where
 go:∀e:ZE,some e∈os→IsI (nv e) e.z k X w
abbrev pJ (os:List (Option ZE)) (k:Nat):aL:=AllO os k
instance (os:List (Option ZE)) (k:Nat):Fx.Good (AllO os k):=⟨fun X Y w w' h he hY=>⟨fun e hm=>Fx.Good.go (φ:=IsI _ _ _) X Y w w' (h.go e hm) he hY⟩⟩
theorem Hv.oNil {I:List aL} {n k:Nat}:Hv I (pJ (List.replicate n none) k):=⟨fun X w _=>⟨fun e he=>by cases (List.mem_replicate.1 he).2⟩⟩
theorem Hv.oSet {I:List aL} {os:List (Option ZE)} {g:ZE} {k:Nat} {i:Int} (h:pJ os k∈I) (hg:jF g k∈I):Hv I (pJ (st os i (some g)) k):=⟨fun X w hw=>⟨fun e he=>by
 rcases List.mem_or_eq_of_mem_set he with h1|h1
 ·exact (hw _ h:AllO os k X w).go e h1
 ·cases h1
  exact hw _ hg⟩⟩
theorem Hv.oAt {I:List aL} {os:List (Option ZE)} {g:ZE} {k:Nat} {i:Int} (h:pJ os k∈I) (hi:0≤i∧i < os.length) (he:gt os i=some g):Hv I (jF g k):=⟨fun X w hw=>(hw _ h:AllO os k X w).go g (by rw [←he];exact bF hi)⟩
theorem AtsZ.o0 {α:Type} [Inhabited α] {enc:α→List Value} {sz:Nat} [hz:Sized enc sz] {ms:List α} {i:Int} (hi:0≤i∧i < ms.length):AtsZ (recs enc ms) (0+i.toNat*sz) (enc (gt ms i)) sz:=by rw [Nat.zero_add];exact AtsZ.r hi
theorem StAts.o0 {α:Type} {enc:α→List Value} {sz:Nat} [hz:Sized enc sz] {ms:List α} {i:Int} {vs:List Value} (mm:α) (hi:0≤i∧i < ms.length) (hv:vs=enc mm):StAts (recs enc ms) (0+i.toNat*sz) vs (recs enc (st ms i mm)):=by rw [Nat.zero_add];exact StAts.r mm hi hv
theorem pM {α:Type} [Inhabited α] {os:List α} {g:α} {i j:Nat} (hi:i < os.length) (hj:j < os.length):gt (st os (i:Int) g) (j:Int)=if j=i then g else gt os (j:Int):=by
 rw [dP (by simp [st];omega),dP hj]
 simp only [st,Int.toNat_natCast,List.getElem_set]
 by_cases h:i=j
 ·rw [if_pos h,if_pos h.symm]
 ·rw [if_neg h,if_neg (fun e=>h e.symm)]
theorem oP {α:Type} {os:List α} {g:α} {i:Int}:(st os i g).length=os.length:=by simp [st]
theorem os3 {α:Type} [Inhabited α] {os:List α} (h:os.length=3):os=[gt os 0,gt os 1,gt os 2]:=by
 match os,h with
 |[a,b,c],_=>rfl
theorem Hv.nUp {I:List aL} {e:ZE} {k m:Nat} (h:Hv I (jF e k)) (hk:k≤m):Hv I (jF e m):=⟨fun X w hw=>(h.go X w hw).mono hk⟩
def NQ (z:Int) (k:Nat) (M0:List Ent) (I0:List aL) (v:Value) (M:List Ent) (I:List aL):Prop:=M0=M∧∃e:ZE,v=nv e∧e.z=z∧I=jF e k::I0
structure TZ where
 x:ZE
 y:ZE
 z:ZE
instance TZ.inh:Inhabited TZ:=⟨⟨default,default,default⟩⟩
def TZ.l (p:TZ):List ZE:=[p.x,p.y,p.z]
abbrev mH (p:TZ):List Value:=recs eN [p.x,p.y,p.z]
abbrev dL (p:TZ):Value:= .agg (recs eN [p.x,p.y,p.z]).toArray
instance TZ.szd:Sized mH 6:=⟨fun _=>rfl⟩
instance TZ.ones:Ones mH:=⟨fun m u hu=>uP _ u hu⟩
def TZ.t (p:TZ):T3 Int:=⟨p.x.z,p.y.z,p.z.z⟩
structure IsTZ (p:TZ) (k:Nat) (X:List Nat) (w:World):Prop where
 x:IsI (nv p.x) p.x.z k X w
 y:IsI (nv p.y) p.y.z k X w
 z:IsI (nv p.z) p.z.z k X w
abbrev aX (p:TZ) (k:Nat):aL:=IsTZ p k
instance (p:TZ) (k:Nat):Fx.Good (IsTZ p k):=⟨fun X Y w w' h he hY=>⟨Fx.Good.go (φ:=IsI _ _ _) X Y w w' h.x he hY,Fx.Good.go (φ:=IsI _ _ _) X Y w w' h.y he hY,Fx.Good.go (φ:=IsI _ _ _) X Y w w' h.z he hY⟩⟩
theorem Hv.zx {I:List aL} {p:TZ} {k:Nat} (h:aX p k∈I):Hv I (jF p.x k):=⟨fun X w hw=>(hw _ h:IsTZ p k X w).x⟩
theorem Hv.zy {I:List aL} {p:TZ} {k:Nat} (h:aX p k∈I):Hv I (jF p.y k):=⟨fun X w hw=>(hw _ h:IsTZ p k X w).y⟩
theorem Hv.zz {I:List aL} {p:TZ} {k:Nat} (h:aX p k∈I):Hv I (jF p.z k):=⟨fun X w hw=>(hw _ h:IsTZ p k X w).z⟩
theorem Hv.mkZ {I:List aL} {a b c:ZE} {k:Nat} (ha:jF a k∈I) (hb:jF b k∈I) (hc:jF c k∈I):Hv I (aX ⟨a,b,c⟩ k):=⟨fun X w hw=>⟨hw _ ha,hw _ hb,hw _ hc⟩⟩
theorem Hv.zAt {I:List aL} {p:TZ} {k:Nat} {i:Int} (h:aX p k∈I) (hi:0≤i∧i < 3):Hv I (jF (gt [p.x,p.y,p.z] i) k):=⟨fun X w hw=>by
 have h1:IsTZ p k X w:=hw _ h
 obtain rfl|rfl|rfl:i=0∨i=1∨i=2:=by omega
 ·exact h1.x
 ·exact h1.y
 ·exact h1.z⟩
def VQ (q:T3 Int) (k:Nat) (M0:List Ent) (I0:List aL) (v:Value) (M:List Ent) (I:List aL):Prop:=M0=M∧∃p:TZ,v=dL p∧p.t=q∧I=aX p k::I0
def sI (f:Nat→Int):Nat→Int
 |0=>0
 |n+1=>sI f n+f n
section
variable {X:List Nat} {w0:World} {M0:List Ent} {I0:List aL}
theorem CD.nq {f:FuncId} {vs:List Value} {z:Int} {k:Nat} (h:CD Tryz.prog f vs X w0 M0 I0 (fun v M I=>M0=M∧I=iA v z k::I0)):CD Tryz.prog f vs X w0 M0 I0 (NQ z k M0 I0):=
 h.post (fun v M I w h hw=>by
  obtain ⟨rfl,rfl⟩:=h
  have hi:IsI v z k (muts M0) w:=(hw.imm _ (List.Mem.head _)).2
  obtain ⟨q,c,rfl,_⟩:=hi.ex
  exact ⟨M0,_,⟨rfl,⟨z,q,c⟩,rfl,rfl,rfl⟩,hw⟩)
theorem aEN {k c:Nat} (h:k+1≤c):2 ^ k+2 ^ k≤2 ^ c:=Nat.le_trans (by rw [Nat.pow_succ];omega) (Nat.pow_le_pow_right (by decide) h:2 ^ (k+1)≤2 ^ c)
theorem NMul {a b:ZE} {k m:Nat} (hk:k+m≤1000000000000) (ha:jF a k∈I0) (hb:jF b m∈I0):CD Tryz.prog 59 [nv a,nv b] X w0 M0 I0 (NQ (a.z*b.z) (k+m) M0 I0):=CD.nq (uA hk ha hb)
theorem NAdd {a b:ZE} {k c:Nat} (hc:c≤1000000000000) (hk:k+1≤c) (ha:jF a k∈I0) (hb:jF b k∈I0):CD Tryz.prog 168 [nv a,nv b] X w0 M0 I0 (NQ (a.z+b.z) c M0 I0):=CD.nq (aWF (by omega) (by omega) hc (aEN hk) ha hb)
theorem NOf {x:Int} (hx: -9223372036854775808≤x∧x≤9223372036854775807):CD Tryz.prog 58 [.int .i64 x] X w0 M0 I0 (NQ x 63 M0 I0):=CD.nq (aFL hx)
theorem bFT {u v:Value} {y z:Int} {k m c:Nat} (hk:k≤1000000000000) (hm:m≤1000000000000) (hc0:c≤1000000000000) (hs:2 ^ k+2 ^ m≤2 ^ c) (hu:iA u y k∈I0) (hv:iA v z m∈I0):CD Tryz.prog 193 [u,v] X w0 M0 I0 (fun v M I=>M0=M∧I=iA v (y - z) c::I0):=by
 refine bZ hu (fun q cq e hc hy=>?_)
 subst e
 refine bZ (List.Mem.tail _ hv) (fun q' cq' e hc' hz=>?_)
 subst e
 have hl:=fV hy (by omega)
 have hl':=fV hz (by omega)
 unfold iv
 refine aM Tryz.func193 rfl Tryz.ntmps193 rfl ?_
 refine gG ?_
 refine gN rfl (fun b=>?_)
 refine gN rfl (fun b2=>?_)
 refine cK (fun b3=>?_)
 repeat refine aB ?_
 (repeat refine aG ?_);refine aW 3 [0,1,2,4,5,6,7,3,8,9,10] [3,2,2,3,3,2,2,0,0,0,0] mixed (by kernel_rfl) ?_
 repeat refine aB ?_
 refine dH rfl (iU (c:=cq) hy (by omega) aA) ?_
 repeat refine aB ?_
 refine dH rfl (iU (c:=cq') hz (by omega) aA) ?_
 repeat refine aB ?_
 have hyz:y.natAbs+z.natAbs≤2 ^ c:=Nat.le_trans (Nat.add_le_add hy hz) hs
 have hS:=fun M0 I0=>aVD (X:=X) (w0:=w0) (M0:=M0) (I0:=I0) (p:=q) (q:=q') (cp:=cq) (cq:=cq') (pn:=y < 0) (qn:=¬(z < 0)) (k:=c) (by omega) (by omega) hyz hc0
 rw [rC,aOK,←Int.sub_eq_add_neg] at hS
 (refine bD rfl (hS _ _ aA aA) ?_;rintro _ _ _ ⟨rfl,rfl⟩;refine aN ?_;refine aT (List.Mem.head _) (fun q2 c2 e__ hc2 hz2=>?_);subst e__)
 unfold iv
 repeat refine aB ?_
 refine aO (cs:=[.bool (B (y - z < 0)), .slice q2 (gr (y - z).natAbs).length c2]) (.inl rfl) rfl rfl aA rfl _ _ aF aC ⟨rfl,rfl⟩
theorem NSub {a b:ZE} {k c:Nat} (hc:c≤1000000000000) (hk:k+1≤c) (ha:jF a k∈I0) (hb:jF b k∈I0):CD Tryz.prog 193 [nv a,nv b] X w0 M0 I0 (NQ (a.z - b.z) c M0 I0):=CD.nq (bFT (by omega) (by omega) hc (aEN hk) ha hb)
theorem aZS {q:Option Addr} {es:List ZE} {n c u:Nat} (hk:63≤u) (hk2:u+n≤400000000000) (hl:es.length=n) (hq:aI q (recs eN es)∈I0) (he:∀e∈es,jF e u∈I0):
  CD Tryz.prog 204 [.slice q n c] X w0 M0 I0 (NQ (sI (fun t=>(gt es (t:Int)).z) n) (u+n) M0 I0):=by
 have hO:=fun M0 I0=>NOf (X:=X) (w0:=w0) (M0:=M0) (I0:=I0) (x:=0) (by decide)
 refine aV (φ:=aI q (recs eN es)) (Hv.mem hq) ?_
 refine aR Tryz.func204 rfl Tryz.ntmps204 rfl ?_
 refine gG ?_
 refine cK (fun b2=>?_)
 repeat refine aB ?_
 (refine bD rfl (hO _ _) ?_;rintro _ _ _ ⟨rfl,e0,rfl,he0,rfl⟩;refine aN ?_)
 refine cK (fun b3=>?_)
 repeat refine aB ?_
 refine bG (φ:=jF e0 (u+0)) (Hv.nUp (k:=63) (Hv.mem aA) (by omega)) ?_
 refine lX [2,3,7,8] rfl (fun k G M I=>∃(i:Nat) (s:ZE),i≤n∧k=n - i∧s.z=sI (fun t=>(gt es (t:Int)).z) i∧G=[(9, .int .i64 i)]∧M= .blk b3 (eN s) 42:: .blk b2 zN 42::M0∧I=jF s (u+i)::aI q (recs eN es)::I0) (n) (⟨0,e0,by omega,rfl,he0,rfl,rfl,rfl⟩) ?_
 rintro kk G M I ⟨i,s,hi,rfl,hs,rfl,rfl,rfl⟩
 by_cases hii:i < n
 ·have hmem:=bF (ms:=es) (i:=(i:Int)) (by omega)
  have hf:=he _ hmem
  obtain ⟨x,hx⟩:∃x,gt es (i:Int)=x:=⟨_,rfl⟩
  rw [hx] at hf
  have hA:=fun M0 I0 h1 h2=>NAdd (X:=X) (w0:=w0) (M0:=M0) (I0:=I0) (a:=s) (b:=x) (k:=u+i) (c:=u+(i+1)) (by omega) (by omega) h1 h2
  refine bG (φ:=jF x (u+i)) (Hv.nUp (k:=u) (Hv.mem (List.mem_cons_of_mem _ (List.mem_cons_of_mem _ hf))) (by omega)) ?_
  repeat refine aB ?_
  rw [hx]
  refine cK (fun b5=>?_)
  repeat refine aB ?_
  (refine bD rfl (hA _ _ aA aA) ?_;rintro _ _ _ ⟨rfl,g,rfl,hg,rfl⟩;refine aN ?_)
  repeat refine aB ?_
  refine gL (n - (i+1)) (⟨i+1,g,by omega,rfl,by rw [hg,hs];show _+_=sI _ i+(gt es (i:Int)).z;rw [hx],rfl,rfl,rfl⟩)
 ·obtain rfl:i=n:=by omega
  repeat refine aB ?_
  refine aO (cs:=eN s) (.inl rfl) rfl rfl aA rfl M0 (jF s (u+i)::I0) aF aC ⟨rfl,s,rfl,hs,rfl⟩
theorem aQA {p q:TZ} {k m:Nat} (hk:63≤k+m) (hk2:k+m≤100000000000) (hp:aX p k∈I0) (hq:aX q m∈I0):CD Tryz.prog 131 [dL p,dL q] X w0 M0 I0 (NQ (p.t.dot q.t) (k+m+3) M0 I0):=by
 have hM:=fun (a b:ZE) M0 I0 h1 h2=>NMul (X:=X) (w0:=w0) (M0:=M0) (I0:=I0) (a:=a) (b:=b) (k:=k) (m:=m) (by omega) h1 h2
 have hS:=fun (b:Nat) (x y z:ZE) M0 I0 h1 h2=>aZS (X:=X) (w0:=w0) (M0:=M0) (I0:=I0) (q:=some ⟨b,0,none⟩) (es:=[x,y,z]) (n:=3) (c:=3) (u:=k+m) hk (by omega) rfl h1 h2
 refine aV (φ:=jF p.x k) (Hv.zx hp) (aV (φ:=jF p.y k) (Hv.zy (List.mem_cons_of_mem _ hp)) (aV (φ:=jF p.z k) (Hv.zz (List.mem_cons_of_mem _ (List.mem_cons_of_mem _ hp))) ?_))
 refine aV (φ:=jF q.x m) (Hv.zx (k:=m) (List.mem_cons_of_mem _ (List.mem_cons_of_mem _ (List.mem_cons_of_mem _ hq)))) (aV (φ:=jF q.y m) (Hv.zy (k:=m) (List.mem_cons_of_mem _ (List.mem_cons_of_mem _ (List.mem_cons_of_mem _ (List.mem_cons_of_mem _ hq))))) (aV (φ:=jF q.z m) (Hv.zz (k:=m) (List.mem_cons_of_mem _ (List.mem_cons_of_mem _ (List.mem_cons_of_mem _ (List.mem_cons_of_mem _ (List.mem_cons_of_mem _ hq)))))) ?_))
 refine aM Tryz.func131 rfl Tryz.ntmps131 rfl ?_
 refine gG ?_
 refine gN rfl (fun b2=>?_)
 refine aH (cs:=mH p) .here ?_
 refine gN rfl (fun b3=>?_)
 refine aH (cs:=mH q) .here ?_
 refine cK (fun b4=>?_)
 repeat refine aB ?_
 refine jQ (fun G M I=>∃(g:ZE),g.z=p.t.dot q.t∧G=[(4, .pointer (some ⟨b4,0,none⟩))]∧M= .blk b4 (eN g) 42::M0∧I=jF g (k+m+3)::I0) ?_ ?_
 ·(repeat refine aG ?_);refine pW (M0) (aI (some ⟨b3,0,none⟩) (mH q)::aI (some ⟨b2,0,none⟩) (mH p)::I0) [0,1,2,3,5,6,7,8,10,11,12,13,4,9,14,15,16,17] [5,4,5,4,5,4,5,4,5,4,5,4,0,0,0,0,0,0] mixed ?_
  repeat refine aB ?_
  (refine bD rfl (hM p.x q.x _ _ aA aA) ?_;rintro _ _ _ ⟨rfl,g0,rfl,hg0,rfl⟩;refine aN ?_)
  (refine bD rfl (hM p.y q.y _ _ aA aA) ?_;rintro _ _ _ ⟨rfl,g1,rfl,hg1,rfl⟩;refine aN ?_)
  (refine bD rfl (hM p.z q.z _ _ aA aA) ?_;rintro _ _ _ ⟨rfl,g2,rfl,hg2,rfl⟩;refine aN ?_)
  refine gK (cs:=recs eN [g0,g1,g2]) ([nv g0,nv g1,nv g2]) rfl (fun b=>?_)
  refine aH (cs:=recs eN [g0,g1,g2]) .here ?_
  (refine bR rfl (hS b g0 g1 g2 _ _ aA (fun e he=>by
   simp only [List.mem_cons,List.not_mem_nil,or_false] at he
   rcases he with rfl|rfl|rfl <;>simp)) rfl rfl ?_;rintro _ _ _ ⟨rfl,g,rfl,hg,rfl⟩;refine aN ?_)
  repeat refine aB ?_
  refine tV ⟨g,by rw [hg];show 0+g0.z+g1.z+g2.z=p.x.z*q.x.z+p.y.z*q.y.z+p.z.z*q.z.z;rw [hg0,hg1,hg2,Int.zero_add],rfl,rfl,rfl⟩
 rintro G M I ⟨g,hg,rfl,rfl,rfl⟩
 repeat refine aB ?_
 refine aO (cs:=eN g) (.inl rfl) rfl rfl aA rfl M0 (jF g (k+m+3)::I0) aF aC ⟨rfl,g,rfl,hg,rfl⟩
end
end Go.Proofs.YtmmmfphealhapaaGreat
