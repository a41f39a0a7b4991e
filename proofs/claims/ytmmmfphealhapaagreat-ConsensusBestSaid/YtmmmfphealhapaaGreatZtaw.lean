/- The law's model of a sample; the program's Model. -/
import Derived.Test.YtmmmfphealhapaaGreatZtav
import Derived.Test.YtmmmfphealhapaaGreatZtau
import Derived.Test.YtmmmfphealhapaaGreatZtat
import Derived.Test.YtmmmfphealhapaaGreatZtal
import Derived.Test.YtmmmfphealhapaaGreatZtar
set_option linter.unusedSimpArgs false
set_option linter.unusedVariables false
set_option maxRecDepth 100000
set_option maxHeartbeats 4000000
namespace Go.Proofs.YtmmmfphealhapaaGreat
open Go Go.Fx
theorem aOT {kd:Nat}:kb 16 (lG kd+1)≤267605:=by
 have h:=tL 16 (m:=lG kd+1) (n:=7) (by have:=aMX kd;omega)
 exact Nat.le_trans h (by decide)
theorem bCS {kd:Nat}:kb 16 (lG kd)≤267605:=Nat.le_trans (tL 16 (by omega)) (aOT (kd:=kd))
theorem bDQ {q:Rat}:q.num.sign=0↔q=0:=⟨fun h=>Rat.num_eq_zero.1 (Int.sign_eq_zero_iff_zero.1 h),fun h=>Int.sign_eq_zero_iff_zero.2 (Rat.num_eq_zero.2 h)⟩
def modC (x:Int) (l:List Q4) (n:Nat) (smp:List Int):Int:=if pK x l≠0 then pK x l else if (smp.length:Int)≠x+1 then 4 else lstC n smp
section
variable {X:List Nat} {w0:World} {M0:List Ent} {I0:List aL}
theorem aGS {kd:Nat} {q qs_:Option Addr} {l:List Q4} {smp:List Int} {n c ns cs_:Nat} (hk:kd≤3) (hl:l.length=n) (hn:n≤64) (hs:∀s∈l,s.near) (hsl:smp.length=ns) (hns:ns=kd+1) (hin:∀x∈smp,0≤x∧x < n) (hq:aI q (recs gX l)∈I0) (hqs:aI qs_ (recs eZ smp)∈I0):
  CD Tryz.prog 23 [.int .i64 (kd:Int), .slice q n c, .slice qs_ ns cs_] X w0 M0 I0 (aFX (aAU kd l smp) (nX+nX) M0 I0):=by
 refine aV (φ:=aI q (recs gX l)) (Hv.mem hq) (aV (φ:=aI qs_ (recs eZ smp)) (Hv.mem (List.mem_cons_of_mem _ hqs)) ?_)
 by_cases h3:kd=3
 ·subst h3
  obtain rfl:ns=4:=hns
  have hH:=fun M0 I0 h1 h2=>bBH (X:=X) (w0:=w0) (M0:=M0) (I0:=I0) (q:=q) (qs_:=qs_) (l:=l) (smp:=smp) (n:=n) (c:=c) (cs_:=cs_) hl hn hs hsl hin h1 h2
  unfold aAU
  rw [if_pos rfl]
  unfold aFX at hH ⊢
  generalize aAN (bM l smp)=o at*
  refine iC Tryz.func23 rfl Tryz.ntmps23 rfl ?_
  rcases o with _|A
  ·repeat refine aB ?_
   (refine bD rfl (hH _ _ aA aA) ?_;rintro _ _ _ ⟨rfl,rfl,u,rfl⟩;refine aN ?_)
   repeat refine aB ?_
   refine fC (M':=M0) (I':=I0) aF aC ?_
   refine tyS [6,7] rfl rfl (⟨rfl,rfl,u,rfl⟩)
  ·repeat refine aB ?_
   (refine bD rfl (hH _ _ aA aA) ?_;rintro _ _ _ ⟨rfl,m,rfl,hmq,hmd,rfl⟩;refine aN ?_)
   repeat refine aB ?_
   refine fC (M':=M0) (I':=gI m (nX+nX)::I0) aF aC ?_
   refine tyS [6,7] rfl rfl (⟨rfl,m,rfl,hmq,hmd,rfl⟩)
 have hk2:kd≤2:=by omega
 unfold aAU
 rw [if_neg h3]
 have hpl:(bM l smp).length=kd+1:=by rw [oC,hsl,hns]
 have hpn:bM l smp≠[]:=fun e=>by rw [e] at hpl;cases hpl
 have hC2:2*(bM l smp).length=lG kd:=by rw [hpl,bFH hk2]
 have hC:=aMX kd
 have hdA:=aRF hC2
 have hdB:(zV kd (bM l smp)).length=lG kd:=by rw [wD,hC2]
 have hfit:=aRD hC2
 have hEq:=fun M0 I0 h1 h2=>aGK (X:=X) (w0:=w0) (M0:=M0) (I0:=I0) (kd:=kd) (q:=q) (qs_:=qs_) (l:=l) (smp:=smp) (n:=n) (c:=c) (ns:=ns) (cs_:=cs_) hk2 hl hn hs hsl (by omega) hin h1 h2
 obtain ⟨K,hK⟩:∃K,kb 16 (lG kd+1)=K:=⟨_,rfl⟩
 have hK2:K≤267605:=by rw [←hK];exact aOT
 have hSv:=fun (A:MX) (b:RL) dA lb M0 I0 h1 h2=>aNK (X:=X) (w0:=w0) (M0:=M0) (I0:=I0) (a:=A) (b:=b) (C:=lG kd) (u:=16) (by omega) (Nat.le_trans aOT (by decide)) dA lb h1 h2
 have hRk:=fun (A:MX) (dA:A.dim (lG kd) (lG kd)) M0 I0 h1=>aXC (X:=X) (w0:=w0) (M0:=M0) (I0:=I0) (a:=A) (R:=lG kd) (C:=lG kd) (k0:=16) (Nat.le_trans bCS (by decide)) (by omega) (by omega) dA h1
 have hSh:=fun (x:RL) (hx:x.es.length=lG kd) M0 I0 h=>aTX (X:=X) (w0:=w0) (M0:=M0) (I0:=I0) (kd:=kd) (u:=K) (x:=x) hk2 (by omega) (by omega) h
 have hh:hD K 3≤50000000000:=by show (2+2)*(K+(1+2)*(K+(0+2)*(K+K+1)+1)+1)≤_;omega
 have hDt:=fun (m:MX) (dm:m.dim 3 3) M0 I0 h=>aPM 3 (X:=X) (w0:=w0) (M0:=M0) (I0:=I0) (m:=m) (k0:=K) (by omega) (by omega) hh dm h
 have hSg:=fun (e:RE) M0 I0 h=>pV (X:=X) (w0:=w0) (M0:=M0) (I0:=I0) (e:=e) (k:=hD K 3) (by omega) h
 rw [hK] at hSv
 unfold SolG at hSv
 refine iC Tryz.func23 rfl Tryz.ntmps23 rfl ?_
 repeat refine aB ?_
 (refine bD rfl (hEq _ _ aA aA) ?_;rintro _ _ _ ⟨rfl,A,b,rfl,hAq,hbq,rfl⟩;refine aN ?_)
 have dA:A.dim (lG kd) (lG kd):=aWA (by rw [hAq];exact hdA)
 have lb:b.es.length=lG kd:=by rw [show b.es.length=b.q.length from (List.length_map ..).symm,hbq];exact hdB
 have lA:=dA.1
 have lA0:(gt A.rows 0).es.length=lG kd:=dA.row (i:=0) (by omega)
 have hSv2:=hSv A b dA lb
 rw [hAq,hbq] at hSv2
 refine bQ (φ:=aI A.p (recs eL A.rows)) (Hv.xsl (k:=16) aA) ?_
 repeat refine aB ?_
 (refine bD rfl (hSv2 _ _ aA aA) ?_;rintro _ _ _ ⟨rfl,(⟨hd0,rfl,rfl⟩|⟨x,rfl,hxl,hxq,rfl⟩)⟩)
 ·refine aN ?_
  have hr:rk (sP kd (bM l smp)) (lG kd) < lG kd:=by
   have h1:=aPC hdA
   have h2:rk (sP kd (bM l smp)) (lG kd)≠lG kd:=fun e=>(aMF hdA).1 e hd0
   omega
  rw [if_pos hr] at hfit
  have hp:qQ kd (bM l smp)=none:=by unfold qQ;rw [if_neg hpn,if_pos hfit]
  rw [hp]
  repeat refine aB ?_
  (repeat refine aG ?_);refine pW (M0) (I0) [0,1,2,3,5,6,7,8,4,9,10] [1,1,0,0,1,1,1,1,0,0,0] mixed ?_
  repeat refine aB ?_
  refine fC (M':=M0) (I':=I0) aF aC ?_
  refine gJ [6,7] (by first|exact .inl rfl|exact .inr rfl) rfl rfl rfl _ _ aF aC (⟨rfl,rfl,_,rfl⟩)
 refine aN ?_
 have hRk2:=hRk A dA
 rw [hAq] at hRk2
 repeat refine aB ?_
 by_cases hr:rk (sP kd (bM l smp)) (lG kd) < lG kd
 ·rw [if_pos hr] at hfit
  have hp:qQ kd (bM l smp)=none:=by unfold qQ;rw [if_neg hpn,if_pos hfit]
  rw [hp]
  generalize rk (sP kd (bM l smp)) (lG kd)=R at*
  (repeat refine aG ?_);refine pW (M0) (aI A.p (recs eL A.rows)::gI A 16::I0) [0,1,2,3,5,6,7,8,4,9,10] [1,1,0,0,1,1,1,1,0,0,0] mixed ?_
  repeat refine aB ?_
  rw [lA0]
  repeat refine aB ?_
  (refine bD rfl (hRk2 _ _ aA) ?_;rintro _ _ _ ⟨rfl,rfl,rfl⟩;refine aN ?_)
  repeat refine aB ?_
  refine fC (M':=M0) (I':=I0) aF aC ?_
  refine gJ [6,7] (by first|exact .inl rfl|exact .inr rfl) rfl rfl rfl _ _ aF aC (⟨rfl,rfl,_,rfl⟩)
 rw [if_neg hr] at hfit
 obtain ⟨hf0,_,hfx⟩:=hfit
 have hdt:dt (lG kd) (at2 (sP kd (bM l smp)))≠0:=(aMF hdA).1 (by have:=aPC hdA;omega)
 have hxq2:x.q=rG kd (bM l smp):=(hxq hdt).trans hfx
 have hSh2:=hSh x hxl
 rw [hxq2] at hSh2
 unfold XQ at hSh2
 have hrr:¬((rk (sP kd (bM l smp)) (lG kd):Nat):Int) < ((lG kd:Nat):Int):=by omega
 (repeat refine aG ?_);refine pW (M0) (aI A.p (recs eL A.rows)::gI A 16::I0) [0,1,2,3,5,6,7,8,4,9,10] [1,1,0,0,1,1,1,1,0,0,0] mixed ?_
 repeat refine aB ?_
 rw [lA0]
 repeat refine aB ?_
 (refine bD rfl (hRk2 _ _ aA) ?_;rintro _ _ _ ⟨rfl,rfl,rfl⟩;refine aN ?_)
 generalize rk (sP kd (bM l smp)) (lG kd)=R at*
 repeat refine aB ?_
 (refine bD rfl (hSh2 _ _ aA) ?_;rintro _ _ _ ⟨rfl,m,rfl,hmq,hmd,rfl⟩;refine aN ?_)
 have hDt2:=hDt m hmd
 rw [hmq] at hDt2
 repeat refine aB ?_
 (refine bD rfl (hDt2 _ _ aA) ?_;rintro _ _ _ ⟨rfl,e,rfl,he,rfl⟩;refine aN ?_)
 refine dH rfl (hSg e _ _ (Hv.mem aA)) ?_
 by_cases hd3:dt 3 (at2 (zA kd (rG kd (bM l smp))))=0
 ·have hp:qQ kd (bM l smp)=none:=by unfold qQ;rw [if_neg hpn,if_neg hf0,if_pos hd3]
  rw [hp]
  have hs0:e.q.num.sign=0:=bDQ.2 (he.trans hd3)
  repeat refine aB ?_
  refine fC (M':=M0) (I':=I0) aF aC ?_
  refine gJ [6,7] (by first|exact .inl rfl|exact .inr rfl) rfl rfl rfl _ _ aF aC (⟨rfl,rfl,mv m,by rw [bH (fun h=>h hs0)]⟩)
 ·have hp:qQ kd (bM l smp)=some (zA kd (rG kd (bM l smp))):=by unfold qQ;rw [if_neg hpn,if_neg hf0,if_neg hd3]
  rw [hp]
  have hs0:¬e.q.num.sign=0:=fun h=>hd3 (he.symm.trans (bDQ.1 h))
  repeat refine aB ?_
  refine dF (φ:=gI m (nX+nX)) (Hv.xm (k:=K) aA (Nat.le_trans hK2 (by decide))) ?_
  refine fC (M':=M0) (I':=gI m (nX+nX)::I0) aF aC ?_
  refine gJ [6,7] (by first|exact .inl rfl|exact .inr rfl) rfl rfl rfl _ _ aF aC (⟨rfl,m,by rw [bK hs0],hmq,hmd,rfl⟩)
theorem aYV {kd:Nat} (hk:kd≤3):CD Tryz.prog 19 [.int .i64 (kd:Int)] X w0 M0 I0 (fun v M I=>M0=M∧I0=I∧v= .int .i64 ((kd:Int)+1)):=by
 have hl4:([1,2,3,4]:List Int).length=4:=rfl
 have hg:gt ([1,2,3,4]:List Int) (kd:Int)=(kd:Int)+1:=by
  obtain rfl|rfl|rfl|rfl:kd=0∨kd=1∨kd=2∨kd=3:=by omega
  all_goals rfl
 refine aR Tryz.func19 rfl Tryz.ntmps19 rfl ?_
 repeat refine aB ?_
 refine gK (cs:=recs eZ [1,2,3,4]) ([.int .i64 1, .int .i64 2, .int .i64 3, .int .i64 4]) rfl (fun b=>?_)
 repeat refine aB ?_
 rw [hg]
 repeat refine aB ?_
 refine fC (M':=M0) (I':=I0) aF aC ?_
 refine iR rfl rfl (⟨rfl,rfl,rfl⟩)
end
structure LB where
 smp:List Int
 inl:List Int
 qs:Option Addr
 cs:Nat
 qi:Option Addr
 ci:Nat
abbrev enL (b8 b9:Nat) (f:LB):List Ent:=[.blk b8 [.slice f.qs f.smp.length f.cs] 31, .row f.qs f.smp.length f.cs (recs eZ f.smp) 3 1, .blk b9 [.slice f.qi f.inl.length f.ci] 31, .row f.qi f.inl.length f.ci (recs eZ f.inl) 3 1]
def LR (mdl:List Int→Option Mt) (inl:Mt→List Int) (vis:List (List Int)) (f:LB):Prop:=
 match nC mdl inl vis with
 |none=>f.smp=[]∧f.inl=[]
 |some g=>f.smp=g.1∧f.inl=g.2.1
theorem LR.keep {mdl:List Int→Option Mt} {inl:Mt→List Int} {vis:List (List Int)} {f:LB} {l:List Int} (h:LR mdl inl vis f) (hl:∀A,mdl l=some A→(inl A).length≤f.inl.length∧0 < (inl A).length):LR mdl inl (vis++[l]) f:=by
 unfold LR at h ⊢
 rw [sH]
 unfold aEA
 cases hm:mdl l with
 |none=>exact h
 |some A=>
  obtain ⟨h1,h2⟩:=hl A hm
  cases hb:nC mdl inl vis with
  |none=>
   rw [hb] at h
   rw [h.2] at h1
   exact absurd (Nat.lt_of_lt_of_le h2 h1) (Nat.lt_irrefl _)
  |some g=>
   rw [hb] at h
   rw [h.2] at h1
   show match (if g.2.1.length < (inl A).length then some (l,inl A,A) else some g) with|none=>_|some g=>_
   rw [if_neg (by omega)]
   exact h
theorem LR.new {mdl:List Int→Option Mt} {inl:Mt→List Int} {vis:List (List Int)} {f f':LB} {l:List Int} {A:Mt} (h:LR mdl inl vis f) (hm:mdl l=some A) (hl:f.inl.length < (inl A).length) (h1:f'.smp=l) (h2:f'.inl=inl A):LR mdl inl (vis++[l]) f':=by
 unfold LR at h ⊢
 rw [sH]
 unfold aEA
 rw [hm]
 cases hb:nC mdl inl vis with
 |none=>exact ⟨h1,h2⟩
 |some g=>
  rw [hb] at h
  rw [h.2] at hl
  show match (if g.2.1.length < (inl A).length then some (l,inl A,A) else some g) with|none=>_|some g=>_
  rw [if_pos hl]
  exact ⟨h1,h2⟩
theorem LR.le {mdl:List Int→Option Mt} {l:List Q4} {tol:Int} {vis:List (List Int)} {f:LB} {n:Nat} (hn:l.length=n) (h:LR mdl (fun A=>iJ A l tol) vis f):f.inl.length≤n:=by
 unfold LR at h
 split at h
 ·rw [h.2];exact Nat.zero_le _
 ·rename_i g hg
  rw [h.2,(aBQ hg).2.2,←hn]
  exact qW
section
variable {X:List Nat} {w0:World} {M0 M1 M2:List Ent} {I0:List aL}
theorem aSZ {kd:Nat} {tol:Int} {b3 b4 b5 b8 b9 bs n c:Nat} {q:Option Addr} {l:List Q4} (hk:kd≤3) (hl:l.length=n) (hn:n≤64) (hs:∀s∈l,s.near) (ht:0≤tol∧tol≤1073741824)
  {vis:List (List Int)} {f:LB} {smp:List Int} (hR:LR (aAU kd l) (fun A=>iJ A l tol) vis f) (hsm:SmpP n (kd+1) 0 smp) (hqs:aI (some ⟨bs,0,none⟩) (recs eZ smp)∈I0)
  (f3:aI (some ⟨b3,0,none⟩) [.int .i64 (kd:Int)]∈I0) (f4:aI (some ⟨b4,0,none⟩) [.slice q n c]∈I0) (f5:aI (some ⟨b5,0,none⟩) [.int .i64 tol]∈I0) (hq:aI q (recs gX l)∈I0):
  CD Tryz.prog 78 [.slice (some ⟨bs,0,none⟩) (kd+1) (kd+1), .pointer (some ⟨b3,0,none⟩), .pointer (some ⟨b4,0,none⟩), .pointer (some ⟨b5,0,none⟩), .pointer (some ⟨b9,0,none⟩), .pointer (some ⟨b8,0,none⟩)] X w0 (enL b8 b9 f++M2) I0
   (fun _ M _=>∃f',LR (aAU kd l) (fun A=>iJ A l tol) (vis++[smp]) f'∧M=enL b8 b9 f'++M2):=by
 have hfl:=hR.le hl
 simp only [enL,List.cons_append,List.nil_append]
 have hLm:=fun M0 I0 h1 h2=>aGS (X:=X) (w0:=w0) (M0:=M0) (I0:=I0) (kd:=kd) (q:=q) (qs_:=some ⟨bs,0,none⟩) (l:=l) (smp:=smp) (n:=n) (c:=c) (ns:=kd+1) (cs_:=kd+1) hk hl hn hs hsm.len rfl (fun x hx=>(hsm.lt x hx)) h1 h2
 unfold aFX at hLm
 have hne:=fun A=>bAN (kd:=kd) (l:=l) (smp:=smp) (A:=A) (tol:=tol) hl hk hsm ht.1
 cases hm:aAU kd l smp with
 |none=>
  rw [hm] at hLm
  have hR2:=hR.keep (l:=smp) (fun A h=>by rw [hm] at h;cases h)
  refine xZ Tryz.func78 rfl Tryz.ntmps78 rfl ?_
  repeat refine aB ?_
  (refine bD rfl (hLm _ _ aA aA) ?_;rintro _ _ _ ⟨rfl,rfl,u,rfl⟩;refine aN ?_)
  repeat refine aB ?_
  refine jH (by first|exact .inl rfl|exact .inr rfl) rfl _ _ aF aC (⟨f,hR2,rfl⟩)
 |some A=>
  rw [hm] at hLm
  have h0:=hne A hm
  refine xZ Tryz.func78 rfl Tryz.ntmps78 rfl ?_
  repeat refine aB ?_
  (refine bD rfl (hLm _ _ aA aA) ?_;rintro _ _ _ ⟨rfl,m,rfl,hmq,hmd,rfl⟩;refine aN ?_)
  have hI:=fun M0 I0 h1 h2=>aXJ (X:=X) (w0:=w0) (M0:=M0) (I0:=I0) (m:=m) (q:=q) (l:=l) (n:=n) (c:=c) (u:=nX+nX) (tol:=tol) (by decide) hmd hl hn hs ht h1 h2
  rw [hmq] at hI
  obtain ⟨zs,hzs⟩:∃zs,iJ A l tol=zs:=⟨_,rfl⟩
  rw [hzs] at hI h0
  have hzl:zs.length≤64:=by rw [←hzs];unfold iJ;exact Nat.le_trans qW (by omega)
  repeat refine aB ?_
  (refine bD rfl (hI _ _ aA aA) ?_;rintro _ _ _ ⟨qi,ci,rfl,rfl,rfl⟩;refine aN ?_)
  by_cases hgt:f.inl.length < zs.length
  ·have hnew:=fun f' h1 h2=>hR.new (f':=f') (l:=smp) hm (by rw [hzs];exact hgt) h1 h2
   repeat refine aB ?_
   refine gK (cs:=recs eZ []) ([]) rfl (fun b1=>?_)
   repeat refine aB ?_
   refine fM (mm:=0) 1 jJ rfl (by omega) ?_
   refine iB (xs:=[]) (ys:=smp) 0 rfl rfl rfl (Src.imm aA (.inl (Ok.mk _ _))) (by decide) hsm.len (by simp;omega) (by simp;omega) rfl rfl ?_
   intro a2 c2
   refine aN ?_
   repeat refine aB ?_
   refine fC (M':= .blk b8 [.slice a2 smp.length c2] 31:: .row a2 smp.length c2 (recs eZ smp) 3 1:: .blk b9 [.slice qi zs.length ci] 31:: .row qi zs.length ci (recs eZ zs) 3 1::M2) (I':=I0) aF aC ?_
   refine jH (by first|exact .inl rfl|exact .inr rfl) rfl _ _ aF aC (⟨⟨smp,zs,a2,c2,qi,ci⟩,hnew _ rfl hzs.symm,rfl⟩)
  ·have hR2:=hR.keep (l:=smp) (fun A' h=>by
    rw [hm] at h
    injection h with h
    subst h
    rw [hzs]
    exact ⟨by omega,h0⟩)
   repeat refine aB ?_
   refine fC (M':= .blk b8 [.slice f.qs f.smp.length f.cs] 31:: .row f.qs f.smp.length f.cs (recs eZ f.smp) 3 1:: .blk b9 [.slice f.qi f.inl.length f.ci] 31:: .row f.qi f.inl.length f.ci (recs eZ f.inl) 3 1::M2) (I':=I0) aF aC ?_
   refine jH (by first|exact .inl rfl|exact .inr rfl) rfl _ _ aF aC (⟨f,hR2,rfl⟩)
theorem aXZ {kd:Nat} {tol:Int} {n c:Nat} {q:Option Addr} {l:List Q4} (hk:kd≤3) (hl:l.length=n) (hn:n≤64) (hs:∀s∈l,s.near) (ht:0≤tol∧tol≤1073741824) (hq:aI q (recs gX l)∈I0):
  CD Tryz.prog 25 [.int .i64 (kd:Int), .slice q n c, .int .i64 tol] X w0 M0 I0 (fun v M I=>M0=M∧∃f:LB,LR (aAU kd l) (fun A=>iJ A l tol) (cmb n (kd+1) 0) f∧v= .tuple #[.slice f.qs f.smp.length f.cs, .slice f.qi f.inl.length f.ci]∧I=aI f.qi (recs eZ f.inl)::aI f.qs (recs eZ f.smp)::I0):=by
 have hZ:=fun M0 I0=>aYV (X:=X) (w0:=w0) (M0:=M0) (I0:=I0) hk
 refine aV (φ:=aI q (recs gX l)) (Hv.mem hq) ?_
 refine iC Tryz.func25 rfl Tryz.ntmps25 rfl ?_
 refine gG ?_
 refine tyX rfl (fun b3=>?_)
 refine aH .here ?_
 (refine oI rfl rfl rfl ?_;intro b4;refine aN ?_)
 refine tyX rfl (fun b5=>?_)
 refine aH .here ?_
 repeat refine aB ?_
 refine cK (fun b8=>?_)
 refine cK (fun b9=>?_)
 repeat refine aB ?_
 refine gZ 3 1 ?_
 refine gZ 3 1 ?_
 (repeat refine aG ?_);refine pW (M0) (aI (some ⟨b5,0,none⟩) [.int .i64 tol]::aI (some ⟨b4,0,none⟩) [.slice q n c]::aI (some ⟨b3,0,none⟩) [.int .i64 (kd:Int)]::aI q (recs gX l)::I0) [0,1,2,4,3,5] [2,1,1,1,0,0] mixed ?_
 repeat refine aB ?_
 refine dH rfl (hZ _ _) ?_
 have e1:(kd:Int)+1=((kd+1:Nat):Int):=rfl
 rw [e1]
 refine vQ (fun _ hw=>hw.nilS none) ?_
 refine wO (M':=enL b8 b9 ⟨[],[],none,0,none,0⟩++M0) (I':=aI none []::aI (some ⟨b5,0,none⟩) [.int .i64 tol]::aI (some ⟨b4,0,none⟩) [.slice q n c]::aI (some ⟨b3,0,none⟩) [.int .i64 (kd:Int)]::aI q (recs gX l)::I0) aF aC ?_
 (refine dJ rfl rfl (aKC (enL b8 b9) (fun _=>aI none []) (LR (aAU kd l) (fun A=>iJ A l tol)) (M1:=M0) (s0:=⟨[],[],none,0,none,0⟩) hn ⟨by omega,by omega⟩ ⟨rfl,rfl⟩ (fun I1 hI bs vis s smp M2 hR hsm=>(bAM (fun X w0=>aSZ hk hl hn hs ht hR hsm (List.Mem.head _) (List.mem_cons_of_mem _ (List.mem_cons_of_mem _ (hI _ aA))) (List.mem_cons_of_mem _ (List.mem_cons_of_mem _ (hI _ aA))) (List.mem_cons_of_mem _ (List.mem_cons_of_mem _ (hI _ aA))) (List.mem_cons_of_mem _ (List.mem_cons_of_mem _ (hI _ aA))))).mono (fun _ M I h=>by obtain ⟨rfl,M1,I1,rfl,f',h1,rfl⟩:=h;exact ⟨f',h1,rfl,rfl⟩))) rfl rfl rfl ?_;rintro _ _ _ ⟨f,hR,rfl,rfl⟩;refine aN ?_)
 simp only [enL,List.cons_append,List.nil_append]
 repeat refine aB ?_
 (repeat refine aG ?_);refine eO [0,1,2,3] [0,0,0,0] mixed (by kernel_rfl) ?_
 repeat refine aB ?_
 refine vL (.there .here) ?_
 refine vL (.there (.there .here)) ?_
 refine tyS [6,7] rfl rfl (⟨rfl,f,hR,rfl,rfl⟩)
end
section
variable {X:List Nat} {w0:World} {M0:List Ent} {I0:List aL}
theorem bFY {x tol x' y':Int} {ex tu:Bool} {q:Option Addr} {l:List Q4} {n c:Nat} (hl:l.length=n) (hn:(n:Int)≤9223372036854775807) (hq:aI q (recs gX l)∈I0):
  CD Tryz.prog 5 [.slice q n c, .agg (eTk x tol x' y' ex tu).toArray] X w0 M0 I0 (fun v M I=>M0=M∧I0=I∧v= .bool true):=by
 have hKn:=fun M0 I0=>aPA (X:=X) (w0:=w0) (M0:=M0) (I0:=I0)
 have hIk:=fun M0 I0=>aOJ (X:=X) (w0:=w0) (M0:=M0) (I0:=I0) (x:=x)
 have hLc:=fun M0 I0 h=>aSR (X:=X) (w0:=w0) (M0:=M0) (I0:=I0) (q:=q) (l:=l) (n:=n) (c:=c) hl hn h
 refine aV (φ:=aI q (recs gX l)) (Hv.mem hq) ?_
 refine aM Tryz.func5 rfl Tryz.ntmps5 rfl ?_
 refine gG ?_
 refine gN rfl (fun b3=>?_)
 refine aH .here ?_
 repeat refine aB ?_
 refine dH rfl (hKn _ _) ?_
 refine aD rfl (fun _=>bP rfl) rfl rfl ?_
 refine bE ?_
 refine jU ?_
 refine dV rfl ?_
 refine lK ?_
 refine jU ?_
 refine aG ?_
 refine aG ?_
 refine jQ (fun G M I=>∃b:Bool,(b=false→lF l=0→kdP x→n≤7)∧G=[(0, .slice q n c),(3, .pointer (some ⟨b3,0,none⟩)),(4, .bool false),(36, .bool b)]∧M0=M∧I=aI (some ⟨b3,0,none⟩) (eTk x tol x' y' ex tu)::aI q (recs gX l)::I0) ?_ ?_
 ·generalize lF l=D at*
  repeat refine aB ?_
  refine dH rfl (bAG) ?_
  by_cases h7:(n:Int)≤7
  ·by_cases h3:x=3
   ·repeat refine aB ?_
    refine vY _ _ _ dB aF aC ⟨_,fun _ _ _=>by omega,rfl,rfl,rfl⟩
   ·repeat refine aB ?_
    refine vY _ _ _ dB aF aC ⟨_,fun _ _ _=>by omega,rfl,rfl,rfl⟩
  repeat refine aB ?_
  refine dH rfl (hLc _ _ aA) ?_
  by_cases hD:D=0
  ·by_cases hk:kdP x
   ·rw [bK hk] at hIk
    repeat refine aB ?_
    refine dH rfl (hIk _ _) ?_
    repeat refine aB ?_
    refine tV ⟨true,fun h=>absurd h (by decide),rfl,rfl,rfl⟩
   ·rw [bH hk] at hIk
    have h3:¬x=3:=fun h=>hk ⟨by omega,by omega⟩
    repeat refine aB ?_
    refine dH rfl (hIk _ _) ?_
    repeat refine aB ?_
    refine vY _ _ _ dB aF aC ⟨_,fun _ _ h=>absurd h hk,rfl,rfl,rfl⟩
  ·by_cases h3:x=3
   ·repeat refine aB ?_
    refine vY _ _ _ dB aF aC ⟨_,fun _ h=>absurd h hD,rfl,rfl,rfl⟩
   ·repeat refine aB ?_
    refine vY _ _ _ dB aF aC ⟨_,fun _ h=>absurd h hD,rfl,rfl,rfl⟩
 rintro G M I ⟨b,hgood,rfl,rfl,rfl⟩
 cases b
 case true=>
  repeat refine aB ?_
  refine fC (M':=M0) (I':=I0) aF aC ?_
  refine iR rfl rfl (⟨rfl,rfl,rfl⟩)
 replace hgood:=hgood rfl
 by_cases hC:vG x l tol=0
 case neg=>
  have hBb:=fun M0 I0 h=>aUW (X:=X) (w0:=w0) (M0:=M0) (I0:=I0) (x:=x) (tol:=tol) (q:=q) (l:=l) (n:=n) (c:=c) hl hn hC h
  by_cases hD:lF l=0
  case neg=>
   rw [show vG x l tol=lF l by unfold vG pK;rw [if_neg hD,if_neg hD]] at hBb
   generalize lF l=D at*
   repeat refine aB ?_
   refine dH rfl (hBb _ _ aA) ?_
   repeat refine aB ?_
   refine cK (fun b5=>?_)
   repeat refine aB ?_
   refine dH rfl (hLc _ _ aA) ?_
   repeat refine aB ?_
   refine fC (M':=M0) (I':=I0) aF aC ?_
   refine iR rfl rfl (⟨rfl,rfl,congrArg Value.bool (bK rfl)⟩)
  rw [hD] at hLc
  by_cases hk:kdP x
  case neg=>
   rw [bH hk] at hIk
   rw [show vG x l tol=1 by unfold vG pK;rw [if_pos hD,if_neg hk,if_neg (by decide)]] at hBb
   repeat refine aB ?_
   refine dH rfl (hBb _ _ aA) ?_
   repeat refine aB ?_
   refine cK (fun b5=>?_)
   repeat refine aB ?_
   refine dH rfl (hLc _ _ aA) ?_
   repeat refine aB ?_
   refine dH rfl (hIk _ _) ?_
   repeat refine aB ?_
   refine fC (M':=M0) (I':=I0) aF aC ?_
   refine iR rfl rfl (⟨rfl,rfl,congrArg Value.bool (bK rfl)⟩)
  rw [bK hk] at hIk
  have hkc:pK x l=0:=by unfold pK;rw [if_pos hD,if_pos hk]
  have ht:¬tolP tol:=fun h=>hC (by unfold vG;rw [if_pos hkc,if_pos h])
  rw [show vG x l tol=2 by unfold vG;rw [if_pos hkc,if_neg ht]] at hBb
  repeat refine aB ?_
  refine dH rfl (hBb _ _ aA) ?_
  repeat refine aB ?_
  refine cK (fun b5=>?_)
  repeat refine aB ?_
  refine dH rfl (hLc _ _ aA) ?_
  repeat refine aB ?_
  refine dH rfl (hIk _ _) ?_
  by_cases hneg:tol < 0
  ·repeat refine aB ?_
   refine fC (M':=M0) (I':=I0) aF aC ?_
   refine iR rfl rfl (⟨rfl,rfl,congrArg Value.bool (bK rfl)⟩)
  ·have hbig:1073741824 < tol:=by
    unfold tolP at ht
    omega
   repeat refine aB ?_
   refine fC (M':=M0) (I':=I0) aF aC ?_
   refine iR rfl rfl (⟨rfl,rfl,congrArg Value.bool (bK rfl)⟩)
 obtain ⟨hD,hk,ht⟩:lF l=0∧kdP x∧tolP tol:=by
  unfold vG pK at hC
  by_cases hD:lF l=0
  ·rw [if_pos hD] at hC
   by_cases hk:kdP x
   ·rw [if_pos hk,if_pos rfl] at hC
    by_cases ht:tolP tol
    ·exact ⟨hD,hk,ht⟩
    ·rw [if_neg ht] at hC;exact absurd hC (by decide)
   ·rw [if_neg hk,if_neg (by decide)] at hC;exact absurd hC (by decide)
  ·rw [if_neg hD,if_neg hD] at hC;exact absurd hC hD
 have h7:=hgood hD hk
 rw [hD] at hLc
 rw [bK hk] at hIk
 obtain ⟨kd,rfl⟩:∃kd:Nat,x=(kd:Int):=⟨x.toNat,by have:=hk.1;omega⟩
 have hk3:kd≤3:=by have:=hk.2;omega
 obtain ⟨_,hs⟩:=aAE hD
 have hBk:=fun M0 I0 h=>aVJ (X:=X) (w0:=w0) (M0:=M0) (I0:=I0) (kd:=kd) (tol:=tol) (q:=q) (l:=l) (n:=n) (c:=c) hk3 hl (by omega) hD ht h
 have hLb:=fun M0 I0 h=>aXZ (X:=X) (w0:=w0) (M0:=M0) (I0:=I0) (kd:=kd) (tol:=tol) (q:=q) (l:=l) (n:=n) (c:=c) hk3 hl (by omega) hs ht h
 obtain ⟨ht0,ht1⟩:=ht
 unfold aUV at hBk
 unfold LR at hLb
 cases hb:nC (aAU kd l) (fun A=>iJ A l tol) (cmb n (kd+1) 0) with
 |none=>
  rw [hb] at hBk hLb
  repeat refine aB ?_
  (refine bD rfl (hBk _ _ aA) ?_;rintro _ _ _ ⟨rfl,rfl,rfl⟩;refine aN ?_)
  repeat refine aB ?_
  refine cK (fun b5=>?_)
  repeat refine aB ?_
  refine dH rfl (hLc _ _ aA) ?_
  repeat refine aB ?_
  refine dH rfl (hIk _ _) ?_
  repeat refine aB ?_
  (refine bD rfl (hLb _ _ aA) ?_;rintro _ _ _ ⟨rfl,f,⟨e1,e2⟩,rfl,rfl⟩;refine aN ?_)
  have hz:f.smp.length=0:=by rw [e1];rfl
  repeat refine aB ?_
  refine fC (M':=M0) (I':=I0) aF aC ?_
  refine iR rfl rfl (⟨rfl,rfl,congrArg Value.bool (bK rfl)⟩)
 |some g=>
  rw [hb] at hBk hLb
  obtain ⟨g1,g2,g3⟩:=aBQ hb
  have hsm:=aPL g1
  have hLm:=fun (f:LB) (e:f.smp=g.1) M0 I0 h1 h2=>aGS (X:=X) (w0:=w0) (M0:=M0) (I0:=I0) (kd:=kd) (q:=q) (qs_:=f.qs) (l:=l) (smp:=f.smp) (n:=n) (c:=c) (ns:=f.smp.length) (cs_:=f.cs) hk3 hl (by omega) hs rfl (by rw [e];exact hsm.len) (fun x hx=>by rw [e] at hx;exact hsm.lt x hx) h1 h2
  unfold aFX at hLm
  repeat refine aB ?_
  (refine bD rfl (hBk _ _ aA) ?_;rintro _ _ _ ⟨rfl,f,rfl,hf1,hf2,hf3,hf4,hf5,rfl⟩;refine aN ?_)
  repeat refine aB ?_
  refine cK (fun b5=>?_)
  repeat refine aB ?_
  refine dH rfl (hLc _ _ aA) ?_
  repeat refine aB ?_
  refine dH rfl (hIk _ _) ?_
  repeat refine aB ?_
  (refine bD rfl (hLb _ _ aA) ?_;rintro _ _ _ ⟨rfl,f2,⟨e1,e2⟩,rfl,rfl⟩;refine aN ?_)
  have hz:f2.smp.length=kd+1:=by rw [e1];exact hsm.len
  have hLm2:=hLm f2 e1
  rw [show aAU kd l f2.smp=some g.2.2 by rw [e1];exact g2] at hLm2
  have hil:f.inl.length≤n:=by rw [hf3,g3,←hl];exact qW
  repeat refine aB ?_
  (refine bD rfl (hLm2 _ _ aA aA) ?_;rintro _ _ _ ⟨rfl,m2,rfl,hmq2,hmd2,rfl⟩;refine aN ?_)
  refine bQ (φ:=aI f.ps (recs eZ f.smp)) (Hv.bfS aA) ?_
  refine bQ (φ:=aI f.pi (recs eZ f.inl)) (Hv.bfI aA) ?_
  refine bQ (φ:=gI f.m kX) (Hv.bfM aA) ?_
  repeat refine aB ?_
  (refine bR rfl (aIF (a:=f.smp) (b:=f2.smp) (by rw [hf2,hsm.len];omega) aA aA) rfl rfl ?_;rintro _ _ _ ⟨rfl,rfl,rfl⟩;refine aN ?_)
  rw [bK (hf2.trans e1.symm)]
  repeat refine aB ?_
  refine dH rfl (aIF (a:=f.inl) (b:=f2.inl) (by omega) aA aA) ?_
  rw [bK (hf3.trans e2.symm)]
  repeat refine aB ?_
  refine dH rfl (aUN (a:=f.m) (b:=m2) (k:=kX) (m:=nX+nX) (by decide) hf5 hmd2 aA aA) ?_
  rw [bK (hf4.trans hmq2.symm)]
  repeat refine aB ?_
  refine fC (M':=M0) (I':=I0) aF aC ?_
  refine iR rfl rfl (⟨rfl,rfl,rfl⟩)
end
end Go.Proofs.YtmmmfphealhapaaGreat
