/- What the law ConsensusBest needs: a block lent, inliers, a model's inliers. -/
import Derived.Test.YtmmmfphealhapaaGreatZtap
import Derived.Test.YtmmmfphealhapaaGreatZtar
import Derived.Test.YtmmmfphealhapaaGreatZtat
import Derived.Test.YtmmmfphealhapaaGreatZtau
import Derived.Test.YtmmmfphealhapaaGreatZtal
set_option linter.unusedSimpArgs false
set_option linter.unusedVariables false
set_option maxRecDepth 100000
set_option maxHeartbeats 4000000
namespace Go.Fx
open Go
theorem bAM {P:Program} {f:FuncId} {vs:List Value} {X:List Nat} {w0:World} {M:List Ent} {I:List aL} {K:Value→List Ent→List aL→Prop} {b:Nat} {cs:List Value} {e:TypeId} (h:∀X w0,CD P f vs X w0 M (aI (some ⟨b,0,none⟩) cs::I) K):
  CD P f vs X w0 (.blk b cs e::M) I (fun v M' I'=>I'=I∧∃M1 I1,M'= .blk b cs e::M1∧K v M1 I1):=⟨fun w hw=>by
 have hs:Mem (muts M) w M (aI (some ⟨b,0,none⟩) cs::I) w:=⟨Ext.refl _ _,fun b hb=> .inl hb,hw.tail.nd,hw.tail.ent,(hw.freezeB .here).imm⟩
 refine ((h (muts M) w).go w hs).mono (fun v w' ⟨M1,I1,hK,hm⟩=>⟨.blk b cs e::M1,I,⟨rfl,M1,I1,rfl,hK⟩,?_⟩)
 have hnd:=List.nodup_append.1 hw.nd
 have hb:Blk w b cs e:=hw.ent _ List.mem_cons_self
 have hbM:b ∉ muts M:=fun hm=>hnd.2.2 b (by simp [Ent.blocks]) b hm rfl
 have hown:∀k∈muts M,k∈X∨w0.heap.size≤k:=fun k hk=>hw.own k (List.mem_append.2 (.inr hk))
 refine ⟨hw.ext.step hm.ext hown,fun y hy=>?_,?_,fun en he=>?_,fun φ hp=>⟨(hw.imm φ hp).1,(hw.imm φ hp).1.go (muts (.blk b cs e::M)) _ w w' (hw.imm φ hp).2 (hm.ext.weaken (fun k hk=>List.mem_append.2 (.inr hk))) (fun y hy=>?_)⟩⟩
 ·rcases List.mem_append.1 hy with hy|hy
  ·exact hw.own y (List.mem_append.2 (.inl hy))
  ·rcases hm.own y hy with h1|h1
   ·exact hown y h1
   ·exact .inr (Nat.le_trans hw.ext.size h1)
 ·refine List.nodup_append.2 ⟨hnd.1,hm.nd,fun a ha y hy e=>?_⟩
  simp [Ent.blocks] at ha
  subst ha;subst e
  rcases hm.own a hy with h1|h1
  ·exact hbM h1
  ·have:=hb.lt;omega
 ·rcases List.mem_cons.1 he with rfl|he
  ·exact Blk.ext hb hm.ext hbM
  ·exact hm.ent en he
 ·rcases List.mem_append.1 hy with hy|hy
  ·exact .inl (List.mem_append.2 (.inl hy))
  ·rcases hm.own y hy with h1|h1
   ·exact .inl (List.mem_append.2 (.inr h1))
   ·exact .inr h1⟩
end Go.Fx
namespace Go.Proofs.YtmmmfphealhapaaGreat
open Go Go.Fx
theorem aLX {m:Mt} {l:List Q4} {tol:Int} {i:Nat} (h:okQ m tol (gt l (i:Int))):∀n,i < n→0 < (aBY m l tol n).length
 |0,h1=>absurd h1 (Nat.not_lt_zero i)
 |n+1,h1=>by
  unfold aBY
  by_cases e:i=n
  ·subst e
   rw [if_pos h]
   simp
  ·have ih:=aLX h n (by omega)
   split
   ·rw [List.length_append];omega
   ·exact ih
theorem bAN {kd n:Nat} {l:List Q4} {smp:List Int} {A:Mt} {tol:Int} (hl:l.length=n) (hk:kd≤3) (hs:SmpP n (kd+1) 0 smp) (ht:0≤tol) (h:aAU kd l smp=some A):0 < (iJ A l tol).length:=by
 have htq:(0:Rat)≤(tol:Rat):=Rat.intCast_le_intCast.2 ht
 have hlen:=hs.len
 rcases smp with _|⟨x0,r⟩
 ·simp at hlen
 have hx:=hs.lt x0 List.mem_cons_self
 obtain ⟨i,rfl⟩:∃i:Nat,x0=(i:Int):=⟨x0.toNat,by omega⟩
 have hi:i < n:=by omega
 have hg:gt (bM l ((i:Int)::r)) 0=gt l (i:Int):=rfl
 have hz:∀m:Mt,lL m 2 (gt l (i:Int))≠0→tQ m (gt l (i:Int))=0→0 < (iJ m l tol).length:=fun m h1 h2=>aLX ⟨h1,by rw [h2];exact htq⟩ _ (by omega)
 unfold aAU at h
 split at h
 ·obtain ⟨n1,n2,rfl⟩:=bBG h
  rw [aWI n1 n2]
  have h4:=(aTO (bM l ((i:Int)::r))).1
  obtain ⟨a0,a1,a2,a3⟩:=xO n1
  obtain ⟨b0,_,_,_⟩:=xO n2
  generalize hcd:(dG (m4 (bM l ((i:Int)::r)))).k0*(dG (l4 (bM l ((i:Int)::r)))).k1*(dG (l4 (bM l ((i:Int)::r)))).k2*(dG (l4 (bM l ((i:Int)::r)))).k3=c at h4
  have hc:c≠0:=by
   rw [←hcd]
   exact tY (tY (tY b0 a1) a2) a3
  have e:=bAZ (iI (lI (bM l ((i:Int)::r)))) (gt l (i:Int))
  have ex:(iI (lI (bM l ((i:Int)::r)))).x.dot (pF (gt l (i:Int)))=c*((gt l (i:Int)).u:Rat):=congrArg T3.a h4
  have ey:(iI (lI (bM l ((i:Int)::r)))).y.dot (pF (gt l (i:Int)))=c*((gt l (i:Int)).v:Rat):=congrArg T3.b h4
  have ez:(iI (lI (bM l ((i:Int)::r)))).z.dot (pF (gt l (i:Int)))=c*1:=congrArg T3.c h4
  have hd:∀z:Rat,c*z / (c*1) - z=0:=fun z=>by grind
  refine hz _ (by rw [e.2.2,ez,Rat.mul_one];exact hc) ?_
  unfold tQ aNJ aNH
  rw [e.1,e.2.1,e.2.2,ex,ey,ez,hd,hd]
  decide+kernel
 ·obtain ⟨hD,rfl,_⟩:=aSJ h
  have hpl:2*(bM l ((i:Int)::r)).length=lG kd:=by
   rw [oC,hlen]
   obtain rfl|rfl|rfl:kd=0∨kd=1∨kd=2:=by omega
   all_goals rfl
  have hm:=bBA hpl hD (t:=0) (by rw [oC,hlen];omega)
  refine hz _ ?_ hm
  rw [aME]
  decide
section
variable {X:List Nat} {w0:World} {M0 M1:List Ent} {I0:List aL}
theorem aXJ {m:MX} {u:Nat} {q:Option Addr} {l:List Q4} {n c:Nat} {tol:Int} (hu:u≤500000000) (dm:m.dim 3 3) (hl:l.length=n) (hn:n≤64) (hs:∀s∈l,s.near) (ht:0≤tol∧tol≤1073741824) (hm:gI m u∈I0) (hq:aI q (recs gX l)∈I0):
  CD Tryz.prog 79 [mv m, .slice q n c, .int .i64 tol] X w0 M0 I0 (fun v M I=>∃(q':Option Addr) (c':Nat),v= .slice q' (iJ m.q l tol).length c'∧M= .row q' (iJ m.q l tol).length c' (recs eZ (iJ m.q l tol)) 3 1::M0∧I0=I):=by
 have hWt:=fun M0 I0=>iT (X:=X) (w0:=w0) (M0:=M0) (I0:=I0) (x:=tol) (by omega) (k:=30) (by have:2 ^ 30=1073741824:=rfl;omega)
 refine aV (φ:=gI m u) (Hv.mem hm) (aV (φ:=aI q (recs gX l)) (Hv.mem (List.mem_cons_of_mem _ hq)) ?_)
 refine iC Tryz.func79 rfl Tryz.ntmps79 rfl ?_
 repeat refine aB ?_
 refine gZ 3 1 ?_
 refine lX [0,2,12,13] rfl (fun k G M I=>∃(i:Nat) (zs:List Int) (qe:Option Addr) (ce:Nat),i≤n∧k=n - i∧zs=aBY m.q l tol i∧G=[(7, .slice qe zs.length ce),(14, .int .i64 i)]∧M= .row qe zs.length ce (recs eZ zs) 3 1::M0∧I=aI q (recs gX l)::gI m u::I0) (n) (⟨0,[],none,0,by omega,rfl,rfl,rfl,rfl,rfl⟩) ?_
 rintro kk G M I ⟨i,zs,qe,ce,hi,rfl,hzs,rfl,rfl,rfl⟩
 have hzl:zs.length≤i:=by rw [hzs];exact qW
 by_cases hin:i < n
 ·have hmem:=bF (ms:=l) (i:=(i:Int)) (by omega)
  obtain ⟨s,hss⟩:∃s,gt l (i:Int)=s:=⟨_,rfl⟩
  rw [hss] at hmem
  have hMs:=fun M0 I0 h=>aLA (X:=X) (w0:=w0) (M0:=M0) (I0:=I0) (m:=m) (s:=s) (u:=u) hu dm (hs s hmem) h
  unfold MisK at hMs
  have hst:aBY m.q l tol (i+1)=if okQ m.q tol s then zs++[(i:Int)] else zs:=by show (if okQ m.q tol (gt l (i:Int)) then _ else _)=_;rw [hss,hzs]
  repeat refine aB ?_
  rw [hss]
  refine cK (fun b9=>?_)
  repeat refine aB ?_
  by_cases h0:lL m.q 2 s=0
  ·simp only [if_pos h0] at hMs
   rw [if_neg (show ¬okQ m.q tol s from fun h=>h.1 h0)] at hst
   (refine bD rfl (hMs _ _ aA) ?_;rintro _ _ _ ⟨rfl,rfl,rfl⟩;refine aN ?_)
   repeat refine aB ?_
   refine cK (fun b10=>?_)
   repeat refine aB ?_
   (repeat refine aG ?_);refine eO [0,1,2,3,4,5,6,7] [2,0,1,1,0,0,0,0] mixed (by kernel_rfl) ?_
   repeat refine aB ?_
   refine gL (n - (i+1)) (⟨i+1,zs,qe,ce,by omega,rfl,hst.symm,rfl,rfl,rfl⟩)
  ·simp only [if_neg h0] at hMs
   (refine bD rfl (hMs _ _ aA) ?_;rintro _ _ _ ⟨rfl,e,rfl,he,rfl⟩;refine aN ?_)
   repeat refine aB ?_
   refine cK (fun b10=>?_)
   repeat refine aB ?_
   refine rJ (M':= .blk b10 (eR e) 77:: .row qe zs.length ce (recs eZ zs) 3 1::M0) (I':=bL e (24*u+449)::aI q (recs gX l)::gI m u::I0) aF aC ?_
   (repeat refine aG ?_);refine pW (.blk b10 (eR e) 77::M0) (bL e (24*u+449)::I0) [0,1,2,3,4,5,6,7] [2,0,1,1,0,0,0,0] mixed ?_
   repeat refine aB ?_
   refine fK rfl (hWt _ _) (fun et het=>?_)
   refine dH rfl (aBB (a:=e) (b:=et) (k:=24*u+449) (m:=30) (by omega) (Hv.mem aA) (Hv.mem aA)) ?_
   have hcp:aDA e.q et.q≤0↔tQ m.q s≤(tol:Rat):=by rw [aQJ,he,het]
   by_cases h1:tQ m.q s≤(tol:Rat)
   ·rw [if_pos (show okQ m.q tol s from ⟨h0,h1⟩)] at hst
    have h2:=hcp.2 h1
    repeat refine aB ?_
    refine gK (cs:=recs eZ [(i:Int)]) ([.int .i64 (i:Int)]) rfl (fun b=>?_)
    refine wM (ys:=[(i:Int)]) 2 rfl rfl rfl (fun q2 c3=>?_)
    repeat refine aB ?_
    refine gL (n - (i+1)) (⟨i+1,zs++[(i:Int)],q2,c3,by omega,rfl,hst.symm,rfl,rfl,rfl⟩)
   ·rw [if_neg (show ¬okQ m.q tol s from fun h=>h1 h.2)] at hst
    have h2:¬aDA e.q et.q≤0:=fun h=>h1 (hcp.1 h)
    repeat refine aB ?_
    refine gL (n - (i+1)) (⟨i+1,zs,qe,ce,by omega,rfl,hst.symm,rfl,rfl,rfl⟩)
 ·obtain rfl:i=n:=by omega
  have hz:zs=iJ m.q l tol:=by rw [hzs];unfold iJ;rw [hl]
  subst hz
  repeat refine aB ?_
  refine fC (M':= .row qe (iJ m.q l tol).length ce (recs eZ (iJ m.q l tol)) 3 1::M0) (I':=I0) aF aC ?_
  refine iR rfl rfl (⟨qe,ce,rfl,rfl,rfl⟩)
end
def NlO (A:Mt) (C k:Nat) (M0:List Ent) (I0:List aL) (v:Value) (M:List Ent) (I:List aL):Prop:=∃(qo:Option Addr) (co b c0:Nat) (es:List RE) (tl:List Value),v= .slice qo 1 co∧yL A C=[qs es]∧es.length=C∧C≤c0∧M= .blk b (recs eR es++tl) 77::M0∧I=aI qo (recs eL [(⟨some ⟨b,0,none⟩,c0,es⟩:RL)])::aP es k::I0
theorem aNR {pv:List Nat} {i j:Nat} (h:i≤j):(kV pv i).length≤(kV pv j).length:=by
 induction j with
 |zero=>rw [show i=0 by omega];exact Nat.le_refl _
 |succ j ih=>
  by_cases e:i=j+1
  ·rw [e];exact Nat.le_refl _
  ·have:=ih (by omega)
   rw [wH]
   split
   ·exact this
   ·rw [List.length_append];omega
section
variable {X:List Nat} {w0:World} {M0:List Ent} {I0:List aL}
theorem aRU {a:MX} {R C k0:Nat} (hb:kb k0 C≤20000000000) (hR:1≤R∧R≤100) (hC:1≤C∧C≤100) (da:a.dim R C) (h1:(yL a.q C).length=1) (ha:gI a k0∈I0):CD Tryz.prog 140 [mv a] X w0 M0 I0 (NlO a.q C (kb k0 C) M0 I0):=by
 have lR:=da.1
 have lC:(gt a.rows 0).es.length=C:=da.row (i:=0) (by omega)
 have hZ:∀M0 I0,CD Tryz.prog 146 [.int .i64 1, .int .i64 (C:Int)] X w0 M0 I0 (MsP 1 C (fun _ _=>0) 0 M0 I0):=fun M0 I0=>aDX (X:=X) (w0:=w0) (M0:=M0) (I0:=I0) (R:=1) (C:=C) (by omega) hC
 have hW:=fun M0 I0=>tF (X:=X) (w0:=w0) (M0:=M0) (I0:=I0) (x:=1) (by decide)
 refine aV (φ:=aI (a).p (recs eL (a).rows)) (Hv.xsl aA) ?_
 refine aR Tryz.func140 rfl Tryz.ntmps140 rfl ?_
 repeat refine aB ?_
 (refine bD rfl (aJU hb hR hC da aA) ?_;rintro _ _ _ ⟨rfl,m,pv,q,c,rfl,hm,hd,rfl⟩;refine aN ?_)
 obtain ⟨s,hr⟩:=da.red hm
 have hlen:=hr.len
 have hpi:∀r:Nat,r < pv.length→pv.getD r 0 < C:=fun r h=>hr.piv_lt h
 have hidx:∀r:Nat,r < pv.length→pv.idxOf (pv.getD r 0)=r:=fun r h=>hr.idx h
 have mR:=hd.1
 have hz:(zs pv).length=pv.length:=by simp
 generalize hK:kb k0 C=K at*
 refine bQ (φ:=aI (m).p (recs eL (m).rows)) (Hv.xsl aA) ?_
 repeat refine aB ?_
 (refine gK (cs:=recs eL []) ([]) rfl (fun bo=>?_);refine fM (mm:=0) 1 .here rfl (by omega) ?_)
 repeat refine aB ?_
 refine bG (φ:=aP [] K) Hv.nilR ?_
 have hfr:(kV pv C).length=1:=by
  have h2:(aKL m.q pv C).length=1:=by unfold yL at h1;rw [hm] at h1;exact h1
  unfold aKL at h2
  rwa [List.length_map] at h2
 repeat refine aB ?_
 refine rJ (M':=[]++ .row (some ⟨bo,0,none⟩) 0 0 (recs eL []) 70 1::M0) (I':=aP [] K::aI m.p (recs eL m.rows)::pvI q pv::gI m K::aI a.p (recs eL a.rows)::I0) aF aC ?_
 refine bX [0,3,4] rfl (fun k G M I=>∃(j:Nat) (rows:List RL) (own:List Ent) (es0:List RE) (qo:Option Addr) (co:Nat),j≤C∧k=C - j∧rows.map RL.q=(kV pv j).map (lM m.q pv C)∧((rows=[]∧own=[])∨∃(b c0:Nat) (tl:List Value),rows=[⟨some ⟨b,0,none⟩,c0,es0⟩]∧own=[.blk b (recs eR es0++tl) 77]∧es0.length=C∧C≤c0)∧G=[(5, .slice qo rows.length co),(6, .int .i64 j)]∧M=own++ .row qo rows.length co (recs eL rows) 70 1::M0∧I=aP es0 K::aI m.p (recs eL m.rows)::pvI q pv::gI m K::aI a.p (recs eL a.rows)::I0) (C) _ _ _ dB aF aC (⟨0,[],[],[],_,_,by omega,rfl,rfl, .inl ⟨rfl,rfl⟩,rfl,rfl,rfl⟩) ?_
 rintro kk G M I ⟨j,rows,own,es0,qo,co,hj,rfl,hq,hown,rfl,rfl,rfl⟩
 by_cases hjC:j < C
 ·have hCn:=fun M0 I0 h=>aRI (X:=X) (w0:=w0) (M0:=M0) (I0:=I0) (p:=q) (l:=zs pv) (t:=pv.length) (c:=c) (x:=(j:Int)) hz (by omega) h
  by_cases hjp:j∈pv
  ·rw [bK (aIK.2 hjp)] at hCn
   repeat refine aB ?_
   refine dH rfl (hCn _ _ aA) ?_
   repeat refine aB ?_
   refine gL (C - (j+1)) (⟨j+1,rows,own,es0,qo,co,by omega,rfl,by rw [wH,if_pos hjp];exact hq,hown,rfl,rfl,rfl⟩)
  ·obtain ⟨rfl,rfl⟩:rows=[]∧own=[]:=hown.resolve_right (fun ⟨b,c0,tl,e1,_⟩=>by
    have h2:(kV pv j).length=1:=by
     have:=congrArg List.length hq
     rw [e1,List.length_map,List.length_map] at this
     exact this.symm
    have h3:=aNR (pv:=pv) (show j+1≤C by omega)
    rw [wH,if_neg hjp,List.length_append,h2,hfr] at h3
    simp at h3)
   rw [List.nil_append]
   rw [bH (fun h=>hjp (aIK.1 h))] at hCn
   repeat refine aB ?_
   refine dH rfl (hCn _ _ aA) ?_
   repeat refine aB ?_
   rw [lC]
   (refine bD rfl (hZ _ _) ?_;rintro _ _ _ ⟨bz,cz,tlz,rz,rfl,hcz,hsz,hpz,rfl,rfl⟩;refine aN ?_)
   obtain ⟨r0,rfl⟩:∃r0,rz=[r0]:=by
    have:=hsz.len
    match rz,this with
    |[x],_=>exact ⟨x,rfl⟩
   have hcol:=hsz.col r0 (by simp)
   have hp0:∀t:Nat,t < C→(gt r0.es (t:Int)).q=0:=fun t ht=>hpz 0 t (by omega) ht
   refine bQ (φ:=aP r0.es 0) (Hv.allS1 aA) ?_
   simp only [List.map_cons,List.map_nil,List.cons_append,List.nil_append]
   obtain ⟨hel,hcv⟩:=hcol
   have hg1:gt [r0] 0=r0:=rfl
   repeat refine aB ?_
   rw [hel]
   refine fK rfl (hW _ _) (fun e he=>?_)
   repeat refine yXh ?_
   refine fJ (vs:=eR e) rfl rfl rfl (Ones.one e) jJ (StAts.app (StAts.r (enc:=eR) (ms:=r0.es) (i:=(j:Int)) e (by omega) rfl)) rfl rfl ⟨okF,?_⟩
   refine bQ (φ:=aP (st r0.es (j:Int) e) 0) (Hv.stR aA aA) ?_
   refine bQ (φ:=aP (st r0.es (j:Int) e) K) (Hv.allMono (k:=0) (List.Mem.head _) (Nat.zero_le _)) ?_
   obtain ⟨es1,hes1⟩:∃es1,es1=st r0.es (j:Int) e:=⟨_,rfl⟩
   have hel1:es1.length=C:=by rw [hes1,dK];exact hel
   have heq1:∀t:Nat,t < C→(gt es1 (t:Int)).q=if t=j then 1 else 0:=fun t ht=>by
    rw [hes1,vJ (by omega)]
    by_cases e1:t=j
    ·rw [if_pos e1,if_pos e1,he];rfl
    ·rw [if_neg e1,if_neg e1];exact hp0 t ht
   rw [←hes1]
   repeat refine aB ?_
   refine rJ (M':= .blk r0.b (recs eR es1++r0.tl) 77:: .row qo 0 co (recs eL []) 70 1::M0) (I':=aP es1 K::aI m.p (recs eL m.rows)::pvI q pv::gI m K::aI a.p (recs eL a.rows)::I0) (SubP.drop SubP.refl) aC ?_
   refine lX [0,3,4,5,6,7] rfl (fun k G M I=>∃(r:Nat) (es2:List RE),r≤pv.length∧k=pv.length - r∧es2.length=C∧(∀t:Nat,t < C→(gt es2 (t:Int)).q=if t∈pv∧pv.idxOf t < r then - at2 m.q (pv.idxOf t) j else if t=j then 1 else 0)∧G=[(8, .int .i64 r)]∧M= .blk r0.b (recs eR es2++r0.tl) 77:: .row qo 0 co (recs eL []) 70 1::M0∧I=aP es2 K::aI m.p (recs eL m.rows)::pvI q pv::gI m K::aI a.p (recs eL a.rows)::I0) (pv.length) (⟨0,es1,by omega,by omega,hel1,fun t ht=>by rw [if_neg (by omega)];exact heq1 t ht,rfl,rfl,rfl⟩) ?_
   rintro kk G M I ⟨r,es2,hr2,rfl,hel2,heq2,rfl,rfl,rfl⟩
   by_cases hrp:r < pv.length
   ·have hgz:=bDN hrp
    have hpr:=hpi r hrp
    have hmr:=hd.row (i:=r) (by omega)
    have hat:=oQ (m:=m) (i:=r) (j:=j) (by omega) (by omega)
    refine bG (φ:=aI (gt (m).rows (r:Int)).p (recs eR (gt (m).rows (r:Int)).es)) (Hv.xrsl aA (by omega)) ?_
    have hNg:=fun M0 I0 h=>zL (X:=X) (w0:=w0) (M0:=M0) (I0:=I0) (e:=gt (gt m.rows (r:Int)).es (j:Int)) (k:=K) (by omega) h
    repeat refine aB ?_
    (repeat refine aG ?_);refine aW 1 [0,1,2,3,4,5,6,7,8,9,10,11,12,13,14] [1,1,1,1,1,1,1,1,1,1,1,0,0,0,0] mixed (by kernel_rfl) ?_
    repeat refine aB ?_
    rw [hgz]
    refine fK rfl (hNg _ _ (Hv.xel aA (by omega) (by omega))) (fun e2 he2=>?_)
    repeat refine yXh ?_
    refine fJ (vs:=eR e2) rfl rfl rfl (Ones.one e2) jJ (StAts.app (StAts.r (enc:=eR) (ms:=es2) (i:=((pv.getD r 0:Nat):Int)) e2 (by omega) rfl)) rfl rfl ⟨okF,?_⟩
    repeat refine aB ?_
    refine dF (φ:=aP (st es2 ((pv.getD r 0:Nat):Int) e2) K) (Hv.stR aA aA) ?_
    refine gL (pv.length - (r+1)) (⟨r+1,st es2 ((pv.getD r 0:Nat):Int) e2,by omega,rfl,by rw [dK];exact hel2,fun t ht=>?_,rfl,rfl,rfl⟩)
    rw [vJ (by omega)]
    by_cases e1:t=pv.getD r 0
    ·subst e1
     rw [if_pos rfl,if_pos ⟨jT.2 ⟨r,hrp,rfl⟩,by rw [hidx r hrp];omega⟩,he2,hidx r hrp,hat]
    ·rw [if_neg e1,heq2 t ht]
     by_cases e2:t∈pv
     ·have e3:pv.idxOf t≠r:=fun e=>e1 (by rw [←e];exact (Red.idx_lt e2).2.symm)
      by_cases e4:pv.idxOf t < r
      ·rw [if_pos ⟨e2,e4⟩,if_pos ⟨e2,by omega⟩]
      ·rw [if_neg (show ¬(t∈pv∧pv.idxOf t < r) from fun h=>e4 h.2),if_neg (show ¬(t∈pv∧pv.idxOf t < r+1) from fun h=>by have:=h.2;omega)]
     ·rw [if_neg (show ¬(t∈pv∧pv.idxOf t < r) from fun h=>e2 h.1),if_neg (show ¬(t∈pv∧pv.idxOf t < r+1) from fun h=>e2 h.1)]
   ·obtain rfl:r=pv.length:=by omega
    have hV:qs es2=lM m.q pv C j:=by
     apply rR
     ·simp [lM,hel2]
     ·intro t ht
      have ht':t < C:=by simpa [hel2] using ht
      rw [iK (by omega),heq2 t ht',aAS ht']
      unfold aAQ
      by_cases e2:t∈pv
      ·rw [if_pos ⟨e2,(Red.idx_lt e2).1⟩,if_pos e2]
      ·rw [if_neg (fun h=>e2 h.1),if_neg e2]
    repeat refine aB ?_
    have hvv:Value.slice (some ⟨r0.b,0,none⟩) C r0.c=lv (⟨some ⟨r0.b,0,none⟩,r0.c,es2⟩:RL):=by show _=Value.slice _ es2.length _;rw [hel2]
    rw [hvv]
    have hnl:([]:List RL).length=0:=rfl
    refine gK (cs:=recs eL [(⟨some ⟨r0.b,0,none⟩,r0.c,es2⟩:RL)]) ([lv (⟨some ⟨r0.b,0,none⟩,r0.c,es2⟩:RL)]) rfl (fun bb=>?_)
    refine wM (ys:=[(⟨some ⟨r0.b,0,none⟩,r0.c,es2⟩:RL)]) 2 rfl rfl rfl (fun q2 c2=>?_)
    repeat refine aB ?_
    refine fC (M':=[.blk r0.b (recs eR es2++r0.tl) 77]++ .row q2 1 c2 (recs eL [(⟨some ⟨r0.b,0,none⟩,r0.c,es2⟩:RL)]) 70 1::M0) (I':=aP es2 K::aI m.p (recs eL m.rows)::pvI q pv::gI m K::aI a.p (recs eL a.rows)::I0) aF aC ?_
    refine cO (C - (j+1)) _ _ _ (by first|omega|(simp only [List.length_append,List.length_cons,List.length_nil];omega)) dB aF aC (⟨j+1,[(⟨some ⟨r0.b,0,none⟩,r0.c,es2⟩:RL)],_,es2,q2,c2,by omega,rfl,by
     rw [wH,if_neg hjp,List.map_append,←hq]
     show [qs es2]=[]++[lM m.q pv C j]
     rw [hV]
     rfl, .inr ⟨r0.b,r0.c,r0.tl,rfl,rfl,hel2,by omega⟩,rfl,rfl,rfl⟩)
 ·obtain rfl:j=C:=by omega
  rcases hown with ⟨rfl,rfl⟩|⟨b,c0,tl,rfl,rfl,hel,hcc⟩
  ·have h2:=congrArg List.length hq
   rw [List.length_map,List.length_map,hfr] at h2
   cases h2
  simp only [List.cons_append,List.nil_append]
  repeat refine aB ?_
  refine yO (fun _ hw=>hw.freezeR (.there .here)) ?_
  refine fC (M':= .blk b (recs eR es0++tl) 77::M0) (I':=aI qo (recs eL [(⟨some ⟨b,0,none⟩,c0,es0⟩:RL)])::aP es0 K::I0) aF aC ?_
  refine aU (by first|exact .inl rfl|exact .inr rfl) rfl rfl _ _ aF aC (⟨qo,co,b,c0,es0,tl,rfl,by unfold yL aKL;rw [hm];exact hq.symm,hel,hcc,rfl,rfl⟩)
end
abbrev eV2 (p:Int × Int):List Value:=[.int .i64 p.1, .int .i64 p.2]
abbrev vV2 (p:Int × Int):Value:= .agg (eV2 p).toArray
instance eV2.szd:Sized eV2 2:=⟨fun _=>rfl⟩
instance eV2.ones:Ones eV2:=⟨fun m u hu=>by simp [eV2] at hu;rcases hu with rfl|rfl <;>rfl⟩
def nr2 (p:Int × Int):Prop:=(-32768≤p.1∧p.1≤32768)∧(-32768≤p.2∧p.2≤32768)
def orZ (a b c:Int × Int):Int:=(b.1 - a.1)*(c.2 - a.2) - (b.2 - a.2)*(c.1 - a.1)
def hg2 (p:Int × Int):T3 Int:=⟨p.1,p.2,1⟩
theorem aJW (a b c:Int × Int):orZ a b c=d3 (hg2 a) (hg2 b) (hg2 c):=by
 simp only [orZ,d3,T3.cross,T3.dot,hg2]
 grind
def aGG (ps:List (Int × Int)) (i:Nat):Int:=if i=0 then orZ (gt ps 1) (gt ps 2) (gt ps 3) else if i=1 then orZ (gt ps 2) (gt ps 3) (gt ps 0) else if i=2 then orZ (gt ps 3) (gt ps 0) (gt ps 1) else orZ (gt ps 0) (gt ps 1) (gt ps 2)
theorem aVY (ps:List (Int × Int)):(∃i,i < 4∧aGG ps i=0)↔colP ⟨hg2 (gt ps 0),hg2 (gt ps 1),hg2 (gt ps 2),hg2 (gt ps 3)⟩:=by
 have e0:aGG ps 0=P4.k0 ⟨hg2 (gt ps 0),hg2 (gt ps 1),hg2 (gt ps 2),hg2 (gt ps 3)⟩:=by
  show orZ (gt ps 1) (gt ps 2) (gt ps 3)=_
  rw [aJW]
  simp only [P4.k0,d3,T3.cross,T3.dot]
  grind
 have e1:aGG ps 1= -P4.k1 ⟨hg2 (gt ps 0),hg2 (gt ps 1),hg2 (gt ps 2),hg2 (gt ps 3)⟩:=by
  show orZ (gt ps 2) (gt ps 3) (gt ps 0)=_
  rw [aJW]
  simp only [P4.k1,d3,T3.cross,T3.dot]
  grind
 have e2:aGG ps 2=P4.k2 ⟨hg2 (gt ps 0),hg2 (gt ps 1),hg2 (gt ps 2),hg2 (gt ps 3)⟩:=by
  show orZ (gt ps 3) (gt ps 0) (gt ps 1)=_
  rw [aJW]
  simp only [P4.k2,d3,T3.cross,T3.dot]
  grind
 have e3:aGG ps 3=P4.k3 ⟨hg2 (gt ps 0),hg2 (gt ps 1),hg2 (gt ps 2),hg2 (gt ps 3)⟩:=by
  show orZ (gt ps 0) (gt ps 1) (gt ps 2)=_
  rw [aJW]
  rfl
 unfold colP
 constructor
 ·rintro ⟨i,hi,h⟩
  obtain rfl|rfl|rfl|rfl:i=0∨i=1∨i=2∨i=3:=by omega
  ·exact .inl (by rw [←e0];exact h)
  ·exact .inr (.inl (by omega))
  ·exact .inr (.inr (.inl (by rw [←e2];exact h)))
  ·exact .inr (.inr (.inr (by rw [←e3];exact h)))
 ·rintro (h|h|h|h)
  ·exact ⟨0,by decide,by rw [e0];exact h⟩
  ·exact ⟨1,by decide,by rw [e1];omega⟩
  ·exact ⟨2,by decide,by rw [e2];exact h⟩
  ·exact ⟨3,by decide,by rw [e3];exact h⟩
theorem bBQ {i:Nat} (h:i < 4):∃a b c:Int,Int.tmod ((i:Int)+1) 4=a∧Int.tmod ((i:Int)+2) 4=b∧Int.tmod ((i:Int)+3) 4=c∧(0≤a∧a < 4)∧(0≤b∧b < 4)∧(0≤c∧c < 4)∧∀ps:List (Int × Int),orZ (gt ps a) (gt ps b) (gt ps c)=aGG ps i:=by
 obtain rfl|rfl|rfl|rfl:i=0∨i=1∨i=2∨i=3:=by omega
 ·exact ⟨1,2,3,rfl,rfl,rfl,by decide,by decide,by decide,fun _=>rfl⟩
 ·exact ⟨2,3,0,rfl,rfl,rfl,by decide,by decide,by decide,fun _=>rfl⟩
 ·exact ⟨3,0,1,rfl,rfl,rfl,by decide,by decide,by decide,fun _=>rfl⟩
 ·exact ⟨0,1,2,rfl,rfl,rfl,by decide,by decide,by decide,fun _=>rfl⟩
theorem aXV {a b:Int} (ha: -65536≤a∧a≤65536) (hb: -65536≤b∧b≤65536): -4294967296≤a*b∧a*b≤4294967296:=by
 have h1:a.natAbs*b.natAbs≤65536*65536:=Nat.mul_le_mul (by omega) (by omega)
 have h2:(a*b).natAbs=a.natAbs*b.natAbs:=Int.natAbs_mul a b
 omega
section
variable {X:List Nat} {w0:World} {M0:List Ent} {I0:List aL}
theorem aKN {p:Int × Int} (h:nr2 p):CD Tryz.prog 292 [vV2 p] X w0 M0 I0 (fun v M I=>M0=M∧I0=I∧v= .bool true):=by
 obtain ⟨⟨h1,h2⟩,h3,h4⟩:=h
 refine aR Tryz.func292 rfl Tryz.ntmps292 rfl ?_
 refine gG ?_
 refine gN rfl (fun b1=>?_)
 refine aH (cs:=eV2 p) .here ?_
 repeat refine aB ?_
 rw [bK (show -1048576≤p.1 by omega)]
 repeat refine aB ?_
 rw [bK (show p.1≤1048576 by omega)]
 repeat refine aB ?_
 rw [bK (show -1048576≤p.2 by omega)]
 repeat refine aB ?_
 rw [bK (show p.2≤1048576 by omega)]
 repeat refine aB ?_
 refine fC (M':=M0) (I':=I0) aF aC ?_
 refine iR rfl rfl (⟨rfl,rfl,rfl⟩)
theorem bDB {b:Nat} {ps:List (Int × Int)} (hl:ps.length=3) (h:∀p∈ps,nr2 p) (hb:aI (some ⟨b,0,none⟩) (recs eV2 ps)∈I0):CD Tryz.prog 257 [.slice (some ⟨b,0,none⟩) 3 3] X w0 M0 I0 (fun v M I=>M0=M∧I0=I∧v= .bool true):=by
 refine aV (φ:=aI (some ⟨b,0,none⟩) (recs eV2 ps)) (Hv.mem hb) ?_
 refine aR Tryz.func257 rfl Tryz.ntmps257 rfl ?_
 repeat refine aB ?_
 refine lX [0] rfl (fun k G M I=>∃i:Nat,i≤3∧k=3 - i∧G=[(3, .int .i64 i)]∧M0=M∧I=aI (some ⟨b,0,none⟩) (recs eV2 ps)::I0) (3) (⟨0,by omega,rfl,rfl,rfl,rfl⟩) ?_
 rintro kk G M I ⟨i,hi,rfl,rfl,rfl,rfl⟩
 by_cases hii:i < 3
 ·obtain ⟨p,hp⟩:∃p,gt ps (i:Int)=p:=⟨_,rfl⟩
  have hn:=h p (by rw [←hp];exact bF ⟨by omega,by omega⟩)
  have hV:=fun M0 I0=>aKN (X:=X) (w0:=w0) (M0:=M0) (I0:=I0) hn
  repeat refine aB ?_
  rw [hp]
  refine dH rfl (hV _ _) ?_
  repeat refine aB ?_
  refine gL (3 - (i+1)) (⟨i+1,by omega,rfl,rfl,rfl,rfl⟩)
 ·repeat refine aB ?_
  refine fC (M':=M0) (I':=I0) aF aC ?_
  refine iR rfl rfl (⟨rfl,rfl,rfl⟩)
theorem aMY {x:Int}:CD Tryz.prog 258 [.int .i64 x] X w0 M0 I0 (fun v M I=>M0=M∧I0=I∧v= .int .i64 x.sign):=by
 refine aR Tryz.func258 rfl Tryz.ntmps258 rfl ?_
 by_cases h1:x < 0
 ·rw [Int.sign_eq_neg_one_of_neg h1]
  repeat refine aB ?_
  refine iR rfl rfl (⟨rfl,rfl,rfl⟩)
 by_cases h2:0 < x
 ·rw [Int.sign_eq_one_of_pos h2]
  repeat refine aB ?_
  refine iR rfl rfl (⟨rfl,rfl,rfl⟩)
 obtain rfl:x=0:=by omega
 repeat refine aB ?_
 refine iR rfl rfl (⟨rfl,rfl,rfl⟩)
theorem aOL {a b c:Int × Int} (ha:nr2 a) (hb:nr2 b) (hc:nr2 c):CD Tryz.prog 209 [vV2 a,vV2 b,vV2 c] X w0 M0 I0 (fun v M I=>M0=M∧I0=I∧v= .int .i64 (orZ a b c).sign):=by
 have hA:=fun (q:Nat) M0 I0 h=>bDB (X:=X) (w0:=w0) (M0:=M0) (I0:=I0) (b:=q) (ps:=[a,b,c]) rfl (fun p hp=>by
  simp only [List.mem_cons,List.not_mem_nil,or_false] at hp
  rcases hp with rfl|rfl|rfl <;>assumption) h
 have hS:=fun M0 I0=>aMY (X:=X) (w0:=w0) (M0:=M0) (I0:=I0) (x:=orZ a b c)
 obtain ⟨⟨a1,a2⟩,a3,a4⟩:=ha
 obtain ⟨⟨b1,b2⟩,b3,b4⟩:=hb
 obtain ⟨⟨c1,c2⟩,c3,c4⟩:=hc
 have m1:=aXV (a:=b.1 - a.1) (b:=c.2 - a.2) (by omega) (by omega)
 have m2:=aXV (a:=b.2 - a.2) (b:=c.1 - a.1) (by omega) (by omega)
 have mB: -9223372036854775808≤(b.1 - a.1)*(c.2 - a.2)∧(b.1 - a.1)*(c.2 - a.2)≤9223372036854775807:=by omega
 have mC: -9223372036854775808≤(b.2 - a.2)*(c.1 - a.1)∧(b.2 - a.2)*(c.1 - a.1)≤9223372036854775807:=by omega
 unfold orZ at hS ⊢
 refine iC Tryz.func209 rfl Tryz.ntmps209 rfl ?_
 refine gG ?_
 refine gN rfl (fun q3=>?_)
 refine aH (cs:=eV2 a) .here ?_
 refine gN rfl (fun q4=>?_)
 refine aH (cs:=eV2 b) .here ?_
 refine gN rfl (fun q5=>?_)
 refine aH (cs:=eV2 c) .here ?_
 repeat refine aB ?_
 refine gK (cs:=recs eV2 [a,b,c]) ([vV2 a,vV2 b,vV2 c]) rfl (fun q6=>?_)
 refine aH .here ?_
 refine dH rfl (hA q6 _ _ aA) ?_
 repeat refine aB ?_
 generalize (b.1 - a.1)*(c.2 - a.2)=y1 at*
 generalize (b.2 - a.2)*(c.1 - a.1)=y2 at*
 repeat refine aB ?_
 refine dH rfl (hS _ _) ?_
 repeat refine aB ?_
 refine fC (M':=M0) (I':=I0) aF aC ?_
 refine iR rfl rfl (⟨rfl,rfl,rfl⟩)
theorem aPY {ps:List (Int × Int)} (hl:ps.length=4) (h:∀p∈ps,nr2 p):CD Tryz.prog 139 [.agg (recs eV2 ps).toArray] X w0 M0 I0 (fun v M I=>M0=M∧I0=I∧v= .bool (B (colP ⟨hg2 (gt ps 0),hg2 (gt ps 1),hg2 (gt ps 2),hg2 (gt ps 3)⟩))):=by
 obtain ⟨p0,p1,p2,p3,rfl⟩:∃p0 p1 p2 p3,ps=[p0,p1,p2,p3]:=⟨_,_,_,_,os4 hl⟩
 obtain ⟨qs,hqs⟩:∃qs,[p0,p1,p2,p3]=qs:=⟨_,rfl⟩
 refine aR Tryz.func139 rfl Tryz.ntmps139 rfl ?_
 refine gG ?_
 refine gN rfl (fun b1=>?_)
 refine aH (cs:=recs eV2 [p0,p1,p2,p3]) .here ?_
 rw [hqs] at h hl ⊢
 clear hqs
 repeat refine aB ?_
 refine lX [1] rfl (fun k G M I=>∃i:Nat,i≤4∧k=4 - i∧(∀t:Nat,t < i→aGG qs t≠0)∧G=[(4, .int .i64 i)]∧M0=M∧I=aI (some ⟨b1,0,none⟩) (recs eV2 qs)::I0) (4) (⟨0,by omega,rfl,fun t ht=>absurd ht (by omega),rfl,rfl,rfl⟩) ?_
 rintro kk G M I ⟨i,hi,rfl,hz,rfl,rfl,rfl⟩
 by_cases hii:i < 4
 ·obtain ⟨a,b,c,ea,eb,ec,ba,bb,bc,hor⟩:=bBQ hii
  have ba':0≤Int.tmod ((i:Int)+1) 4∧Int.tmod ((i:Int)+1) 4 < qs.length:=by rw [ea];omega
  have bb':0≤Int.tmod ((i:Int)+2) 4∧Int.tmod ((i:Int)+2) 4 < qs.length:=by rw [eb];omega
  have bc':0≤Int.tmod ((i:Int)+3) 4∧Int.tmod ((i:Int)+3) 4 < qs.length:=by rw [ec];omega
  have hO:=fun M0 I0=>aOL (X:=X) (w0:=w0) (M0:=M0) (I0:=I0) (a:=gt qs a) (b:=gt qs b) (c:=gt qs c) (h _ (bF ⟨by omega,by omega⟩)) (h _ (bF ⟨by omega,by omega⟩)) (h _ (bF ⟨by omega,by omega⟩))
  rw [hor] at hO
  repeat refine aB ?_
  (repeat refine aG ?_);refine pW (M0) (aI (some ⟨b1,0,none⟩) (recs eV2 qs)::I0) [0,1,2,3,4,5,6,7,8,9,10,11,12,13,14,15,16] [1,1,1,1,0,1,1,1,1,0,1,1,1,1,0,0,0] mixed ?_
  repeat refine aB ?_
  (apply dS;exact eX;exact rfl;exact aA;exact AtsZ.o0 (enc:=eV2) (sz:=2) (ms:=qs) (i:=Int.tmod ((i:Int)+1) 4) ba';exact rfl;exact rfl)
  repeat refine aB ?_
  (apply dS;exact eX;exact rfl;exact aA;exact AtsZ.o0 (enc:=eV2) (sz:=2) (ms:=qs) (i:=Int.tmod ((i:Int)+2) 4) bb';exact rfl;exact rfl)
  repeat refine aB ?_
  (apply dS;exact eX;exact rfl;exact aA;exact AtsZ.o0 (enc:=eV2) (sz:=2) (ms:=qs) (i:=Int.tmod ((i:Int)+3) 4) bc';exact rfl;exact rfl)
  rw [ea,eb,ec]
  repeat refine aB ?_
  refine dH rfl (hO _ _) ?_
  by_cases h0:aGG qs i=0
  ·have hs0:(aGG qs i).sign=0:=Int.sign_eq_zero_iff_zero.2 h0
   repeat refine aB ?_
   refine fC (M':=M0) (I':=I0) aF aC ?_
   refine iR rfl rfl (⟨rfl,rfl,congrArg Value.bool (bK ((aVY qs).1 ⟨i,hii,h0⟩)).symm⟩)
  ·have hs0:¬(aGG qs i).sign=0:=fun e=>h0 (Int.sign_eq_zero_iff_zero.1 e)
   repeat refine aB ?_
   refine gL (4 - (i+1)) (⟨i+1,by omega,rfl,fun t ht=>by
    by_cases e:t=i
    ·rw [e];exact h0
    ·exact hz t (by omega),rfl,rfl,rfl⟩)
 ·obtain rfl:i=4:=by omega
  repeat refine aB ?_
  refine fC (M':=M0) (I':=I0) aF aC ?_
  refine iR rfl rfl (⟨rfl,rfl,congrArg Value.bool (bH (fun hc=>by
   obtain ⟨t,ht,e⟩:=(aVY qs).2 hc
   exact hz t ht e)).symm⟩)
end
theorem bBI {ps:List Q4} {s:Q4}:hA (ps++[s])=hA ps++[cz (hr1 s),cz (hr2 s)]:=by unfold hA;rw [List.flatMap_append];rfl
theorem aBH {ps:List Q4} (h4:ps.length=4) {j:Nat} (hj:j∈kV (eQ (hA ps) 9).2 9):Go.Proofs.YtmmmfphealhapaaGreat.ker 8 9 (at2 (hA ps)) (fun c=>(lM (eQ (hA ps) 9).1 (eQ (hA ps) 9).2 9 j).getD c 0)∧(lM (eQ (hA ps) 9).1 (eQ (hA ps) 9).2 9 j).getD j 0=1∧j < 9∧∀i,i∈kV (eQ (hA ps) 9).2 9→i≠j→(lM (eQ (hA ps) 9).1 (eQ (hA ps) 9).2 9 j).getD i 0=0:=by
 have hd:=aUP (l:=ps)
 rw [h4] at hd
 obtain ⟨_,s,hr⟩:=iQ hd 9 (Nat.le_refl _)
 have hm:∀{i},i∈kV (eQ (hA ps) 9).2 9→i < 9∧i ∉ (eQ (hA ps) 9).2:=fun {i} h=>by
  unfold kV at h
  simp only [List.mem_filter,List.mem_range,decide_eq_true_eq] at h
  exact h
 obtain ⟨hj9,hjp⟩:=hm hj
 refine ⟨fun t ht=>?_,?_,hj9,fun i hi hne=>?_⟩
 ·have h1:=hr.null hj9 hjp t ht
  exact (aZ (fun c hc=>by show at2 (hA ps) t c*(lM _ _ 9 j).getD c 0=_;rw [aAS hc])).trans h1
 ·rw [aAS hj9]
  unfold aAQ
  rw [if_neg hjp,if_pos rfl]
 ·obtain ⟨hi9,hip⟩:=hm hi
  rw [aAS hi9]
  unfold aAQ
  rw [if_neg hip,if_neg hne]
theorem aOE {l:List Rat} {i:Nat} (hi:i < l.length):(qL l).getD i 0=l.getD i 0 / qP l:=by
 unfold qL
 simp [List.getD,hi]
theorem aTA {ps:List Q4} (h4:ps.length=4) (hl:¬colP (l4 ps)) (hm:¬colP (m4 ps)):∃z:List Rat,yL (hA ps) 9=[z]∧z.length=9∧qP z≠0∧qL z=qL (fA (iI (lI ps))):=by
 have hd:=aUP (l:=ps)
 rw [h4] at hd
 obtain ⟨_,s,hr⟩:=iQ hd 9 (Nat.le_refl _)
 have hlen:=hr.free_len
 have h8:(eQ (hA ps) 9).2.length≤8:=hr.len
 have key:∀j,j∈kV (eQ (hA ps) 9).2 9→qP (lM (eQ (hA ps) 9).1 (eQ (hA ps) 9).2 9 j)≠0∧qL (lM (eQ (hA ps) 9).1 (eQ (hA ps) 9).2 9 j)=qL (fA (iI (lI ps))):=fun j hj=>by
  obtain ⟨hk,h1,hj9,_⟩:=aBH h4 hj
  have hl9:(lM (eQ (hA ps) 9).1 (eQ (hA ps) 9).2 9 j).length=9:=by simp [lM]
  have hnz:∃x∈lM (eQ (hA ps) 9).1 (eQ (hA ps) 9).2 9 j,x≠0:=⟨_,by
   have:(lM (eQ (hA ps) 9).1 (eQ (hA ps) 9).2 9 j).getD j 0∈lM (eQ (hA ps) 9).1 (eQ (hA ps) 9).2 9 j:=by
    rw [List.getD_eq_getElem?_getD,List.getElem?_eq_getElem (by omega)]
    exact List.getElem_mem _
   exact this,by rw [h1];decide⟩
  refine ⟨fun e=>?_,aWH h4 hl hm hl9 hk hnz⟩
  obtain ⟨x,hx,hx0⟩:=hnz
  exact hx0 (aQC.1 e x hx)
 have hone:(kV (eQ (hA ps) 9).2 9).length=1:=by
  have hge:1≤(kV (eQ (hA ps) 9).2 9).length:=by omega
  apply Classical.byContradiction
  intro hne
  obtain ⟨i,j,hi,hj,hij⟩:∃i j,i∈kV (eQ (hA ps) 9).2 9∧j∈kV (eQ (hA ps) 9).2 9∧i≠j:=by
   have hnd:(kV (eQ (hA ps) 9).2 9).Nodup:=(by unfold kV;exact List.Pairwise.filter _ List.nodup_range)
   match e:kV (eQ (hA ps) 9).2 9,hge,hne with
   |[],h,_=>simp at h
   |[_],_,h=>exact absurd rfl h
   |a::b::r,_,_=>
    rw [e] at hnd
    exact ⟨a,b,by simp,by simp,fun h=>by subst h;simp at hnd⟩
  obtain ⟨_,a1,a9,a0⟩:=aBH h4 hi
  obtain ⟨_,b1,b9,b0⟩:=aBH h4 hj
  have e:=(key i hi).2.trans (key j hj).2.symm
  have f:=(key i hi).1
  have hl9:∀t,(lM (eQ (hA ps) 9).1 (eQ (hA ps) 9).2 9 t).length=9:=fun t=>by simp [lM]
  have e2:(qL (lM (eQ (hA ps) 9).1 (eQ (hA ps) 9).2 9 i)).getD i 0=(qL (lM (eQ (hA ps) 9).1 (eQ (hA ps) 9).2 9 j)).getD i 0:=by rw [e]
  rw [aOE (by rw [hl9];exact a9),aOE (by rw [hl9];exact a9),a1,b0 i hi hij] at e2
  have:(1:Rat) / qP (lM (eQ (hA ps) 9).1 (eQ (hA ps) 9).2 9 i)≠0:=by grind
  exact this (e2.trans (by rw [Rat.div_def,Rat.zero_mul]))
 obtain ⟨j,hj⟩:∃j,kV (eQ (hA ps) 9).2 9=[j]:=by
  match e:kV (eQ (hA ps) 9).2 9,hone with
  |[j],_=>exact ⟨j,rfl⟩
 have hjm:j∈kV (eQ (hA ps) 9).2 9:=by rw [hj];exact List.mem_cons_self
 refine ⟨lM (eQ (hA ps) 9).1 (eQ (hA ps) 9).2 9 j,?_,by simp [lM],(key j hjm).1,(key j hjm).2⟩
 unfold yL aKL
 rw [hj]
 rfl
theorem aBE:∀(l:List Rat) (x:Rat),qP (l++[x])=if qP l=0 then x else qP l
 |[],x=>by
  show (if x=0 then 0 else x)=if (0:Rat)=0 then x else 0
  rw [if_pos rfl]
  by_cases h:x=0
  ·rw [if_pos h,h]
  ·rw [if_neg h]
 |y::r,x=>by
  have ih:=aBE r x
  show (if y=0 then qP (r++[x]) else y)=if (if y=0 then qP r else y)=0 then x else (if y=0 then qP r else y)
  by_cases h:y=0
  ·rw [if_pos h,if_pos h,ih]
  ·rw [if_neg h,if_neg h,if_neg h]
def RL.sub (r:RL) (l m:Nat):RL:=⟨xD r.p r.c l 4,r.c - l,(r.es.take m).drop l⟩
theorem Hv.subL {I:List aL} {r:RL} {k l m:Nat} (h:iN r k∈I) (hm:m≤r.es.length) (hlm:l < m):Hv I (iN (r.sub l m) k):=⟨fun X w hw=>by
 have hr:=(hw _ h:IsL r k X w)
 have hc:=hr.cap.1
 refine ⟨?_,fun e he=>hr.el e (List.mem_of_mem_take (List.mem_of_mem_drop he)),?_,?_⟩
 ·have:=hr.sl.cut r.c l (m*4) 4 (by rw [fG];exact Nat.mul_le_mul_right _ hc)
  show Sl X w (xD r.p r.c l 4) (recs eR ((r.es.take m).drop l))
  rw [aBR,aBF];exact this
 ·show ((r.es.take m).drop l).length≤r.c - l
  rw [List.length_drop,List.length_take];omega
 ·rcases hr.cap.2 with h|⟨h1,h2⟩
  ·exact .inl (aYU h)
  ·omega⟩
theorem RL.sub_q {r:RL} {l m:Nat}:(r.sub l m).q=(r.q.take m).drop l:=by
 show qs ((r.es.take m).drop l)=((qs r.es).take m).drop l
 simp [qs,List.map_drop,List.map_take]
theorem Hv.mkX {I:List aL} {b k:Nat} {rows:List RL} (h:aI (some ⟨b,0,none⟩) (recs eL rows)∈I) (hr:dX rows k∈I):Hv I (gI ⟨some ⟨b,0,none⟩,rows.length,rows⟩ k):=⟨fun X w hw=>⟨(hw _ h:SlI _ _ X w).go,(hw _ hr:AllL rows k X w).go,⟨Nat.le_refl _, .inl (Ok.mk _ _)⟩⟩⟩
theorem aNI {l:List Rat} (h:l.length=9):[(l.take 3).drop 0,(l.take 6).drop 3,(l.take 9).drop 6]=aFZ l:=by
 match l,h with
 |[_,_,_,_,_,_,_,_,_],_=>rfl
abbrev eSl (b:Nat):List Value:=[.slice (some ⟨b,0,none⟩) 9 9]
instance eSl.szd:Sized eSl 1:=⟨fun _=>rfl⟩
theorem At.v0 {ms:List (Int × Int)} {i x:Int} (hi:0≤i∧i < ms.length) (hx:(gt ms i).1=x):At (recs eV2 ms) (0+i.toNat*2+0) (.int .i64 x):=by rw [Nat.zero_add];exact At.r2 (j:=0) hi (by rw [←hx];rfl)
theorem At.v1 {ms:List (Int × Int)} {i x:Int} (hi:0≤i∧i < ms.length) (hx:(gt ms i).2=x):At (recs eV2 ms) (0+i.toNat*2+1) (.int .i64 x):=by rw [Nat.zero_add];exact At.r2 (j:=1) hi (by rw [←hx];rfl)
def inC (x:Int):Prop:=(-9223372036854775808≤x∧x≤9223372036854775807)∧x.natAbs≤2 ^ 31
theorem pair9 {b9 b10 t:Nat} {x1 x2:List Int} {I:List aL} (h1:aI (some ⟨b9,0,none⟩) (recs eZ x1)∈I) (h2:aI (some ⟨b10,0,none⟩) (recs eZ x2)∈I) (l1:x1.length=9) (l2:x2.length=9) (hx1:∀z∈x1,inC z) (hx2:∀z∈x2,inC z) (ht:t < 2):
  ∃(bt:Nat) (xs:List Int),gt [b9,b10] (t:Int)=bt∧aI (some ⟨bt,0,none⟩) (recs eZ xs)∈I∧xs.length=9∧(∀z∈xs,inC z)∧[cz x1,cz x2].take (t+1)=[cz x1,cz x2].take t++[cz xs]:=by
 rcases (show t=0∨t=1 by omega) with rfl|rfl
 ·exact ⟨b9,x1,rfl,h1,l1,hx1,rfl⟩
 ·exact ⟨b10,x2,rfl,h2,l2,hx2,rfl⟩
theorem wX {a b:Int} (ha: -32768≤a∧a≤32768) (hb: -32768≤b∧b≤32768): -1073741824≤a*b∧a*b≤1073741824:=by
 have h1:a.natAbs*b.natAbs≤32768*32768:=Nat.mul_le_mul (by omega) (by omega)
 have h2:(a*b).natAbs=a.natAbs*b.natAbs:=Int.natAbs_mul a b
 omega
theorem hr_in {s:Q4} (h:s.near):(∀z∈hr1 s,inC z)∧∀z∈hr2 s,inC z:=by
 obtain ⟨n1,n2,n3,n4⟩:=h
 have m1:=wX (a:= -s.u) (b:=s.x) (by omega) n1
 have m2:=wX (a:= -s.u) (b:=s.y) (by omega) n2
 have m3:=wX (a:= -s.v) (b:=s.x) (by omega) n1
 have m4:=wX (a:= -s.v) (b:=s.y) (by omega) n2
 unfold inC hr1 hr2
 rw [show (2:Nat) ^ 31=2147483648 from rfl]
 constructor
 ·intro z hz
  simp only [List.mem_cons,List.not_mem_nil,or_false] at hz
  rcases hz with rfl|rfl|rfl|rfl|rfl|rfl|rfl|rfl|rfl <;>omega
 ·intro z hz
  simp only [List.mem_cons,List.not_mem_nil,or_false] at hz
  rcases hz with rfl|rfl|rfl|rfl|rfl|rfl|rfl|rfl|rfl <;>omega
abbrev nX:Nat:=8738133
theorem kb9:kb 31 9≤nX:=by decide
section
variable {X:List Nat} {w0:World} {M0:List Ent} {I0:List aL}
theorem bBH {q qs_:Option Addr} {l:List Q4} {smp:List Int} {n c cs_:Nat} (hl:l.length=n) (hn:n≤64) (hs:∀s∈l,s.near) (hsl:smp.length=4) (hin:∀x∈smp,0≤x∧x < n) (hq:aI q (recs gX l)∈I0) (hqs:aI qs_ (recs eZ smp)∈I0):
  CD Tryz.prog 69 [.slice q n c, .slice qs_ 4 cs_] X w0 M0 I0 (aFX (aAN (bM l smp)) (nX+nX) M0 I0):=by
 refine aV (φ:=aI q (recs gX l)) (Hv.mem hq) (aV (φ:=aI qs_ (recs eZ smp)) (Hv.mem (List.mem_cons_of_mem _ hqs)) ?_)
 refine aM Tryz.func69 rfl Tryz.ntmps69 rfl ?_
 repeat refine aB ?_
 refine cK (fun b6=>?_)
 refine cK (fun b7=>?_)
 repeat refine aB ?_
 refine gZ 70 1 ?_
 refine bG (φ:=dX [] 31) Hv.nilL ?_
 refine rJ (M':= .blk b7 (recs eV2 [(0,0),(0,0),(0,0),(0,0)]) 192:: .blk b6 (recs eV2 [(0,0),(0,0),(0,0),(0,0)]) 192:: .row none 0 0 (recs eL []) 70 1::M0) (I':=dX [] 31::aI qs_ (recs eZ smp)::aI q (recs gX l)::I0) aF aC ?_
 refine bX [0,6,7,25,26] rfl (fun k G M I=>∃(i:Nat) (fs ts:List (Int × Int)) (rows:List RL) (qa:Option Addr) (ca:Nat),i≤4∧k=4 - i∧fs.length=4∧ts.length=4∧(∀t:Nat,t < i→gt fs (t:Int)=((gt l (gt smp (t:Int))).x,(gt l (gt smp (t:Int))).y))∧(∀t:Nat,t < i→gt ts (t:Int)=((gt l (gt smp (t:Int))).u,(gt l (gt smp (t:Int))).v))∧rows.map RL.q=hA (bM l (smp.take i))∧G=[(8, .slice qa rows.length ca),(27, .int .i64 i)]∧M= .blk b7 (recs eV2 ts) 192:: .blk b6 (recs eV2 fs) 192:: .row qa rows.length ca (recs eL rows) 70 1::M0∧I=dX rows 31::aI qs_ (recs eZ smp)::aI q (recs gX l)::I0) (4) _ _ _ dB aF aC (⟨0,_,_,[],none,0,by omega,rfl,rfl,rfl,fun t ht=>absurd ht (by omega),fun t ht=>absurd ht (by omega),rfl,rfl,rfl,rfl⟩) ?_
 rintro kk G M I ⟨i,fs,ts,rows,qa,ca,hi,rfl,hfl,htl,hfs,hts,hrq,rfl,rfl,rfl⟩
 have hpl:(bM l (smp.take i)).length=i:=by rw [oC,List.length_take];omega
 have hlr:rows.length=2*i:=by have:=congrArg List.length hrq;rw [List.length_map,aNU,hpl] at this;omega
 by_cases hii:i < 4
 ·have hzm:=hin _ (bF (ms:=smp) (i:=(i:Int)) (by omega))
  have ht:bM l (smp.take (i+1))=bM l (smp.take i)++[gt l (gt smp (i:Int))]:=by rw [←wE,gtQ (by omega)];exact congrArg (bM l) (List.take_append_getElem (by omega)).symm
  obtain ⟨z,hz⟩:∃z,gt smp (i:Int)=z:=⟨_,rfl⟩
  rw [hz] at hzm ht
  have hmem:=bF (ms:=l) (i:=z) (by omega)
  obtain ⟨s,hss⟩:∃s,gt l z=s:=⟨_,rfl⟩
  rw [hss] at hmem ht
  have hns:=hs s hmem
  obtain ⟨hb1,hb2⟩:=hr_in hns
  obtain ⟨n1,n2,n3,n4⟩:=hns
  have hA2:hA (bM l (smp.take (i+1)))=hA (bM l (smp.take i))++[cz (hr1 s),cz (hr2 s)]:=by rw [ht,bBI]
  have hbf:(0:Int)≤(i:Int)∧(i:Int) < ((st fs (i:Int) (s.x,s.y)).length:Int):=by rw [oP];omega
  have hbt:(0:Int)≤(i:Int)∧(i:Int) < ((st ts (i:Int) (s.u,s.v)).length:Int):=by rw [oP];omega
  have gf:gt (st fs (i:Int) (s.x,s.y)) (i:Int)=(s.x,s.y):=by rw [pM (by omega) (by omega),if_pos rfl]
  have gt_:gt (st ts (i:Int) (s.u,s.v)) (i:Int)=(s.u,s.v):=by rw [pM (by omega) (by omega),if_pos rfl]
  repeat refine aB ?_
  rw [hz]
  (repeat refine aG ?_);refine pW (M0) (aI qs_ (recs eZ smp)::aI q (recs gX l)::I0) [0,1,2,3,4,5,6,7,8,9,10,11,12,13,14,15] [0,1,0,0,0,0,0,1,1,1,1,1,0,0,0,0] mixed ?_
  repeat refine yXh ?_
  (apply qJ;exact eX;exact rfl;exact aA;exact AtsZ.r2 (enc:=gX) (sz:=4) (ms:=l) (i:=z) (j:=0) ⟨by omega,by omega⟩ rfl rfl;exact rfl;exact rfl)
  repeat refine yXh ?_
  (apply qJ;exact eX;exact rfl;exact aA;exact AtsZ.r2 (enc:=gX) (sz:=4) (ms:=l) (i:=z) (j:=2) ⟨by omega,by omega⟩ rfl rfl;exact rfl;exact rfl)
  rw [hss]
  repeat refine yXh ?_
  refine fJ (vs:=eV2 (s.x,s.y)) rfl rfl rfl (Ones.one _) jJ (StAts.o0 (enc:=eV2) (sz:=2) (ms:=fs) (i:=(i:Int)) (s.x,s.y) ⟨by omega,by omega⟩ rfl) rfl rfl ⟨okF,?_⟩
  repeat refine yXh ?_
  refine fJ (vs:=eV2 (s.u,s.v)) rfl rfl rfl (Ones.one _) jJ (StAts.o0 (enc:=eV2) (sz:=2) (ms:=ts) (i:=(i:Int)) (s.u,s.v) ⟨by omega,by omega⟩ rfl) rfl rfl ⟨okF,?_⟩
  obtain ⟨fs1,hfs1⟩:∃fs1,st fs (i:Int) (s.x,s.y)=fs1:=⟨_,rfl⟩
  obtain ⟨ts1,hts1⟩:∃ts1,st ts (i:Int) (s.u,s.v)=ts1:=⟨_,rfl⟩
  rw [hfs1] at hbf gf ⊢
  rw [hts1] at hbt gt_ ⊢
  repeat refine aB ?_
  (repeat refine aG ?_);refine pW (.blk b7 (recs eV2 ts1) 192:: .blk b6 (recs eV2 fs1) 192::M0) (aI qs_ (recs eZ smp)::aI q (recs gX l)::I0) [0,1,2,3,4,5,6,7,8,9,10,11,12,13,14,15,16,17,18,19] [0,0,0,0,0,0,0,0,0,0,0,0,0,0,0,0,0,0,0,0] mixed ?_
  repeat refine aB ?_
  (apply gM (v:= .int .i64 s.x);exact eX;exact rfl;exact aA;exact At.v0 hbf (by rw [gf]);exact rfl;exact rfl)
  repeat refine aB ?_
  (apply gM (v:= .int .i64 s.y);exact eX;exact rfl;exact aA;exact At.v1 hbf (by rw [gf]);exact rfl;exact rfl)
  repeat refine aB ?_
  (apply gM (v:= .int .i64 s.u);exact eX;exact rfl;exact aA;exact At.v0 hbt (by rw [gt_]);exact rfl;exact rfl)
  repeat refine aB ?_
  (apply gM (v:= .int .i64 s.v);exact eX;exact rfl;exact aA;exact At.v1 hbt (by rw [gt_]);exact rfl;exact rfl)
  have m1:=wX (a:=0 - s.u) (b:=s.x) (by omega) n1
  have m2:=wX (a:=0 - s.u) (b:=s.y) (by omega) n2
  have m3:=wX (a:=0 - s.v) (b:=s.x) (by omega) n1
  have m4:=wX (a:=0 - s.v) (b:=s.y) (by omega) n2
  have k1: -9223372036854775808≤(0 - s.u)*s.x∧(0 - s.u)*s.x≤9223372036854775807:=by omega
  have k2: -9223372036854775808≤(0 - s.u)*s.y∧(0 - s.u)*s.y≤9223372036854775807:=by omega
  have k3: -9223372036854775808≤(0 - s.v)*s.x∧(0 - s.v)*s.x≤9223372036854775807:=by omega
  have k4: -9223372036854775808≤(0 - s.v)*s.y∧(0 - s.v)*s.y≤9223372036854775807:=by omega
  repeat refine aB ?_
  rw [Int.zero_sub]
  refine gK (cs:=recs eZ (hr1 s)) ([.int .i64 s.x, .int .i64 s.y, .int .i64 1, .int .i64 0, .int .i64 0, .int .i64 0, .int .i64 (-s.u*s.x), .int .i64 (-s.u*s.y), .int .i64 (-s.u)]) rfl (fun b9=>?_)
  refine aH .here ?_
  repeat refine aB ?_
  rw [Int.zero_sub]
  refine gK (cs:=recs eZ (hr2 s)) ([.int .i64 0, .int .i64 0, .int .i64 0, .int .i64 s.x, .int .i64 s.y, .int .i64 1, .int .i64 (-s.v*s.x), .int .i64 (-s.v*s.y), .int .i64 (-s.v)]) rfl (fun b10=>?_)
  refine aH .here ?_
  refine gK (cs:=recs eSl [b9,b10]) ([.slice (some ⟨b9,0,none⟩) 9 9, .slice (some ⟨b10,0,none⟩) 9 9]) rfl (fun b11=>?_)
  refine aH .here ?_
  clear m1 m2 m3 m4 k1 k2 k3 k4
  obtain ⟨X1,hX1⟩:∃X1,hr1 s=X1:=⟨_,rfl⟩
  obtain ⟨X2,hX2⟩:∃X2,hr2 s=X2:=⟨_,rfl⟩
  have l1:X1.length=9:=by rw [←hX1];rfl
  have l2:X2.length=9:=by rw [←hX2];rfl
  rw [hX1] at hb1 hA2 ⊢
  rw [hX2] at hb2 hA2 ⊢
  repeat refine aB ?_
  refine rJ (M':= .blk b7 (recs eV2 ts1) 192:: .blk b6 (recs eV2 fs1) 192:: .row qa rows.length ca (recs eL rows) 70 1::M0) (I':=dX rows 31::aI (some ⟨b11,0,none⟩) (recs eSl [b9,b10])::aI (some ⟨b10,0,none⟩) (recs eZ X2)::aI (some ⟨b9,0,none⟩) (recs eZ X1)::aI qs_ (recs eZ smp)::aI q (recs gX l)::I0) aF aC ?_
  refine lX [0,6,7,25,26,27,88,89] rfl (fun k G M I=>∃(t:Nat) (rows1:List RL) (qa1:Option Addr) (ca1:Nat),t≤2∧k=2 - t∧rows1.map RL.q=hA (bM l (smp.take i))++[cz X1,cz X2].take t∧G=[(8, .slice qa1 rows1.length ca1),(90, .int .i64 t)]∧M= .blk b7 (recs eV2 ts1) 192:: .blk b6 (recs eV2 fs1) 192:: .row qa1 rows1.length ca1 (recs eL rows1) 70 1::M0∧I=dX rows1 31::aI (some ⟨b11,0,none⟩) (recs eSl [b9,b10])::aI (some ⟨b10,0,none⟩) (recs eZ X2)::aI (some ⟨b9,0,none⟩) (recs eZ X1)::aI qs_ (recs eZ smp)::aI q (recs gX l)::I0) (2) (⟨0,rows,qa,ca,by omega,rfl,by rw [hrq];simp,rfl,rfl,rfl⟩) ?_
  rintro kk G M I ⟨t,rows1,qa1,ca1,ht2,rfl,hrq1,rfl,rfl,rfl⟩
  have hlr1:rows1.length=2*i+t:=by have:=congrArg List.length hrq1;rw [List.length_map,List.length_append,aNU,hpl,List.length_take] at this;simp at this;omega
  by_cases ht3:t < 2
  ·obtain ⟨bt,xs,hbt2,hf,hxl,hxb,hA3⟩:=pair9 (I:=dX rows1 31::aI (some ⟨b11,0,none⟩) (recs eSl [b9,b10])::aI (some ⟨b10,0,none⟩) (recs eZ X2)::aI (some ⟨b9,0,none⟩) (recs eZ X1)::aI qs_ (recs eZ smp)::aI q (recs gX l)::I0) (b9:=b9) (b10:=b10) (by simp) (by simp) l1 l2 hb1 hb2 ht3
   refine bG (φ:=aI (some ⟨bt,0,none⟩) (recs eZ xs)) (Hv.mem hf) ?_
   have hl2':(t:Int) < (([b9,b10]:List Nat).length:Int):=by show (t:Int) < ((2:Nat):Int);omega
   repeat refine aB ?_
   rw [hbt2]
   repeat refine aB ?_
   refine gZ 77 4 ?_
   refine bG (φ:=aP [] 31) Hv.nilR ?_
   repeat refine aB ?_
   refine lX [0,6,7,8,25,26,27,88,89,90,94,95] rfl (fun k G M I=>∃(j:Nat) (es:List RE) (qe:Option Addr) (ce:Nat),j≤9∧k=9 - j∧es.length=j∧qs es=cz (xs.take j)∧G=[(17, .slice qe es.length ce),(96, .int .i64 j)]∧M= .row qe es.length ce (recs eR es) 77 4:: .blk b7 (recs eV2 ts1) 192:: .blk b6 (recs eV2 fs1) 192:: .row qa1 rows1.length ca1 (recs eL rows1) 70 1::M0∧I=aP es 31::aI (some ⟨bt,0,none⟩) (recs eZ xs)::dX rows1 31::aI (some ⟨b11,0,none⟩) (recs eSl [b9,b10])::aI (some ⟨b10,0,none⟩) (recs eZ X2)::aI (some ⟨b9,0,none⟩) (recs eZ X1)::aI qs_ (recs eZ smp)::aI q (recs gX l)::I0) (9) (⟨0,[],none,0,by omega,rfl,rfl,rfl,rfl,rfl,rfl⟩) ?_
   rintro kk G M I ⟨j,es,qe,ce,hj,rfl,hel,heq,rfl,rfl,rfl⟩
   by_cases hjm:j < 9
   ·have hx:=hxb _ (bF (ms:=xs) (i:=(j:Int)) (by omega))
    obtain ⟨x,hxx⟩:∃x,gt xs (j:Int)=x:=⟨_,rfl⟩
    rw [hxx] at hx
    have hW:=fun M0 I0=>iT (X:=X) (w0:=w0) (M0:=M0) (I0:=I0) (x:=x) hx.1 (k:=31) hx.2
    have htx:xs.take (j+1)=xs.take j++[x]:=by rw [←hxx,fH (by omega)];exact (List.take_append_getElem (by omega)).symm
    repeat refine aB ?_
    rw [hxx]
    repeat refine aB ?_
    refine fK rfl (hW _ _) (fun e he=>?_)
    refine gK (cs:=recs eR [e]) ([rv e]) rfl (fun b=>?_)
    refine wM (ys:=[e]) 1 rfl rfl rfl (fun q2 c3=>?_)
    repeat refine aB ?_
    refine dF (φ:=aP (es++[e]) 31) (Hv.snoc aA aA) ?_
    refine gL (9 - (j+1)) (⟨j+1,es++[e],q2,c3,by omega,rfl,by simp [hel],?_,rfl,rfl,rfl⟩)
    rw [htx,aAA,←heq]
    show (es++[e]).map RE.q=qs es++[(x:Rat)]
    rw [List.map_append,←he]
    rfl
   ·obtain rfl:j=9:=by omega
    rw [←hxl,List.take_length] at heq
    repeat refine aB ?_
    refine aJG (k:=31) aA ?_
    refine gK (cs:=recs eL [⟨qe,ce,es⟩]) ([lv ⟨qe,ce,es⟩]) rfl (fun b17=>?_)
    refine wM (ys:=[⟨qe,ce,es⟩]) 3 rfl rfl rfl (fun qa2 ca2=>?_)
    repeat refine aB ?_
    refine dF (φ:=dX (rows1++[(⟨qe,ce,es⟩:RL)]) 31) (Hv.snocL aA aA) ?_
    refine gL (2 - (t+1)) (⟨t+1,rows1++[(⟨qe,ce,es⟩:RL)],qa2,ca2,by omega,rfl,by rw [hA3,List.map_append,hrq1,List.append_assoc];show _++(_++[qs es])=_;rw [heq],rfl,rfl,rfl⟩)
  ·obtain rfl:t=2:=by omega
   repeat refine aB ?_
   refine gL (4 - (i+1)) (⟨i+1,fs1,ts1,rows1,qa1,ca1,by omega,rfl,by rw [←hfs1,oP];exact hfl,by rw [←hts1,oP];exact htl,fun u hu=>by
    rw [←hfs1,pM (by omega) (by omega)]
    by_cases e:u=i
    ·subst e
     rw [if_pos rfl,hz,hss]
    ·rw [if_neg e]
     exact hfs u (by omega),fun u hu=>by
    rw [←hts1,pM (by omega) (by omega)]
    by_cases e:u=i
    ·subst e
     rw [if_pos rfl,hz,hss]
    ·rw [if_neg e]
     exact hts u (by omega),by rw [hrq1,hA2];rfl,rfl,rfl,rfl⟩)
 obtain rfl:i=4:=by omega
 rw [←hsl,List.take_length] at hrq
 have hpl4:(bM l smp).length=4:=by rw [oC,hsl]
 have hnr:=zG hs (smp:=smp) (by rw [hl];exact hin)
 obtain ⟨ps,hps⟩:∃ps,bM l smp=ps:=⟨_,rfl⟩
 have hgp:∀t:Nat,t < 4→gt ps (t:Int)=gt l (gt smp (t:Int)):=fun t ht=>by
  rw [←hps]
  unfold bM
  rw [dP (by rw [List.length_map];omega),List.getElem_map,fH (by omega)]
 rw [hps] at hrq hpl4 hnr ⊢
 have ef:∀t:Nat,t < 4→hg2 (gt fs (t:Int))=ptF (gt ps (t:Int)):=fun t ht=>by rw [hfs t ht,hgp t ht];rfl
 have et:∀t:Nat,t < 4→hg2 (gt ts (t:Int))=ptT (gt ps (t:Int)):=fun t ht=>by rw [hts t ht,hgp t ht];rfl
 have nf:∀p∈fs,nr2 p:=fun p hp=>by
  rw [os4 hfl] at hp
  have n0:=hnr _ (bF (ms:=ps) (i:=((0:Nat):Int)) ⟨by omega,by omega⟩)
  have n1:=hnr _ (bF (ms:=ps) (i:=((1:Nat):Int)) ⟨by omega,by omega⟩)
  have n2:=hnr _ (bF (ms:=ps) (i:=((2:Nat):Int)) ⟨by omega,by omega⟩)
  have n3:=hnr _ (bF (ms:=ps) (i:=((3:Nat):Int)) ⟨by omega,by omega⟩)
  rw [hgp 0 (by omega)] at n0
  rw [hgp 1 (by omega)] at n1
  rw [hgp 2 (by omega)] at n2
  rw [hgp 3 (by omega)] at n3
  rw [show gt fs 0=_ from hfs 0 (by omega),show gt fs 1=_ from hfs 1 (by omega),show gt fs 2=_ from hfs 2 (by omega),show gt fs 3=_ from hfs 3 (by omega)] at hp
  simp only [List.mem_cons,List.not_mem_nil,or_false] at hp
  rcases hp with rfl|rfl|rfl|rfl
  ·exact ⟨n0.x,n0.y⟩
  ·exact ⟨n1.x,n1.y⟩
  ·exact ⟨n2.x,n2.y⟩
  ·exact ⟨n3.x,n3.y⟩
 have nt:∀p∈ts,nr2 p:=fun p hp=>by
  rw [os4 htl] at hp
  have n0:=hnr _ (bF (ms:=ps) (i:=((0:Nat):Int)) ⟨by omega,by omega⟩)
  have n1:=hnr _ (bF (ms:=ps) (i:=((1:Nat):Int)) ⟨by omega,by omega⟩)
  have n2:=hnr _ (bF (ms:=ps) (i:=((2:Nat):Int)) ⟨by omega,by omega⟩)
  have n3:=hnr _ (bF (ms:=ps) (i:=((3:Nat):Int)) ⟨by omega,by omega⟩)
  rw [hgp 0 (by omega)] at n0
  rw [hgp 1 (by omega)] at n1
  rw [hgp 2 (by omega)] at n2
  rw [hgp 3 (by omega)] at n3
  rw [show gt ts 0=_ from hts 0 (by omega),show gt ts 1=_ from hts 1 (by omega),show gt ts 2=_ from hts 2 (by omega),show gt ts 3=_ from hts 3 (by omega)] at hp
  simp only [List.mem_cons,List.not_mem_nil,or_false] at hp
  rcases hp with rfl|rfl|rfl|rfl
  ·exact ⟨n0.u,n0.v⟩
  ·exact ⟨n1.u,n1.v⟩
  ·exact ⟨n2.u,n2.v⟩
  ·exact ⟨n3.u,n3.v⟩
 have cf:(⟨hg2 (gt fs 0),hg2 (gt fs 1),hg2 (gt fs 2),hg2 (gt fs 3)⟩:P4 Int)=l4 ps:=by rw [show hg2 (gt fs 0)=_ from ef 0 (by omega),show hg2 (gt fs 1)=_ from ef 1 (by omega),show hg2 (gt fs 2)=_ from ef 2 (by omega),show hg2 (gt fs 3)=_ from ef 3 (by omega)];rfl
 have ct:(⟨hg2 (gt ts 0),hg2 (gt ts 1),hg2 (gt ts 2),hg2 (gt ts 3)⟩:P4 Int)=m4 ps:=by rw [show hg2 (gt ts 0)=_ from et 0 (by omega),show hg2 (gt ts 1)=_ from et 1 (by omega),show hg2 (gt ts 2)=_ from et 2 (by omega),show hg2 (gt ts 3)=_ from et 3 (by omega)];rfl
 have hC1:=fun M0 I0=>aPY (X:=X) (w0:=w0) (M0:=M0) (I0:=I0) (ps:=fs) hfl nf
 have hC2:=fun M0 I0=>aPY (X:=X) (w0:=w0) (M0:=M0) (I0:=I0) (ps:=ts) htl nt
 rw [cf] at hC1
 rw [ct] at hC2
 clear hfs hts hgp ef et nf nt cf ct hin
 repeat refine aB ?_
 (apply bJ;exact eX;exact rfl;exact aA;exact AtsZ.all (by rw [fG,hfl]);exact rfl;exact rfl)
 repeat refine aB ?_
 refine dH rfl (hC1 _ _) ?_
 by_cases c1:colP (l4 ps)
 ·rw [bK c1]
  repeat refine aB ?_
  refine fC (M':=M0) (I':=I0) aF aC ?_
  refine gJ [4,5] (by first|exact .inl rfl|exact .inr rfl) rfl rfl rfl _ _ aF aC (⟨rfl,by unfold aAN;rw [if_pos (show colP (l4 ps)∨colP (m4 ps) from .inl c1)];exact ⟨rfl,_,rfl⟩⟩)
 rw [bH c1]
 repeat refine aB ?_
 (apply bJ;exact eX;exact rfl;exact aA;exact AtsZ.all (by rw [fG,htl]);exact rfl;exact rfl)
 repeat refine aB ?_
 refine dH rfl (hC2 _ _) ?_
 by_cases c2:colP (m4 ps)
 ·rw [bK c2]
  repeat refine aB ?_
  refine fC (M':=M0) (I':=I0) aF aC ?_
  refine gJ [4,5] (by first|exact .inl rfl|exact .inr rfl) rfl rfl rfl _ _ aF aC (⟨rfl,by unfold aAN;rw [if_pos (show colP (l4 ps)∨colP (m4 ps) from .inr c2)];exact ⟨rfl,_,rfl⟩⟩)
 rw [bH c2]
 refine wO (M':= .row qa rows.length ca (recs eL rows) 70 1::M0) (I':=dX rows 31::I0) aF aC ?_
 refine aYP (k:=31) List.mem_cons_self ?_
 obtain ⟨zv,hz1,hz9,hzf,hzn⟩:=aTA hpl4 c1 c2
 have hpP:aAN ps=some (aFZ (qL zv)):=by unfold aAN;rw [if_neg (fun h=>h.elim c1 c2),hzn]
 rw [hpP]
 have hdim:(⟨qa,ca,rows⟩:MX).dim 8 9:=⟨by show rows.length=8;omega,fun r hr=>by
  have h1:r.q∈hA ps:=by rw [←hrq];exact List.mem_map_of_mem hr
  obtain ⟨s,_,h2⟩:=List.mem_flatMap.1 h1
  have h3:r.q.length=9:=by
   simp only [List.mem_cons,List.not_mem_nil,or_false] at h2
   rcases h2 with h2|h2 <;>rw [h2] <;>rfl
  rw [←h3]
  exact (List.length_map _).symm⟩
 have hN:=fun M0 I0 h=>aRU (X:=X) (w0:=w0) (M0:=M0) (I0:=I0) (a:=⟨qa,ca,rows⟩) (R:=8) (C:=9) (k0:=31) (Nat.le_trans kb9 (by decide)) (by omega) (by omega) hdim (by show (yL (rows.map RL.q) 9).length=1;rw [hrq,hz1];rfl) h
 unfold NlO at hN
 have hW0:=fun M0 I0=>iT (X:=X) (w0:=w0) (M0:=M0) (I0:=I0) (x:=0) (by decide) (k:=nX) (by simp)
 repeat refine aB ?_
 (refine bD rfl (hN _ _ aA) ?_;rintro _ _ _ ⟨qo,co,b,c0,es,tl,rfl,hne,hel,hcc,rfl,rfl⟩;refine aN ?_)
 have hqz:qs es=zv:=by
  have h1:yL (rows.map RL.q) 9=[qs es]:=hne
  rw [hrq,hz1] at h1
  exact (List.cons.inj h1).1.symm
 refine bQ (φ:=aP es nX) (Hv.allMono (k:=kb 31 9) aA kb9) ?_
 obtain ⟨r0,hr0⟩:∃r0:RL,(⟨some ⟨b,0,none⟩,c0,es⟩:RL)=r0:=⟨_,rfl⟩
 have r0p:r0.p=some ⟨b,0,none⟩:=by rw [←hr0]
 have r0l:r0.es.length=9:=by rw [←hr0];exact hel
 have r0c:r0.c=c0:=by rw [←hr0]
 rw [hr0]
 have h1l:([r0]:List RL).length=1:=rfl
 repeat refine aB ?_
 rw [r0p,r0l,r0c]
 repeat refine aB ?_
 refine fK rfl (hW0 _ _) (fun e0 he0=>?_)
 refine cK (fun b21=>?_)
 repeat refine aB ?_
 refine rJ (M':= .blk b21 (eR e0) 77:: .blk b (recs eR es++tl) 77::M0) (I':=bL e0 nX::aP es nX::I0) aF aC ?_
 refine lX [20,21,123,124] rfl (fun k G M I=>∃(i:Nat) (e:RE),i≤9∧k=9 - i∧e.q=qP ((qs es).take i)∧G=[(125, .int .i64 i)]∧M= .blk b21 (eR e) 77:: .blk b (recs eR es++tl) 77::M0∧I=bL e nX::aP es nX::I0) (9) (⟨0,e0,by omega,rfl,he0,rfl,rfl,rfl⟩) ?_
 rintro kk G M I ⟨i,e,hi,rfl,he,rfl,rfl,rfl⟩
 by_cases hii:i < 9
 ·obtain ⟨x,hx⟩:∃x,gt es (i:Int)=x:=⟨_,rfl⟩
  have htk:(qs es).take (i+1)=(qs es).take i++[x.q]:=by
   have hl9:i < (qs es).length:=by simp [qs];omega
   rw [←List.take_append_getElem hl9,←hx,fH (by omega)]
   simp [qs]
  have hS:=fun M0 I0 h=>pV (X:=X) (w0:=w0) (M0:=M0) (I0:=I0) (e:=e) (k:=nX) (by decide) h
  refine bG (φ:=bL x nX) (by rw [←hx];exact Hv.all aA ⟨by omega,by omega⟩ (Nat.le_refl _)) ?_
  repeat (first|(refine aB ?_)|(refine bN ?_;apply bJ;exact eX;exact rfl;exact aA;exact AtsZ.app (AtsZ.r iH);exact rfl;exact rfl))
  repeat refine aB ?_
  rw [hx]
  refine cK (fun b23=>?_)
  repeat refine aB ?_
  refine dH rfl (hS _ _ (Hv.mem aA)) ?_
  by_cases h0:e.q=0
  ·have hs0:e.q.num.sign=0:=Int.sign_eq_zero_iff_zero.2 (Rat.num_eq_zero.2 h0)
   repeat refine aB ?_
   refine fC (M':= .blk b21 (eR x) 77:: .blk b (recs eR es++tl) 77::M0) (I':=bL x nX::aP es nX::I0) aF aC ?_
   refine gL (9 - (i+1)) (⟨i+1,x,by omega,rfl,by rw [htk,aBE,←he,if_pos h0],rfl,rfl,rfl⟩)
  ·have hs0:¬e.q.num.sign=0:=fun h=>h0 (Rat.num_eq_zero.1 (Int.sign_eq_zero_iff_zero.1 h))
   repeat refine aB ?_
   refine fC (M':= .blk b21 (eR e) 77:: .blk b (recs eR es++tl) 77::M0) (I':=bL e nX::aP es nX::I0) aF aC ?_
   refine gL (9 - (i+1)) (⟨i+1,e,by omega,rfl,by rw [htk,aBE,←he,if_neg h0],rfl,rfl,rfl⟩)
 obtain rfl:i=9:=by omega
 have hF:e.q=qP zv:=by
  rw [he,hqz,List.take_of_length_le (by omega)]
 rw [←hF] at hzf
 repeat refine aB ?_
 refine bG (φ:=aP es (nX+nX)) (Hv.allMono (k:=nX) aA (by decide)) ?_
 refine rJ (M':= .blk b21 (eR e) 77:: .blk b (recs eR es++tl) 77::M0) (I':=aP es (nX+nX)::bL e nX::aP es nX::I0) aF aC ?_
 refine lX [20,21,135] rfl (fun k G M I=>∃(i:Nat) (es2:List RE),i≤9∧k=9 - i∧es2.length=9∧(∀t:Nat,t < i→(gt es2 (t:Int)).q=(gt es (t:Int)).q / e.q)∧(∀t:Nat,i≤t→t < 9→gt es2 (t:Int)=gt es (t:Int))∧G=[(136, .int .i64 i)]∧M= .blk b21 (eR e) 77:: .blk b (recs eR es2++tl) 77::M0∧I=aP es2 (nX+nX)::bL e nX::aP es nX::I0) (9) (⟨0,es,by omega,rfl,hel,fun t ht=>absurd ht (by omega),fun t _ _=>rfl,rfl,rfl,rfl⟩) ?_
 rintro kk G M I ⟨i,es2,hi,rfl,hel2,hlo,hhi,rfl,rfl,rfl⟩
 by_cases hii:i < 9
 ·obtain ⟨x,hx⟩:∃x,gt es2 (i:Int)=x:=⟨_,rfl⟩
  have hx2:gt es (i:Int)=x:=by rw [←hhi i (Nat.le_refl _) hii,hx]
  have hD:=fun M0 I0 h1 h2=>wQ (X:=X) (w0:=w0) (M0:=M0) (I0:=I0) (a:=x) (b:=e) (k:=nX) (m:=nX) (by decide) hzf h1 h2
  unfold RQc at hD
  refine bG (φ:=bL x nX) (by rw [←hx2];exact Hv.all (es:=es) (k:=nX) aA ⟨by omega,by omega⟩ (Nat.le_refl _)) ?_
  repeat refine aB ?_
  (repeat refine aG ?_);refine aW 1 [0,1,2,3,4,5,6,7,8,9,10,11,12] [1,1,1,1,1,0,0,0,0,0,1,0,0] mixed (by kernel_rfl) ?_
  repeat (first|(refine aB ?_)|(refine bN ?_;apply bJ;exact eX;exact rfl;exact aA;exact AtsZ.app (AtsZ.r iH);exact rfl;exact rfl))
  repeat refine aB ?_
  rw [hx]
  repeat refine aB ?_
  (refine bD rfl (hD _ _ (Hv.mem aA) (Hv.mem aA)) ?_;rintro _ _ _ ⟨rfl,y,rfl,hy,rfl⟩;refine aN ?_)
  repeat refine yXh ?_
  refine fJ (vs:=eR y) rfl rfl rfl (Ones.one y) jJ (StAts.app (StAts.r (enc:=eR) (ms:=es2) (i:=(i:Int)) y ⟨by omega,by omega⟩ rfl)) rfl rfl ⟨okF,?_⟩
  refine bQ (φ:=aP (st es2 (i:Int) y) (nX+nX)) (Hv.stR aA aA) ?_
  repeat refine aB ?_
  refine gL (9 - (i+1)) (⟨i+1,st es2 (i:Int) y,by omega,rfl,by rw [oP];exact hel2,fun t ht=>by
   rw [pM (by omega) (by omega)]
   by_cases e2:t=i
   ·subst e2
    rw [if_pos rfl,hy,hx2]
   ·rw [if_neg e2]
    exact hlo t (by omega),fun t ht h9=>by
   rw [pM (by omega) (by omega),if_neg (by omega)]
   exact hhi t (by omega) h9,rfl,rfl,rfl⟩)
 obtain rfl:i=9:=by omega
 have hq2:qs es2=qL zv:=by
  apply rR
  ·rw [List.length_map,hel2];unfold qL;rw [List.length_map,hz9]
  ·intro t ht
   have ht9:t < 9:=by rw [List.length_map] at ht;omega
   rw [iK (by omega),hlo t ht9,aOE (by omega),←hqz,iK (by omega),hqz,hF]
 refine rJ (M':= .blk b (recs eR es2++tl) 77::M0) (I':=aP es2 (nX+nX)::I0) aF aC ?_
 refine aZV (k:=nX+nX) (c:=c0) (by omega) aA ?_
 obtain ⟨r,hr⟩:∃r:RL,r=⟨some ⟨b,0,none⟩,c0,es2⟩:=⟨_,rfl⟩
 have hrl:r.es.length=9:=by rw [hr];exact hel2
 have hrc:r.c=c0:=by rw [hr]
 have hrp:r.p=some ⟨b,0,none⟩:=by rw [hr]
 have hrq2:r.q=qL zv:=by rw [hr];exact hq2
 rw [←hr]
 repeat refine aB ?_
 (repeat refine aG ?_);refine pW (M0) (iN r (nX+nX)::I0) [0,1,2,3,4,5,6,7,8] [1,0,1,0,1,0,0,0,0] mixed ?_
 repeat refine aB ?_
 rw [←hrp,←hrc]
 rw [←hrc] at hcc
 (refine aD rfl (fun _=>pR (e:=77) (sz:=4) 0 3 3 rfl (.inl ⟨rfl,rfl⟩) (.inr ⟨_,_,_,rfl,rfl,rfl⟩) (by omega) (by omega) rfl) rfl rfl ?_)
 repeat refine aB ?_
 (refine aD rfl (fun _=>pR (e:=77) (sz:=4) 3 6 3 rfl (.inr ⟨_,_,_,rfl,rfl,rfl⟩) (.inr ⟨_,_,_,rfl,rfl,rfl⟩) (by omega) (by omega) rfl) rfl rfl ?_)
 repeat refine aB ?_
 (refine aD rfl (fun _=>pR (e:=77) (sz:=4) 6 9 3 rfl (.inr ⟨_,_,_,rfl,rfl,rfl⟩) (.inl ⟨rfl,rfl⟩) (by omega) (by omega) rfl) rfl rfl ?_)
 have s0:(r.sub 0 3).es.length=3:=by show ((r.es.take 3).drop 0).length=3;rw [List.length_drop,List.length_take];omega
 have s1:(r.sub 3 6).es.length=3:=by show ((r.es.take 6).drop 3).length=3;rw [List.length_drop,List.length_take];omega
 have s2:(r.sub 6 9).es.length=3:=by show ((r.es.take 9).drop 6).length=3;rw [List.length_drop,List.length_take];omega
 have u0:Value.slice (xD r.p r.c 0 4) 3 (r.c - 0)=lv (r.sub 0 3):=by show _=Value.slice _ (r.sub 0 3).es.length _;rw [s0];rfl
 have u1:Value.slice (xD r.p r.c 3 4) 3 (r.c - 3)=lv (r.sub 3 6):=by show _=Value.slice _ (r.sub 3 6).es.length _;rw [s1];rfl
 have u2:Value.slice (xD r.p r.c 6 4) 3 (r.c - 6)=lv (r.sub 6 9):=by show _=Value.slice _ (r.sub 6 9).es.length _;rw [s2];rfl
 rw [u0,u1,u2]
 refine bQ (φ:=iN (r.sub 0 3) (nX+nX)) (Hv.subL aA (by omega) (by omega)) ?_
 refine bQ (φ:=iN (r.sub 3 6) (nX+nX)) (Hv.subL aA (by omega) (by omega)) ?_
 refine bQ (φ:=iN (r.sub 6 9) (nX+nX)) (Hv.subL aA (by omega) (by omega)) ?_
 refine bQ (φ:=dX [r.sub 0 3,r.sub 3 6,r.sub 6 9] (nX+nX)) (Hv.threeL aA aA aA) ?_
 refine gK (cs:=recs eL [r.sub 0 3,r.sub 3 6,r.sub 6 9]) ([lv (r.sub 0 3),lv (r.sub 3 6),lv (r.sub 6 9)]) rfl (fun bm=>?_)
 refine aH .here ?_
 refine bQ (φ:=gI ⟨some ⟨bm,0,none⟩,3,[r.sub 0 3,r.sub 3 6,r.sub 6 9]⟩ (nX+nX)) (Hv.mkX (b:=bm) (rows:=[r.sub 0 3,r.sub 3 6,r.sub 6 9]) aA aA) ?_
 repeat refine aB ?_
 refine fC (M':=M0) (I':=gI ⟨some ⟨bm,0,none⟩,3,[r.sub 0 3,r.sub 3 6,r.sub 6 9]⟩ (nX+nX)::I0) aF aC ?_
 refine gJ [4,5] (by first|exact .inl rfl|exact .inr rfl) rfl rfl rfl _ _ aF aC (⟨rfl,⟨some ⟨bm,0,none⟩,3,[r.sub 0 3,r.sub 3 6,r.sub 6 9]⟩,rfl,by show [(r.sub 0 3).q,(r.sub 3 6).q,(r.sub 6 9).q]=_;rw [RL.sub_q,RL.sub_q,RL.sub_q,hrq2];exact aNI (by unfold qL;rw [List.length_map,hz9]),⟨rfl,fun x hx=>by
  simp only [List.mem_cons,List.not_mem_nil,or_false] at hx
  rcases hx with rfl|rfl|rfl <;>assumption⟩,rfl⟩)
end
def SolG (A:Mt) (C:Nat) (b:List Rat) (K:Nat) (M0:List Ent) (I0:List aL) (v:Value) (M:List Ent) (I:List aL):Prop:=M0=M∧((dt C (at2 A)=0∧I0=I∧v= .tuple #[.slice none 0 0, .bool false])∨∃r:RL,v= .tuple #[lv r, .bool true]∧r.es.length=C∧(dt C (at2 A)≠0→r.q=aCT C C A b)∧I=iN r K::I0)
section
variable {X:List Nat} {w0:World} {M0:List Ent} {I0:List aL}
theorem aNK {a:MX} {b:RL} {C u:Nat} (hC:1≤C∧C≤60) (hb:kb u (C+1)≤20000000000) (da:a.dim C C) (hl:b.es.length=C) (ha:gI a u∈I0) (hbb:iN b u∈I0):
  CD Tryz.prog 71 [mv a,lv b] X w0 M0 I0 (SolG a.q C b.q (kb u (C+1)) M0 I0):=by
 have lR:=da.1
 have lC:(gt a.rows 0).es.length=C:=da.row (i:=0) (by omega)
 have hZ:∀M0 I0,CD Tryz.prog 146 [.int .i64 1, .int .i64 (C:Int)] X w0 M0 I0 (MsP 1 C (fun _ _=>0) 0 M0 I0):=fun M0 I0=>aDX (X:=X) (w0:=w0) (M0:=M0) (I0:=I0) (R:=1) (C:=C) (by omega) (by omega)
 have hCo:=fun M0 I0 h=>aGP (X:=X) (w0:=w0) (M0:=M0) (I0:=I0) (x:=b) (n:=C) (k0:=u) (by omega) hl h
 have hBe:=fun (y:MX) (hy:y.dim C 1) M0 I0 h1 h2=>aOQ (X:=X) (w0:=w0) (M0:=M0) (I0:=I0) (a:=a) (b:=y) (R:=C) (C:=C) (D:=1) (u:=u) (by omega) (by omega) (by omega) da hy h1 h2
 have hEc:=fun (y:MX) (hy:y.dim C (C+1)) M0 I0 h1=>aJU (X:=X) (w0:=w0) (M0:=M0) (I0:=I0) (a:=y) (R:=C) (C:=C+1) (k0:=u) hb (by omega) (by omega) hy h1
 obtain ⟨_,s,hrd⟩:=iQ (A:=uM C C a.q b.q) (R:=C) (C:=C+1) aSF (C+1) (by omega)
 obtain ⟨E,pv,hrC1⟩:∃E pv,eQ (uM C C a.q b.q) (C+1)=(E,pv):=⟨_,_,rfl⟩
 rw [hrC1] at hrd
 have hreg:dt C (at2 a.q)≠0→eQ (uM C C a.q b.q) C=(E,pv)∧C ∉ pv:=fun hdt=>by
  obtain ⟨E',pv',h1,h2,h3,h4⟩:=bEA (b:=b.q) hdt
  rw [hrC1] at h1
  obtain ⟨rfl,rfl⟩:E=E'∧pv=pv':=by injection h1 with x y;exact ⟨x,y⟩
  exact ⟨h2,fun h=>by
   obtain ⟨t,ht,e⟩:=jT.1 h
   have:=h4 t (by omega)
   omega⟩
 have hz:(zs pv).length=pv.length:=by simp
 have hidx:∀r:Nat,r < pv.length→pv.idxOf (pv.getD r 0)=r:=fun r h=>hrd.idx h
 have hlen:pv.length≤C:=hrd.len
 have hpv:∀t:Nat,t < pv.length→pv.getD t 0 < C+1:=fun t h=>hrd.piv_lt h
 generalize hK:kb u (C+1)=K at*
 refine aV (φ:=aI (a).p (recs eL (a).rows)) (Hv.xsl aA) ?_
 refine aM Tryz.func71 rfl Tryz.ntmps71 rfl ?_
 repeat refine aB ?_
 rw [lC]
 repeat refine aB ?_
 (refine bD rfl (hCo _ _ aA) ?_;rintro _ _ _ ⟨rfl,y,rfl,hy,hyd,rfl⟩;refine aN ?_)
 (refine bD rfl (hBe y hyd _ _ aA aA) ?_;rintro _ _ _ ⟨rfl,z,rfl,hzq,hzd,rfl⟩;refine aN ?_)
 (refine bD rfl (hEc z hzd _ _ aA) ?_;rintro _ _ _ ⟨rfl,m,pv2,q,c,rfl,hm,hd,rfl⟩;refine aN ?_)
 have hz1:z.q=uM C C a.q b.q:=by rw [hzq,hy];exact bAF rfl
 rw [hz1,hrC1] at hm
 obtain ⟨rfl,rfl⟩:E=m.q∧pv=pv2:=by injection hm with h1 h2;exact ⟨h1,h2⟩
 have hHs:=fun M0 I0 h=>aRI (X:=X) (w0:=w0) (M0:=M0) (I0:=I0) (p:=q) (l:=zs pv) (t:=pv.length) (c:=c) (x:=(C:Int)) hz (by omega) h
 have mR:=hd.1
 refine bQ (φ:=aI (m).p (recs eL (m).rows)) (Hv.xsl aA) ?_
 by_cases hno:C∈pv
 ·rw [bK (aIK.2 hno)] at hHs
  repeat refine aB ?_
  refine dH rfl (hHs _ _ aA) ?_
  repeat refine aB ?_
  refine fC (M':=M0) (I':=I0) aF aC ?_
  refine tyS [4,5] rfl rfl (⟨rfl, .inl ⟨Classical.byContradiction (fun h=>(hreg h).2 hno),rfl,rfl⟩⟩)
 rw [bH (fun h=>hno (aIK.1 h))] at hHs
 have hpC:∀t:Nat,t < pv.length→pv.getD t 0 < C:=fun t ht=>by
  have h1:=hpv t ht
  have h2:pv.getD t 0≠C:=fun e=>hno (jT.2 ⟨t,ht,e⟩)
  omega
 repeat refine aB ?_
 refine dH rfl (hHs _ _ aA) ?_
 repeat refine aB ?_
 (refine bD rfl (hZ _ _) ?_;rintro _ _ _ ⟨bz,cz,tlz,rz,rfl,hcz,hsz,hpz,rfl,rfl⟩;refine aN ?_)
 obtain ⟨r0,rfl⟩:∃r0,rz=[r0]:=by
  have:=hsz.len
  match rz,this with
  |[x],_=>exact ⟨x,rfl⟩
 have hcol:=hsz.col r0 (by simp)
 have hp0:∀t:Nat,t < C→(gt r0.es (t:Int)).q=0:=fun t ht=>hpz 0 t (by omega) ht
 refine bQ (φ:=aP r0.es 0) (Hv.allS1 aA) ?_
 simp only [List.map_cons,List.map_nil,List.cons_append,List.nil_append]
 obtain ⟨hel,hcv⟩:=hcol
 have hg1:gt [r0] 0=r0:=rfl
 repeat refine aB ?_
 rw [hel]
 repeat refine aB ?_
 refine bG (φ:=aP r0.es K) (Hv.allMono (k:=0) aA (Nat.zero_le _)) ?_
 refine rJ (M':= .blk r0.b (recs eR r0.es++r0.tl) 77::M0) (I':=aP r0.es K::aI m.p (recs eL m.rows)::pvI q pv::gI m K::I0) aF aC ?_
 refine lX [6,7,8,9] rfl (fun k G M I=>∃(r:Nat) (es2:List RE),r≤pv.length∧k=pv.length - r∧es2.length=C∧(∀t:Nat,t < C→(gt es2 (t:Int)).q=if t∈pv∧pv.idxOf t < r then at2 m.q (pv.idxOf t) C else 0)∧G=[(10, .int .i64 r)]∧M= .blk r0.b (recs eR es2++r0.tl) 77::M0∧I=aP es2 K::aI m.p (recs eL m.rows)::pvI q pv::gI m K::I0) (pv.length) (⟨0,r0.es,by omega,by omega,hel,fun t ht=>by rw [if_neg (by omega)];exact hp0 t ht,rfl,rfl,rfl⟩) ?_
 rintro kk G M I ⟨r,es2,hr2,rfl,hel2,heq2,rfl,rfl,rfl⟩
 by_cases hrp:r < pv.length
 ·have hgz:=bDN hrp
  have hpr:=hpC r (by omega)
  have hmr:=hd.row (i:=r) (by omega)
  have hat:=oQ (m:=m) (i:=r) (j:=C) (by omega) (by omega)
  refine bG (φ:=aI (gt (m).rows (r:Int)).p (recs eR (gt (m).rows (r:Int)).es)) (Hv.xrsl aA (by omega)) ?_
  repeat refine aB ?_
  (repeat refine aG ?_);refine aW 0 [0,1,2,3,4,5,6,7,8,9,10,11,12,13] [0,0,0,0,0,0,0,0,0,0,0,0,0,0] mixed (by kernel_rfl) ?_
  repeat refine yXh ?_
  rw [hgz]
  repeat refine yXh ?_
  obtain ⟨e2,he2⟩:∃e2,gt (gt m.rows (r:Int)).es (C:Int)=e2:=⟨_,rfl⟩
  have hv2:∀I,gI m K∈I→Hv I (bL e2 K):=fun I h=>by rw [←he2];exact Hv.xel h (by omega) (by omega)
  rw [he2] at hat ⊢
  refine fJ (vs:=eR e2) rfl rfl rfl (Ones.one e2) jJ (StAts.app (StAts.r (enc:=eR) (ms:=es2) (i:=((pv.getD r 0:Nat):Int)) e2 (by omega) rfl)) rfl rfl ⟨okF,?_⟩
  refine bQ (φ:=bL e2 K) (hv2 _ aA) ?_
  refine bQ (φ:=aP (st es2 ((pv.getD r 0:Nat):Int) e2) K) (Hv.stR aA aA) ?_
  repeat refine aB ?_
  refine gL (pv.length - (r+1)) (⟨r+1,st es2 ((pv.getD r 0:Nat):Int) e2,by omega,rfl,by rw [dK];exact hel2,fun t ht=>?_,rfl,rfl,rfl⟩)
  rw [vJ (by omega)]
  by_cases e1:t=pv.getD r 0
  ·subst e1
   rw [if_pos rfl,if_pos ⟨jT.2 ⟨r,hrp,rfl⟩,by rw [hidx r hrp];omega⟩,hidx r hrp,hat]
  ·rw [if_neg e1,heq2 t ht]
   by_cases e2:t∈pv
   ·have e3:pv.idxOf t≠r:=fun e=>e1 (by rw [←e];exact (Red.idx_lt e2).2.symm)
    by_cases e4:pv.idxOf t < r
    ·rw [if_pos ⟨e2,e4⟩,if_pos ⟨e2,by omega⟩]
    ·rw [if_neg (show ¬(t∈pv∧pv.idxOf t < r) from fun h=>e4 h.2),if_neg (show ¬(t∈pv∧pv.idxOf t < r+1) from fun h=>by have:=h.2;omega)]
   ·rw [if_neg (show ¬(t∈pv∧pv.idxOf t < r) from fun h=>e2 h.1),if_neg (show ¬(t∈pv∧pv.idxOf t < r+1) from fun h=>e2 h.1)]
 ·obtain rfl:r=pv.length:=by omega
  have hV:dt C (at2 a.q)≠0→qs es2=aCT C C a.q b.q:=fun hdt=>by
   have hsol:∀c:Nat,c < C→(aCT C C a.q b.q).getD c 0=if c∈pv then at2 m.q (pv.idxOf c) C else 0:=fun c hc=>by
    unfold aCT
    rw [(hreg hdt).1]
    simp [List.getD,hc,aVL]
   apply rR
   ·rw [List.length_map,hel2];simp [aCT]
   ·intro t ht
    have ht':t < C:=by simpa [hel2] using ht
    rw [iK (by omega),heq2 t ht',hsol t ht']
    by_cases e2:t∈pv
    ·rw [if_pos ⟨e2,(Red.idx_lt e2).1⟩,if_pos e2]
    ·rw [if_neg (fun h=>e2 h.1),if_neg e2]
  repeat refine aB ?_
  refine yO (fun _ hw=>Mem.blkT (es:=es2) (k:=K) (c:=r0.c) (by omega) hw aA) ?_
  have hvv:Value.slice (some ⟨r0.b,0,none⟩) C r0.c=lv (⟨some ⟨r0.b,0,none⟩,r0.c,es2⟩:RL):=by show _=Value.slice _ es2.length _;rw [hel2]
  rw [hvv]
  refine tyS [4,5] rfl rfl (⟨rfl, .inr ⟨⟨some ⟨r0.b,0,none⟩,r0.c,es2⟩,rfl,hel2,hV,rfl⟩⟩)
end
end Go.Proofs.YtmmmfphealhapaaGreat
