/- The document's Null where there is one vector: it is handed out owned. -/
import Derived.Test.YtmmmfphealhapaaGreatZsat
import Derived.Test.YtmmmfphealhapaaGreatZsaq
import Derived.Test.YtmmmfphealhapaaGreatZsad
import Derived.Test.YtmmmfphealhapaaGreatZsas
import Derived.Test.YtmmmfphealhapaaGreatZsar
import Derived.Test.YtmmmfphealhapaaGreatZsao
set_option linter.unusedSimpArgs false
set_option linter.unusedVariables false
set_option maxRecDepth 100000
set_option maxHeartbeats 4000000
namespace Go.Proofs.YtmmmfphealhapaaGreat
open Go Go.Fx
def NlO (A:Mt) (C k:Nat) (M0:List Ent) (I0:List aM) (v:Value) (M:List Ent) (I:List aM):Prop:=∃(qo:Option Addr) (co b c0:Nat) (es:List RE) (tl:List Value),v= .slice qo 1 co∧xY A C=[qs es]∧es.length=C∧C≤c0∧M= .blk b (recs eR es++tl) 77::M0∧I=aH qo (recs eL [(⟨some ⟨b,0,none⟩,c0,es⟩:RL)])::aU es k::I0
theorem aNY {pv:List Nat} {i j:Nat} (h:i≤j):(kR pv i).length≤(kR pv j).length:=by
 induction j with
 |zero=>rw [show i=0 by omega];exact Nat.le_refl _
 |succ j ih=>
  by_cases e:i=j+1
  ·rw [e];exact Nat.le_refl _
  ·have:=ih (by omega)
   rw [vE]
   split
   ·exact this
   ·rw [List.length_append];omega
section
variable {X:List Nat} {w0:World} {M0:List Ent} {I0:List aM}
theorem aRJ {a:MX} {R C k0:Nat} (hb:kb k0 C≤20000000000) (hR:1≤R∧R≤100) (hC:1≤C∧C≤100) (da:a.dim R C) (h1:(xY a.q C).length=1) (ha:iB a k0∈I0):CD Tryz.prog 140 [mv a] X w0 M0 I0 (NlO a.q C (kb k0 C) M0 I0):=by
 have lR:=da.1
 have lC:(gt a.rows 0).es.length=C:=da.row (i:=0) (by omega)
 have hZ:∀M0 I0,CD Tryz.prog 146 [.int .i64 1, .int .i64 (C:Int)] X w0 M0 I0 (MsP 1 C (fun _ _=>0) 0 M0 I0):=fun M0 I0=>aKF (X:=X) (w0:=w0) (M0:=M0) (I0:=I0) (R:=1) (C:=C) (by omega) hC
 have hW:=fun M0 I0=>xA (X:=X) (w0:=w0) (M0:=M0) (I0:=I0) (x:=1) (by decide)
 refine aX (φ:=aH (a).p (recs eL (a).rows)) (Hv.xsl aA) ?_
 refine aS Tryz.func140 rfl Tryz.ntmps140 rfl ?_
 repeat refine aB ?_
 (refine aQ rfl (aJJ hb hR hC da aA) ?_;rintro _ _ _ ⟨rfl,m,pv,q,c,rfl,hm,hd,rfl⟩;refine aL ?_)
 obtain ⟨s,hr⟩:=da.red hm
 have hlen:=hr.len
 have hpi:∀r:Nat,r < pv.length→pv.getD r 0 < C:=fun r h=>hr.piv_lt h
 have hidx:∀r:Nat,r < pv.length→pv.idxOf (pv.getD r 0)=r:=fun r h=>hr.idx h
 have mR:=hd.1
 have hz:(zs pv).length=pv.length:=by simp
 generalize hK:kb k0 C=K at*
 refine cK (φ:=aH (m).p (recs eL (m).rows)) (Hv.xsl aA) ?_
 repeat refine aB ?_
 (refine gX (cs:=recs eL []) ([]) rfl (fun bo=>?_);refine gF (mm:=0) 1 .here rfl (by omega) ?_)
 repeat refine aB ?_
 refine bH (φ:=aU [] K) Hv.nilR ?_
 have hfr:(kR pv C).length=1:=by
  have h2:(aLS m.q pv C).length=1:=by unfold xY at h1;rw [hm] at h1;exact h1
  unfold aLS at h2
  rwa [List.length_map] at h2
 repeat refine aB ?_
 refine rY (M':=[]++ .row (some ⟨bo,0,none⟩) 0 0 (recs eL []) 70 1::M0) (I':=aU [] K::aH m.p (recs eL m.rows)::pvI q pv::iB m K::aH a.p (recs eL a.rows)::I0) aF aD ?_
 refine bX [0,3,4] rfl (fun k G M I=>∃(j:Nat) (rows:List RL) (own:List Ent) (es0:List RE) (qo:Option Addr) (co:Nat),j≤C∧k=C - j∧rows.map RL.q=(kR pv j).map (kZ m.q pv C)∧((rows=[]∧own=[])∨∃(b c0:Nat) (tl:List Value),rows=[⟨some ⟨b,0,none⟩,c0,es0⟩]∧own=[.blk b (recs eR es0++tl) 77]∧es0.length=C∧C≤c0)∧G=[(5, .slice qo rows.length co),(6, .int .i64 j)]∧M=own++ .row qo rows.length co (recs eL rows) 70 1::M0∧I=aU es0 K::aH m.p (recs eL m.rows)::pvI q pv::iB m K::aH a.p (recs eL a.rows)::I0) (C) _ _ _ dE aF aD (⟨0,[],[],[],_,_,by omega,rfl,rfl, .inl ⟨rfl,rfl⟩,rfl,rfl,rfl⟩) ?_
 rintro kk G M I ⟨j,rows,own,es0,qo,co,hj,rfl,hq,hown,rfl,rfl,rfl⟩
 by_cases hjC:j < C
 ·have hCn:=fun M0 I0 h=>aPF (X:=X) (w0:=w0) (M0:=M0) (I0:=I0) (p:=q) (l:=zs pv) (t:=pv.length) (c:=c) (x:=(j:Int)) hz (by omega) h
  by_cases hjp:j∈pv
  ·rw [bJ (aIV.2 hjp)] at hCn
   repeat refine aB ?_
   refine dK rfl (hCn _ _ aA) ?_
   repeat refine aB ?_
   refine gJ (C - (j+1)) (⟨j+1,rows,own,es0,qo,co,by omega,rfl,by rw [vE,if_pos hjp];exact hq,hown,rfl,rfl,rfl⟩)
  ·obtain ⟨rfl,rfl⟩:rows=[]∧own=[]:=hown.resolve_right (fun ⟨b,c0,tl,e1,_⟩=>by
    have h2:(kR pv j).length=1:=by
     have:=congrArg List.length hq
     rw [e1,List.length_map,List.length_map] at this
     exact this.symm
    have h3:=aNY (pv:=pv) (show j+1≤C by omega)
    rw [vE,if_neg hjp,List.length_append,h2,hfr] at h3
    simp at h3)
   rw [List.nil_append]
   rw [bE (fun h=>hjp (aIV.1 h))] at hCn
   repeat refine aB ?_
   refine dK rfl (hCn _ _ aA) ?_
   repeat refine aB ?_
   rw [lC]
   (refine aQ rfl (hZ _ _) ?_;rintro _ _ _ ⟨bz,cz,tlz,rz,rfl,hcz,hsz,hpz,rfl,rfl⟩;refine aL ?_)
   obtain ⟨r0,rfl⟩:∃r0,rz=[r0]:=by
    have:=hsz.len
    match rz,this with
    |[x],_=>exact ⟨x,rfl⟩
   have hcol:=hsz.col r0 (by simp)
   have hp0:∀t:Nat,t < C→(gt r0.es (t:Int)).q=0:=fun t ht=>hpz 0 t (by omega) ht
   refine cK (φ:=aU r0.es 0) (Hv.allS1 aA) ?_
   simp only [List.map_cons,List.map_nil,List.cons_append,List.nil_append]
   obtain ⟨hel,hcv⟩:=hcol
   have hg1:gt [r0] 0=r0:=rfl
   repeat refine aB ?_
   rw [hel]
   (refine aQ rfl (hW _ _) ?_;rintro _ _ _ ⟨rfl,e,rfl,he,rfl⟩;refine aL ?_)
   repeat refine yXh ?_
   refine fO (vs:=eR e) rfl rfl rfl (Ones.one e) jL (StAts.app (StAts.r (enc:=eR) (ms:=r0.es) (i:=(j:Int)) e (by omega) rfl)) rfl rfl ⟨okF,?_⟩
   refine cK (φ:=aU (st r0.es (j:Int) e) 0) (Hv.stR aA aA) ?_
   refine cK (φ:=aU (st r0.es (j:Int) e) K) (Hv.allMono (k:=0) (List.Mem.head _) (Nat.zero_le _)) ?_
   obtain ⟨es1,hes1⟩:∃es1,es1=st r0.es (j:Int) e:=⟨_,rfl⟩
   have hel1:es1.length=C:=by rw [hes1,dI];exact hel
   have heq1:∀t:Nat,t < C→(gt es1 (t:Int)).q=if t=j then 1 else 0:=fun t ht=>by
    rw [hes1,wQ (by omega)]
    by_cases e1:t=j
    ·rw [if_pos e1,if_pos e1,he];rfl
    ·rw [if_neg e1,if_neg e1];exact hp0 t ht
   rw [←hes1]
   repeat refine aB ?_
   refine rY (M':= .blk r0.b (recs eR es1++r0.tl) 77:: .row qo 0 co (recs eL []) 70 1::M0) (I':=aU es1 K::aH m.p (recs eL m.rows)::pvI q pv::iB m K::aH a.p (recs eL a.rows)::I0) (SubP.drop SubP.refl) aD ?_
   refine lV [0,3,4,5,6,7] rfl (fun k G M I=>∃(r:Nat) (es2:List RE),r≤pv.length∧k=pv.length - r∧es2.length=C∧(∀t:Nat,t < C→(gt es2 (t:Int)).q=if t∈pv∧pv.idxOf t < r then - at2 m.q (pv.idxOf t) j else if t=j then 1 else 0)∧G=[(8, .int .i64 r)]∧M= .blk r0.b (recs eR es2++r0.tl) 77:: .row qo 0 co (recs eL []) 70 1::M0∧I=aU es2 K::aH m.p (recs eL m.rows)::pvI q pv::iB m K::aH a.p (recs eL a.rows)::I0) (pv.length) (⟨0,es1,by omega,by omega,hel1,fun t ht=>by rw [if_neg (by omega)];exact heq1 t ht,rfl,rfl,rfl⟩) ?_
   rintro kk G M I ⟨r,es2,hr2,rfl,hel2,heq2,rfl,rfl,rfl⟩
   by_cases hrp:r < pv.length
   ·have hgz:=bCJ hrp
    have hpr:=hpi r hrp
    have hmr:=hd.row (i:=r) (by omega)
    have hat:=qP (m:=m) (i:=r) (j:=j) (by omega) (by omega)
    refine bH (φ:=aH (gt (m).rows (r:Int)).p (recs eR (gt (m).rows (r:Int)).es)) (Hv.xrsl aA (by omega)) ?_
    have hNg:=fun M0 I0 h=>zP (X:=X) (w0:=w0) (M0:=M0) (I0:=I0) (e:=gt (gt m.rows (r:Int)).es (j:Int)) (k:=K) (by omega) h
    repeat refine aB ?_
    (repeat refine aG ?_);refine bA 1 [0,1,2,3,4,5,6,7,8,9,10,11,12,13,14] [1,1,1,1,1,1,1,1,1,1,1,0,0,0,0] mixed (by kernel_rfl) ?_
    repeat refine aB ?_
    rw [hgz]
    (refine aQ rfl (hNg _ _ (Hv.xel aA (by omega) (by omega))) ?_;rintro _ _ _ ⟨rfl,e2,rfl,he2,rfl⟩;refine aL ?_)
    repeat refine yXh ?_
    refine fO (vs:=eR e2) rfl rfl rfl (Ones.one e2) jL (StAts.app (StAts.r (enc:=eR) (ms:=es2) (i:=((pv.getD r 0:Nat):Int)) e2 (by omega) rfl)) rfl rfl ⟨okF,?_⟩
    repeat refine aB ?_
    refine dF (φ:=aU (st es2 ((pv.getD r 0:Nat):Int) e2) K) (Hv.stR aA aA) ?_
    refine gJ (pv.length - (r+1)) (⟨r+1,st es2 ((pv.getD r 0:Nat):Int) e2,by omega,rfl,by rw [dI];exact hel2,fun t ht=>?_,rfl,rfl,rfl⟩)
    rw [wQ (by omega)]
    by_cases e1:t=pv.getD r 0
    ·subst e1
     rw [if_pos rfl,if_pos ⟨jQ.2 ⟨r,hrp,rfl⟩,by rw [hidx r hrp];omega⟩,he2,hidx r hrp,hat]
    ·rw [if_neg e1,heq2 t ht]
     by_cases e2:t∈pv
     ·have e3:pv.idxOf t≠r:=fun e=>e1 (by rw [←e];exact (Red.idx_lt e2).2.symm)
      by_cases e4:pv.idxOf t < r
      ·rw [if_pos ⟨e2,e4⟩,if_pos ⟨e2,by omega⟩]
      ·rw [if_neg (show ¬(t∈pv∧pv.idxOf t < r) from fun h=>e4 h.2),if_neg (show ¬(t∈pv∧pv.idxOf t < r+1) from fun h=>by have:=h.2;omega)]
     ·rw [if_neg (show ¬(t∈pv∧pv.idxOf t < r) from fun h=>e2 h.1),if_neg (show ¬(t∈pv∧pv.idxOf t < r+1) from fun h=>e2 h.1)]
   ·obtain rfl:r=pv.length:=by omega
    have hV:qs es2=kZ m.q pv C j:=by
     apply rJ
     ·simp [kZ,hel2]
     ·intro t ht
      have ht':t < C:=by simpa [hel2] using ht
      rw [iM (by omega),heq2 t ht',zU ht']
      unfold zD
      by_cases e2:t∈pv
      ·rw [if_pos ⟨e2,(Red.idx_lt e2).1⟩,if_pos e2]
      ·rw [if_neg (fun h=>e2 h.1),if_neg e2]
    repeat refine aB ?_
    have hvv:Value.slice (some ⟨r0.b,0,none⟩) C r0.c=lv (⟨some ⟨r0.b,0,none⟩,r0.c,es2⟩:RL):=by show _=Value.slice _ es2.length _;rw [hel2]
    rw [hvv]
    have hnl:([]:List RL).length=0:=rfl
    refine gX (cs:=recs eL [(⟨some ⟨r0.b,0,none⟩,r0.c,es2⟩:RL)]) ([lv (⟨some ⟨r0.b,0,none⟩,r0.c,es2⟩:RL)]) rfl (fun bb=>?_)
    refine wB (ys:=[(⟨some ⟨r0.b,0,none⟩,r0.c,es2⟩:RL)]) 2 rfl rfl rfl (fun q2 c2=>?_)
    repeat refine aB ?_
    refine fB (M':=[.blk r0.b (recs eR es2++r0.tl) 77]++ .row q2 1 c2 (recs eL [(⟨some ⟨r0.b,0,none⟩,r0.c,es2⟩:RL)]) 70 1::M0) (I':=aU es2 K::aH m.p (recs eL m.rows)::pvI q pv::iB m K::aH a.p (recs eL a.rows)::I0) aF aD ?_
    refine cB (C - (j+1)) _ _ _ (by first|omega|(simp only [List.length_append,List.length_cons,List.length_nil];omega)) dE aF aD (⟨j+1,[(⟨some ⟨r0.b,0,none⟩,r0.c,es2⟩:RL)],_,es2,q2,c2,by omega,rfl,by
     rw [vE,if_neg hjp,List.map_append,←hq]
     show [qs es2]=[]++[kZ m.q pv C j]
     rw [hV]
     rfl, .inr ⟨r0.b,r0.c,r0.tl,rfl,rfl,hel2,by omega⟩,rfl,rfl,rfl⟩)
 ·obtain rfl:j=C:=by omega
  rcases hown with ⟨rfl,rfl⟩|⟨b,c0,tl,rfl,rfl,hel,hcc⟩
  ·have h2:=congrArg List.length hq
   rw [List.length_map,List.length_map,hfr] at h2
   cases h2
  simp only [List.cons_append,List.nil_append]
  repeat refine aB ?_
  refine yK (fun _ hw=>hw.freezeR (.there .here)) ?_
  refine fB (M':= .blk b (recs eR es0++tl) 77::M0) (I':=aH qo (recs eL [(⟨some ⟨b,0,none⟩,c0,es0⟩:RL)])::aU es0 K::I0) aF aD ?_
  refine aP (by first|exact .inl rfl|exact .inr rfl) rfl rfl _ _ aF aD (⟨qo,co,b,c0,es0,tl,rfl,by unfold xY aLS;rw [hm];exact hq.symm,hel,hcc,rfl,rfl⟩)
end
structure T3 (α:Type) where
 a:α
 b:α
 c:α
structure M9 (α:Type) where
 x:T3 α
 y:T3 α
 z:T3 α
section
variable {α:Type} [Mul α] [Add α] [Sub α]
def T3.cross (p q:T3 α):T3 α:=⟨p.b*q.c - p.c*q.b,p.c*q.a - p.a*q.c,p.a*q.b - p.b*q.a⟩
def T3.dot (p q:T3 α):α:=p.a*q.a+p.b*q.b+p.c*q.c
def d3 (p q r:T3 α):α:=(p.cross q).dot r
def T3.smul (k:α) (p:T3 α):T3 α:=⟨k*p.a,k*p.b,k*p.c⟩
def T3.add (p q:T3 α):T3 α:=⟨p.a+q.a,p.b+q.b,p.c+q.c⟩
def M9.tr (m:M9 α):M9 α:=⟨⟨m.x.a,m.y.a,m.z.a⟩,⟨m.x.b,m.y.b,m.z.b⟩,⟨m.x.c,m.y.c,m.z.c⟩⟩
def M9.app (m:M9 α) (p:T3 α):T3 α:=⟨m.x.dot p,m.y.dot p,m.z.dot p⟩
def M9.mul (g h:M9 α):M9 α:=⟨h.tr.app g.x,h.tr.app g.y,h.tr.app g.z⟩
def M9.cof (m:M9 α):M9 α:=⟨m.y.cross m.z,m.z.cross m.x,m.x.cross m.y⟩
structure P4 (α:Type) where
 p:T3 α
 q:T3 α
 r:T3 α
 s:T3 α
def P4.k0 (l:P4 α):α:=d3 l.s l.q l.r
def P4.k1 (l:P4 α):α:=d3 l.p l.s l.r
def P4.k2 (l:P4 α):α:=d3 l.p l.q l.s
def P4.k3 (l:P4 α):α:=d3 l.p l.q l.r
def P4.bas (l:P4 α):M9 α:=(M9.mk (l.p.smul l.k0) (l.q.smul l.k1) (l.r.smul l.k2)).tr
def sO (l m:P4 α):M9 α:=m.bas.mul l.bas.cof.tr
end
def jE (p:T3 Int):T3 Rat:=⟨(p.a:Rat),(p.b:Rat),(p.c:Rat)⟩
def oD (m:M9 Int):M9 Rat:=⟨jE m.x,jE m.y,jE m.z⟩
def iO (l:P4 Int):P4 Rat:=⟨jE l.p,jE l.q,jE l.r,jE l.s⟩
theorem vQ (p q:T3 Int):jE (p.cross q)=(jE p).cross (jE q):=by simp [jE,T3.cross,Rat.intCast_sub,Rat.intCast_mul]
theorem aAA (p q:T3 Int):((p.dot q:Int):Rat)=(jE p).dot (jE q):=by simp [jE,T3.dot,Rat.intCast_add,Rat.intCast_mul]
theorem vP (p q r:T3 Int):((d3 p q r:Int):Rat)=d3 (jE p) (jE q) (jE r):=by unfold d3;rw [aAA,vQ]
theorem aAO (k:Int) (p:T3 Int):jE (p.smul k)=(jE p).smul (k:Rat):=by simp [jE,T3.smul,Rat.intCast_mul]
theorem aHX (m:M9 Int):oD m.tr=(oD m).tr:=rfl
theorem aDH (m:M9 Int) (p:T3 Int):jE (m.app p)=(oD m).app (jE p):=by
 unfold M9.app
 show T3.mk _ _ _=T3.mk _ _ _
 rw [aAA,aAA,aAA];rfl
theorem aWY (g h:M9 Int):oD (g.mul h)=(oD g).mul (oD h):=by
 unfold M9.mul
 show M9.mk _ _ _=M9.mk _ _ _
 rw [aDH,aDH,aDH,aHX];rfl
theorem aVX (m:M9 Int):oD m.cof=(oD m).cof:=by
 unfold M9.cof
 show M9.mk _ _ _=M9.mk _ _ _
 rw [vQ,vQ,vQ];rfl
theorem aKY (l:P4 Int):oD l.bas=(iO l).bas:=by
 unfold P4.bas
 rw [aHX]
 congr 1
 show M9.mk _ _ _=M9.mk _ _ _
 rw [aAO,aAO,aAO]
 unfold P4.k0 P4.k1 P4.k2
 rw [vP,vP,vP];rfl
theorem aGM (l m:P4 Int):oD (sO l m)=sO (iO l) (iO m):=by
 unfold sO
 rw [aWY,aHX,aVX,aKY,aKY]
theorem bEU (l:P4 Int):((l.k0:Int):Rat)=(iO l).k0∧((l.k1:Int):Rat)=(iO l).k1∧((l.k2:Int):Rat)=(iO l).k2∧((l.k3:Int):Rat)=(iO l).k3:=by
 unfold P4.k0 P4.k1 P4.k2 P4.k3
 rw [vP,vP,vP,vP]
 exact ⟨rfl,rfl,rfl,rfl⟩
/- ---------- over fractions ---------- -/
theorem T3.ext3 {p q:T3 Rat} (h1:p.a=q.a) (h2:p.b=q.b) (h3:p.c=q.c):p=q:=by
 cases p;cases q;simp only at h1 h2 h3;rw [h1,h2,h3]
theorem bCV (p q r R:T3 Rat):R.smul (d3 p q r)=(((q.cross r).smul (R.dot p)).add ((r.cross p).smul (R.dot q))).add ((p.cross q).smul (R.dot r)):=by
 apply T3.ext3 <;>simp only [T3.smul,T3.add,T3.cross,T3.dot,d3] <;>grind
theorem cram3 (l:P4 Rat):l.s.smul l.k3=((l.p.smul l.k0).add (l.q.smul l.k1)).add (l.r.smul l.k2):=by
 apply T3.ext3 <;>simp only [T3.smul,T3.add,T3.cross,T3.dot,d3,P4.k0,P4.k1,P4.k2,P4.k3] <;>grind
def aCO (l m:P4 Rat) (u v w:Rat):T3 Rat:=(((l.q.cross l.r).smul (m.k0*u*(l.k1*l.k2))).add ((l.r.cross l.p).smul (m.k1*v*(l.k2*l.k0)))).add ((l.p.cross l.q).smul (m.k2*w*(l.k0*l.k1)))
theorem aGC (l m:P4 Rat):sO l m=⟨aCO l m m.p.a m.q.a m.r.a,aCO l m m.p.b m.q.b m.r.b,aCO l m m.p.c m.q.c m.r.c⟩:=by
 unfold sO P4.bas aCO
 generalize l.k0=k0
 generalize l.k1=k1
 generalize l.k2=k2
 generalize m.k0=m0
 generalize m.k1=m1
 generalize m.k2=m2
 simp only [M9.mul,M9.tr,M9.cof,M9.app,T3.cross,T3.dot,T3.smul,T3.add,M9.mk.injEq,T3.mk.injEq]
 refine ⟨⟨?_,?_,?_⟩,⟨?_,?_,?_⟩,⟨?_,?_,?_⟩⟩ <;>grind
theorem aAE (l m:P4 Rat) (u v w:Rat) (x:T3 Rat):(aCO l m u v w).dot x=m.k0*u*(l.k1*l.k2)*(l.q.cross l.r).dot x+m.k1*v*(l.k2*l.k0)*(l.r.cross l.p).dot x+m.k2*w*(l.k0*l.k1)*(l.p.cross l.q).dot x:=by
 unfold aCO
 simp only [T3.smul,T3.add,T3.dot]
 grind
theorem xS (p q:T3 Rat):(p.cross q).dot p=0∧(p.cross q).dot q=0:=by
 simp only [T3.cross,T3.dot]
 constructor <;>grind
theorem aQC (p q r:T3 Rat):(q.cross r).dot p=d3 p q r∧(r.cross p).dot q=d3 p q r:=by
 simp only [T3.cross,T3.dot,d3]
 constructor <;>grind
theorem bEG (l m:P4 Rat) (u v w:Rat):(aCO l m u v w).dot l.p=(m.k0*l.k1*l.k2*l.k3)*u:=by
 rw [aAE,(aQC l.p l.q l.r).1,(xS l.r l.p).2,(xS l.p l.q).1]
 show _=m.k0*l.k1*l.k2*d3 l.p l.q l.r*u
 grind
theorem bDU (l m:P4 Rat) (u v w:Rat):(aCO l m u v w).dot l.q=(m.k1*l.k0*l.k2*l.k3)*v:=by
 rw [aAE,(aQC l.p l.q l.r).2,(xS l.q l.r).1,(xS l.p l.q).2]
 show _=m.k1*l.k0*l.k2*d3 l.p l.q l.r*v
 grind
theorem bEL (l m:P4 Rat) (u v w:Rat):(aCO l m u v w).dot l.r=(m.k2*l.k0*l.k1*l.k3)*w:=by
 rw [aAE,(xS l.q l.r).2,(xS l.r l.p).1]
 show _=m.k2*l.k0*l.k1*d3 l.p l.q l.r*w
 show m.k0*u*(l.k1*l.k2)*0+m.k1*v*(l.k2*l.k0)*0+m.k2*w*(l.k0*l.k1)*d3 l.p l.q l.r=_
 grind
theorem aNS (l:P4 Rat):(l.q.cross l.r).dot l.s=l.k0∧(l.r.cross l.p).dot l.s=l.k1∧(l.p.cross l.q).dot l.s=l.k2:=by
 simp only [T3.cross,T3.dot,d3,P4.k0,P4.k1,P4.k2]
 refine ⟨?_,?_,?_⟩ <;>grind
theorem aOI (l m:P4 Rat) (u v w t:Rat) (h:t*m.k3=u*m.k0+v*m.k1+w*m.k2):(aCO l m u v w).dot l.s=(m.k3*l.k0*l.k1*l.k2)*t:=by
 rw [aAE,(aNS l).1,(aNS l).2.1,(aNS l).2.2]
 grind
theorem yJ (m:P4 Rat):m.s.a*m.k3=m.p.a*m.k0+m.q.a*m.k1+m.r.a*m.k2∧m.s.b*m.k3=m.p.b*m.k0+m.q.b*m.k1+m.r.b*m.k2∧m.s.c*m.k3=m.p.c*m.k0+m.q.c*m.k1+m.r.c*m.k2:=by
 have h:=cram3 m
 simp only [T3.smul,T3.add,T3.mk.injEq] at h
 refine ⟨?_,?_,?_⟩ <;>grind
theorem aVM (l m:P4 Rat):(sO l m).app l.p=m.p.smul (m.k0*l.k1*l.k2*l.k3)∧(sO l m).app l.q=m.q.smul (m.k1*l.k0*l.k2*l.k3)∧(sO l m).app l.r=m.r.smul (m.k2*l.k0*l.k1*l.k3)∧(sO l m).app l.s=m.s.smul (m.k3*l.k0*l.k1*l.k2):=by
 rw [aGC]
 have hc:=yJ m
 refine ⟨?_,?_,?_,?_⟩
 ·simp only [M9.app,T3.smul,bEG]
 ·simp only [M9.app,T3.smul,bDU]
 ·simp only [M9.app,T3.smul,bEL]
 ·simp only [M9.app,T3.smul]
  rw [aOI l m _ _ _ _ hc.1,aOI l m _ _ _ _ hc.2.1,aOI l m _ _ _ _ hc.2.2]
structure P4.ok (l:P4 Rat):Prop where
 h0:l.k0≠0
 h1:l.k1≠0
 h2:l.k2≠0
 h3:l.k3≠0
theorem bEN {p q r:T3 Rat} (hd:d3 p q r≠0) {x y z:Rat} (ha:x*p.a+y*q.a+z*r.a=0) (hb:x*p.b+y*q.b+z*r.b=0) (hc:x*p.c+y*q.c+z*r.c=0):x=0∧y=0∧z=0:=by
 have ex:x*d3 p q r=(x*p.a+y*q.a+z*r.a)*(q.cross r).a+(x*p.b+y*q.b+z*r.b)*(q.cross r).b+(x*p.c+y*q.c+z*r.c)*(q.cross r).c:=by
  simp only [T3.cross,T3.dot,d3];grind
 have ey:y*d3 p q r=(x*p.a+y*q.a+z*r.a)*(r.cross p).a+(x*p.b+y*q.b+z*r.b)*(r.cross p).b+(x*p.c+y*q.c+z*r.c)*(r.cross p).c:=by
  simp only [T3.cross,T3.dot,d3];grind
 have ez:z*d3 p q r=(x*p.a+y*q.a+z*r.a)*(p.cross q).a+(x*p.b+y*q.b+z*r.b)*(p.cross q).b+(x*p.c+y*q.c+z*r.c)*(p.cross q).c:=by
  simp only [T3.cross,T3.dot,d3];grind
 rw [ha,hb,hc] at ex ey ez
 have f:∀g:Rat,g*d3 p q r=0→g=0:=fun g h=>(Rat.mul_eq_zero.1 h).resolve_right hd
 exact ⟨f x (by grind),f y (by grind),f z (by grind)⟩
theorem aMY {l m:P4 Rat} {H:M9 Rat} {c0 c1 c2 c3:Rat} (h0:H.app l.p=m.p.smul c0) (h1:H.app l.q=m.q.smul c1) (h2:H.app l.r=m.r.smul c2) (h3:H.app l.s=m.s.smul c3) (hm:m.ok):
  m.k3*l.k0*c0=l.k3*c3*m.k0∧m.k3*l.k1*c1=l.k3*c3*m.k1∧m.k3*l.k2*c2=l.k3*c3*m.k2:=by
 have hl:=yJ l
 have hc:=yJ m
 have e:∀(x0 x1 x2 x3:Rat) (R:T3 Rat),R.dot l.p=c0*x0→R.dot l.q=c1*x1→R.dot l.r=c2*x2→R.dot l.s=c3*x3→x3*m.k3=x0*m.k0+x1*m.k1+x2*m.k2→
   (m.k3*l.k0*c0 - l.k3*c3*m.k0)*x0+(m.k3*l.k1*c1 - l.k3*c3*m.k1)*x1+(m.k3*l.k2*c2 - l.k3*c3*m.k2)*x2=0:=by
  intro x0 x1 x2 x3 R e0 e1 e2 e3 e4
  have e5:R.dot l.s*l.k3=R.dot l.p*l.k0+R.dot l.q*l.k1+R.dot l.r*l.k2:=by
   have a1:=hl.1
   have a2:=hl.2.1
   have a3:=hl.2.2
   simp only [T3.dot]
   grind
  rw [e0,e1,e2,e3] at e5
  generalize l.k0=a0 at*
  generalize l.k1=a1 at*
  generalize l.k2=a2 at*
  generalize l.k3=a3 at*
  generalize m.k0=b0 at*
  generalize m.k1=b1 at*
  generalize m.k2=b2 at*
  generalize m.k3=b3 at*
  grind
 simp only [M9.app,T3.smul,T3.mk.injEq] at h0 h1 h2 h3
 have ea:=e m.p.a m.q.a m.r.a m.s.a H.x h0.1 h1.1 h2.1 h3.1 hc.1
 have eb:=e m.p.b m.q.b m.r.b m.s.b H.y h0.2.1 h1.2.1 h2.2.1 h3.2.1 hc.2.1
 have ec:=e m.p.c m.q.c m.r.c m.s.c H.z h0.2.2 h1.2.2 h2.2.2 h3.2.2 hc.2.2
 obtain ⟨d0,d1,d2⟩:=bEN (p:=m.p) (q:=m.q) (r:=m.r) hm.h3 ea eb ec
 refine ⟨?_,?_,?_⟩ <;>grind
theorem aDQ {l m:P4 Rat} (hl:l.ok) {c0 c1 c2 c3 u v w:Rat} {R:T3 Rat} (e0:R.dot l.p=c0*u) (e1:R.dot l.q=c1*v) (e2:R.dot l.r=c2*w)
  (s0:m.k3*l.k0*c0=l.k3*c3*m.k0) (s1:m.k3*l.k1*c1=l.k3*c3*m.k1) (s2:m.k3*l.k2*c2=l.k3*c3*m.k2):
  R.smul (m.k3*l.k0*l.k1*l.k2)=(aCO l m u v w).smul c3:=by
 have f:=bCV l.p l.q l.r R
 rw [e0,e1,e2] at f
 have hk:d3 l.p l.q l.r=l.k3:=rfl
 rw [hk] at f
 have h3:=hl.h3
 have fin:∀R' A B C:Rat,l.k3*R'=c0*u*A+c1*v*B+c2*w*C→m.k3*l.k0*l.k1*l.k2*R'=c3*(m.k0*u*(l.k1*l.k2)*A+m.k1*v*(l.k2*l.k0)*B+m.k2*w*(l.k0*l.k1)*C):=by
  intro R' A B C h
  have e:l.k3*(m.k3*l.k0*l.k1*l.k2*R')=l.k3*(c3*(m.k0*u*(l.k1*l.k2)*A+m.k1*v*(l.k2*l.k0)*B+m.k2*w*(l.k0*l.k1)*C)):=by
   generalize l.k0=a0 at*
   generalize l.k1=a1 at*
   generalize l.k2=a2 at*
   generalize l.k3=a3 at*
   generalize m.k0=b0 at*
   generalize m.k1=b1 at*
   generalize m.k2=b2 at*
   generalize m.k3=b3 at*
   have e1:a3*(b3*a0*a1*a2*R')=b3*a0*a1*a2*(a3*R'):=by grind
   rw [e1,h]
   have e2:b3*a0*a1*a2*(c0*u*A+c1*v*B+c2*w*C)=(b3*a0*c0)*(a1*a2*u*A)+(b3*a1*c1)*(a0*a2*v*B)+(b3*a2*c2)*(a0*a1*w*C):=by grind
   rw [e2,s0,s1,s2]
   grind
  have e':l.k3*(m.k3*l.k0*l.k1*l.k2*R' - c3*(m.k0*u*(l.k1*l.k2)*A+m.k1*v*(l.k2*l.k0)*B+m.k2*w*(l.k0*l.k1)*C))=0:=by
   have e9:∀x y z:Rat,x*y=x*z→x*(y - z)=0:=by intro x y z h;grind
   exact e9 _ _ _ e
  have:=(Rat.mul_eq_zero.1 e').resolve_left h3
  grind
 simp only [T3.smul,T3.add,T3.mk.injEq] at f
 obtain ⟨fa,fb,fc⟩:=f
 unfold aCO
 apply T3.ext3 <;>simp only [T3.smul,T3.add]
 ·exact fin _ _ _ _ fa
 ·exact fin _ _ _ _ fb
 ·exact fin _ _ _ _ fc
theorem aSO {l m:P4 Rat} {H:M9 Rat} {c0 c1 c2 c3:Rat} (hl:l.ok) (hm:m.ok) (h0:H.app l.p=m.p.smul c0) (h1:H.app l.q=m.q.smul c1) (h2:H.app l.r=m.r.smul c2) (h3:H.app l.s=m.s.smul c3):
  H.x.smul (m.k3*l.k0*l.k1*l.k2)=(sO l m).x.smul c3∧H.y.smul (m.k3*l.k0*l.k1*l.k2)=(sO l m).y.smul c3∧H.z.smul (m.k3*l.k0*l.k1*l.k2)=(sO l m).z.smul c3:=by
 obtain ⟨s0,s1,s2⟩:=aMY h0 h1 h2 h3 hm
 rw [aGC]
 simp only [M9.app,T3.smul,T3.mk.injEq] at h0 h1 h2
 exact ⟨aDQ hl h0.1 h1.1 h2.1 s0 s1 s2,aDQ hl h0.2.1 h1.2.1 h2.2.1 s0 s1 s2,aDQ hl h0.2.2 h1.2.2 h2.2.2 s0 s1 s2⟩
section
variable {X:List Nat} {w0:World} {M0:List Ent} {I0:List aM}
theorem aSF {x:RL} {n k0:Nat} (hn:n≤100) (hl:x.es.length=n) (hx:iQ x k0∈I0):CD Tryz.prog 144 [lv x] X w0 M0 I0 (XQ (xC n 1 (fun i _=>x.q.getD i 0)) n 1 k0 M0 I0):=by
 refine aX (φ:=aH (x).p (recs eR (x).es)) (Hv.lsl aA) ?_
 refine aS Tryz.func144 rfl Tryz.ntmps144 rfl ?_
 repeat refine aB ?_
 (refine gX (cs:=recs eL []) ([]) rfl (fun bo=>?_);refine gF (mm:=0) 1 .here rfl (by omega) ?_)
 repeat refine aB ?_
 refine bH (φ:=dX [] k0) Hv.nilL ?_
 refine bX [0] rfl (fun k G M I=>∃(i:Nat) (rs:List RL) (q:Option Addr) (c:Nat),i≤n∧k=n - i∧rs.length=i∧(∀r∈rs,r.es.length=1)∧rs.map RL.q=(List.range i).map (fun t=>[x.q.getD t 0])∧G=[(3, .slice q rs.length c),(4, .int .i64 i)]∧M= .row q rs.length c (recs eL rs) 70 1::M0∧I=dX rs k0::aH x.p (recs eR x.es)::I0) (n) _ _ _ dE aF aD (⟨0,[],_,_,by omega,rfl,rfl,by simp,rfl,rfl,rfl,rfl⟩) ?_
 rintro kk G M I ⟨i,rs,q,c,hi,rfl,hrl,hrc,hrq,rfl,rfl,rfl⟩
 by_cases hin:i < n
 ·obtain ⟨s,hse⟩:∃s,gt x.es (i:Int)=s:=⟨_,rfl⟩
  have hv:∀I,iQ x k0∈I→Hv I (bW s k0):=fun I h=>by rw [←hse];exact Hv.lel h (by omega)
  have hqs:=iM (es:=x.es) (j:=i) (by omega)
  rw [hse] at hqs
  repeat refine aB ?_
  rw [hse]
  refine cK (φ:=bW s k0) (hv _ aA) ?_
  refine cK (φ:=aU [] k0) Hv.nilR ?_
  refine cK (φ:=aU ([]++[s]) k0) (Hv.snoc aA aA) ?_
  rw [List.nil_append]
  refine gX (cs:=recs eR [s]) ([rv s]) rfl (fun b=>?_)
  refine gF (mm:=1) 4 .here rfl (by omega) ?_
  refine aHM (es:=[s]) (k:=k0) aA ?_
  repeat refine aB ?_
  refine gX (cs:=recs eL [(⟨some ⟨b,0,none⟩,1,[s]⟩:RL)]) ([lv (⟨some ⟨b,0,none⟩,1,[s]⟩:RL)]) rfl (fun b2=>?_)
  refine wB (ys:=[(⟨some ⟨b,0,none⟩,1,[s]⟩:RL)]) 1 rfl rfl rfl (fun q2 c2=>?_)
  repeat refine aB ?_
  refine dF (φ:=dX (rs++[(⟨some ⟨b,0,none⟩,1,[s]⟩:RL)]) k0) (Hv.snocL aA aA) ?_
  refine gJ (n - (i+1)) (⟨i+1,rs++[(⟨some ⟨b,0,none⟩,1,[s]⟩:RL)],q2,c2,by omega,rfl,by simp [hrl],fun r hr=>?_,?_,rfl,rfl,rfl⟩)
  ·rcases List.mem_append.1 hr with h|h
   ·exact hrc r h
   ·rw [List.mem_singleton.1 h];rfl
  ·rw [aXX,hrq,List.range_succ,List.map_append]
   show _++[[s.q]]=_++[[x.q.getD i 0]]
   rw [hqs]
 ·obtain rfl:i=n:=by omega
  repeat refine aB ?_
  refine aDZ aA ?_
  refine iA rfl rfl (⟨rfl,⟨q,c,rs⟩,rfl,?_,⟨hrl,hrc⟩,rfl⟩)
  show rs.map RL.q=_
  rw [hrq]
  unfold xC
  apply List.map_congr_left
  intro a _
  rfl
end
def wV (A:Mt) (j x:Nat):Mt:=(swp A j x).mapIdx (fun i row=>if i≤j then row else if row.getD j 0=0 then row else kE j (row.getD j 0 / at2 (swp A j x) j j) (rowAt (swp A j x) j) row)
def aCD (A:Mt) (j:Nat):Nat→Nat→Rat:=fun i k=>at2 A (i+j) (k+j)
theorem aJU {A:Mt} {R C j x a:Nat} (h:qG A R C) (hj:j < R) (hx:x < R) (ha:a < R):rowAt (wV A j x) a=if a≤j then rowAt A (tr j x a) else if at2 A (tr j x a) j=0 then rowAt A (tr j x a) else kE j (at2 A (tr j x a) j / at2 A x j) (rowAt A x) (rowAt A (tr j x a)):=by
 have hs:=aJD (r:=j) (k:=x) h hj hx
 have hr:∀i,rowAt (swp A j x) i=rowAt A (tr j x i):=fun i=>rP h hj hx
 have htr:tr j x j=x:=by simp [tr]
 have hat:at2 (swp A j x) j j=at2 A x j:=by unfold at2;rw [hr,htr]
 have e1:rowAt (wV A j x) a=if a≤j then rowAt (swp A j x) a else if (rowAt (swp A j x) a).getD j 0=0 then rowAt (swp A j x) a else kE j ((rowAt (swp A j x) a).getD j 0 / at2 (swp A j x) j j) (rowAt (swp A j x) j) (rowAt (swp A j x) a):=by
  have hl:a < (swp A j x).length:=by rw [hs.1];exact ha
  unfold wV
  rw [aGA hl]
 rw [e1,hat,hr,hr,htr]
 rfl
theorem aTK {A:Mt} {R C j x a b:Nat} (h:qG A R C) (hj:j < R) (hx:x < R) (ha:a < R) (hb:b < C) (haj:j < a) (hbj:j≤b):at2 (wV A j x) a b=at2 A (tr j x a) b - at2 A (tr j x a) j / at2 A x j*at2 A x b:=by
 have e:at2 (wV A j x) a b=(rowAt (wV A j x) a).getD b 0:=rfl
 rw [e,aJU h hj hx ha,if_neg (by omega)]
 by_cases e0:at2 A (tr j x a) j=0
 ·rw [if_pos e0,e0]
  show at2 A (tr j x a) b=_
  grind
 ·rw [if_neg e0]
  unfold kE
  rw [wI (by rw [h.2 _ (zY hj hx ha)];exact hb),if_neg (by omega)]
  rfl
theorem aTS {A:Mt} {n j x:Nat} (h:qG A n n) (hj:j < n) (hjx:j≤x) (hx:x < n) (h0:at2 A x j≠0):
  dt (n - j) (aCD A j)=esg j x*at2 A x j*dt (n - (j+1)) (aCD (wV A j x) (j+1)):=by
 obtain ⟨m,hm⟩:∃m,n - j=m+1:=⟨n - j - 1,by omega⟩
 have hm2:n - (j+1)=m:=by omega
 rw [hm,hm2]
 -- exchanged
 have h1:dt (m+1) (fun a b=>aCD A j (tr 0 (x - j) a) b)=esg j x*dt (m+1) (aCD A j):=by
  unfold esg
  by_cases e:j=x
  ·subst e
   rw [if_pos rfl,Nat.sub_self,show (fun a b=>aCD A j (tr 0 0 a) b)=aCD A j by funext a b;simp only [tr];split <;>simp_all];grind
  ·rw [if_neg e,aOT (by omega) (by omega) (by omega)];grind
 obtain ⟨g,hg⟩:∃g:Nat→Nat→Rat,g=fun a b=>aCD A j (tr 0 (x - j) a) b:=⟨_,rfl⟩
 rw [←hg] at h1
 have htr:∀a,tr 0 (x - j) a+j=tr j x (a+j):=fun a=>by
  by_cases e1:a=0
  ·have:tr 0 (x - j) a=x - j:=by simp [tr,e1]
   have h2:tr j x (a+j)=x:=by simp [tr,e1]
   omega
  ·by_cases e2:a=x - j
   ·have:tr 0 (x - j) a=0:=by simp [tr,e1,e2]
    have h2:tr j x (a+j)=j:=by simp [tr,e1,show a+j=x by omega]
    omega
   ·have:tr 0 (x - j) a=a:=by simp [tr,e1,e2]
    have h2:tr j x (a+j)=a+j:=by simp [tr,e1,show ¬a+j=x by omega]
    omega
 have hgv:∀a b,g a b=at2 A (tr j x (a+j)) (b+j):=fun a b=>by rw [hg];show at2 A (tr 0 (x - j) a+j) (b+j)=_;rw [htr]
 have htj:tr j x (0+j)=x:=by simp [tr]
 have hg0:∀b,g 0 b=at2 A x (b+j):=fun b=>by rw [hgv,htj]
 have h2:=aQP (n:=m+1) (r:=0) (f:=g) (c:=fun a=>g a 0 / g 0 0) (by omega)
 have hg00:g 0 0≠0:=by rw [hg0,Nat.zero_add];exact h0
 have h3:dt (m+1) (fun a b=>if a=0 then g 0 b else g a b - g a 0 / g 0 0*g 0 b)=g 0 0*dt m (aCD (wV A j x) (j+1)):=by
  rw [aLH (fun i hi _=>by
   rw [if_neg (by omega)]
   have:g i 0 / g 0 0*g 0 0=g i 0:=by grind
   grind)]
  rw [if_pos rfl]
  congr 1
  apply jM
  intro a b ha hb
  rw [if_neg (by omega)]
  show _=at2 (wV A j x) (a+(j+1)) (b+(j+1))
  rw [aTK h hj hx (by omega) (by omega) (by omega) (by omega),hg0,hg0,hgv,hgv,Nat.zero_add]
  rw [show a+1+j=a+(j+1) by omega,show b+1+j=b+(j+1) by omega]
 have hs:esg j x*esg j x=1:=by unfold esg;split <;>grind
 have h4:dt (m+1) (aCD A j)=esg j x*dt (m+1) g:=by rw [h1];grind
 rw [h4,←h2,h3,hg0,Nat.zero_add];grind
theorem aVP {A:Mt} {n j:Nat} (hj:j < n) (h:∀i,j≤i→i < n→at2 A i j=0):dt (n - j) (aCD A j)=0:=by
 obtain ⟨m,hm⟩:∃m,n - j=m+1:=⟨n - j - 1,by omega⟩
 rw [hm]
 exact aHY (fun i hi=>by show at2 A (i+j) (0+j)=0;rw [Nat.zero_add];exact h _ (by omega) (by omega))
theorem aYM {A:Mt} {n:Nat}:dt (n - 0) (aCD A 0)=dt n (at2 A):=rfl
theorem aWD {A:Mt} {r:Nat} (h:r < A.length):swp A r r=A:=by
 have e:rowAt A r=A[r]:=by simp [rowAt,List.getD,h]
 unfold swp
 rw [e,List.set_set,List.set_getElem_self]
theorem aUV {rows:List MR} {R C:Nat} (hl:rows.length=R) (hc:∀r∈rows,r.es.length=C):qG (mq rows) R C:=
 ⟨by simp [hl],fun i hi=>by rw [mV (by omega)];simp [hc _ (bD (ms:=rows) (i:=(i:Int)) (by omega))]⟩
theorem aXZ {rows4 rows2:List MR} {n j:Nat} (h4:rows4.length=n) (h2:rows2.length=n)
  (hk:∀t:Nat,t < n→t≤j→gt rows4 (t:Int)=gt rows2 (t:Int))
  (hd:∀t:Nat,t < n→j < t→qs (gt rows4 (t:Int)).es=if at2 (mq rows2) t j=0 then qs (gt rows2 (t:Int)).es else kE j (at2 (mq rows2) t j / at2 (mq rows2) j j) (rowAt (mq rows2) j) (qs (gt rows2 (t:Int)).es)):
  mq rows4=(mq rows2).mapIdx (fun i row=>if i≤j then row else if row.getD j 0=0 then row else kE j (row.getD j 0 / at2 (mq rows2) j j) (rowAt (mq rows2) j) row):=by
 apply List.ext_getElem
 ·simp [h4,h2]
 ·intro t h1 h3
  have ht:t < n:=by simpa [h4] using h1
  have e4:(mq rows4)[t]=qs (gt rows4 (t:Int)).es:=by rw [dP (by omega)];simp
  have e3:(mq rows2)[t]'(by simp;omega)=qs (gt rows2 (t:Int)).es:=by rw [dP (by omega)];simp
  have ea:at2 (mq rows2) t j=(qs (gt rows2 (t:Int)).es).getD j 0:=by unfold at2;rw [mV (by omega)]
  rw [e4,List.getElem_mapIdx,e3]
  by_cases htj:t≤j
  ·rw [if_pos htj,hk t ht htj]
  ·rw [if_neg htj,hd t ht (by omega),ea]
/- regions that draw: some reads see all up to a first effect, others what stays up to a second one -/
section
variable {P:Program} {n:Nat} {Q:Exit→Act→World→Prop} {G:Env} {X:List Nat} {w0:World} {M M' M1 Ms:List Ent} {I I' I1 Is:List aM}
def CsL (J1 J2:Nat) (X:List Nat) (w0:World) (M:List Ent) (I:List aM) (Ms:List Ent) (Is:List aM):Nat→World→Prop:=fun s w=>(s≤J1→Mem X w0 M I w)∧(s≤J2→Mem X w0 Ms Is w)
theorem aTA {id:Nat} {l:List Oper} (J1 J2:Nat) (Ms:List Ent) (Is:List aM) (p ms:List Nat) (hM:SubP M Ms) (hI:Inc I Is) (hx:P.follows .mixedOrders=true)
  (hp:(Region.noSelect l.toArray && iD l.toArray p ms (Array.replicate l.length false) && p.length==l.length)=true)
  (h:RD P n l Q (.any (CsL J1 J2 X w0 M I Ms Is) 0 ms) (pick l p) G X w0 M I):TD P n (.region id l.toArray true) Q G X w0 M I:=
 tV (CsL J1 J2 X w0 M I Ms Is) p ms hx (fun s w h=>⟨fun hs=>h.1 (by omega),fun hs=>h.2 (by omega)⟩) hp (fun _ h=>⟨fun _=>h,fun _=>h.weak hM hI⟩) h
theorem aPH {J1 J2 k:Nat} {ms:List Nat} (h:k+ms.headD 0≤J1):View (.any (CsL J1 J2 X w0 M1 I1 Ms Is) k ms) X w0 M I M1 I1:=⟨fun w w' _ hc=>by
 have hc':CsL J1 J2 X w0 M1 I1 Ms Is (k+ms.headD 0) w':=hc
 exact hc'.1 h⟩
theorem aCS {J1 J2 k:Nat} {ms:List Nat} (h:k+ms.headD 0≤J2):View (.any (CsL J1 J2 X w0 M1 I1 Ms Is) k ms) X w0 M I Ms Is:=⟨fun w w' _ hc=>by
 have hc':CsL J1 J2 X w0 M1 I1 Ms Is (k+ms.headD 0) w':=hc
 exact hc'.2 h⟩
theorem bDJ {J1 J2 k:Nat} {ms:List Nat} (h1:SubP M M1) (i1:Inc I I1) (h2:SubP M Ms) (i2:Inc I Is):OkD (.any (CsL J1 J2 X w0 M1 I1 Ms Is) k ms) X w0 M I:=⟨fun w hw=>by
 show CsL J1 J2 X w0 M1 I1 Ms Is (k+1) w
 exact ⟨fun _=>hw.weak h1 i1,fun _=>hw.weak h2 i2⟩⟩
theorem bDD {J1 J2 k:Nat} {ms:List Nat} (h1:J1≤k) (h2:SubP M Ms) (i2:Inc I Is):OkD (.any (CsL J1 J2 X w0 M1 I1 Ms Is) k ms) X w0 M I:=⟨fun w hw=>by
 show CsL J1 J2 X w0 M1 I1 Ms Is (k+1) w
 exact ⟨fun hs=>by omega,fun _=>hw.weak h2 i2⟩⟩
end
section
variable {X:List Nat} {w0:World} {M0:List Ent} {I0:List aM}
abbrev zRm:List Value:=[.bool false, .slice none 0 0, .bool false, .slice none 0 0]
theorem aCA {a:MX} {n k0:Nat} (hb:kb k0 n≤20000000000) (hk0:k0≤20000000000) (da:a.fit n n) (ha:iB a k0∈I0):CD Tryz.prog 249 [mv a] X w0 M0 I0 (RQc (dt n (at2 a.q)) (kb k0 n) M0 I0):=by
 obtain ⟨n1,n2⟩:=da.2.1
 refine uL (fun w hw=>Mem.xsml ha da (by omega) hw) (fun sa=>?_)
 have hC:=fun M0 I0 h1=>aGN (X:=X) (w0:=w0) (M0:=M0) (I0:=I0) (a:=a.raw) sa h1
 have e0:sqC a.raw=0:=by
  unfold sqC
  rw [if_pos da.ok,a.raw_rows,MX.raw_c0 da,da.1.1,if_pos rfl]
 rw [e0,aOK] at hC
 have hW:=fun (x:Int) (hx:x.natAbs≤1) M0 I0=>tZ (X:=X) (w0:=w0) (M0:=M0) (I0:=I0) (x:=x) (by omega) (k:=0) hx
 refine aX (φ:=aCJ a.raw) (Hv.xraw ha (by omega)) ?_
 refine aS Tryz.func249 rfl Tryz.ntmps249 rfl ?_
 refine iH ?_
 refine dS (fun b2=>?_)
 repeat refine aB ?_
 refine dK rfl (hC _ _ aA) ?_
 repeat refine aB ?_
 (refine aQ rfl (aMO da aA) ?_;rintro _ _ _ ⟨bo,rows0,rfl,hl0,hc0,hq0,rfl,rfl⟩;refine aL ?_)
 repeat refine aB ?_
 (refine aQ rfl (hW 1 (by decide) _ _) ?_;rintro _ _ _ ⟨rfl,d0,rfl,hd0,rfl⟩;refine aL ?_)
 repeat refine aB ?_
 refine dS (fun b6=>?_)
 repeat refine aB ?_
 obtain ⟨M1,hM1⟩:∃M1:List Ent,M1= .blk b2 zRm 77::M0:=⟨_,rfl⟩
 rw [←hM1]
 have hmq0:mq rows0=a.q:=by rw [da.1.mk];exact hq0
 refine bH (φ:=bW d0 (kb k0 0)) (Hv.q (k:=0) (List.Mem.head _) (Nat.zero_le _)) ?_
 refine lV [2,5,6,20] rfl (fun k G M I=>∃(j:Nat) (rows1:List MR) (d:RE),j≤n∧k=n - j∧rows1.length=n∧(∀r∈rows1,r.es.length=n)∧dt n (at2 a.q)=d.q*dt (n - j) (aCD (mq rows1) j)∧G=[(21, .int .i64 j)]∧M= .blk b6 (eR d) 77:: .blk bo (recs eM rows1) 70::(rows1.map fU++M1)∧I=bW d (kb k0 j)::allM rows1 (kb k0 j)::I0) (n) (⟨0,rows0,d0,by omega,rfl,hl0,hc0,by rw [hd0,hmq0,aYM];grind,rfl,rfl,rfl⟩) ?_
 clear hC
 rintro kk G M I ⟨j,rows1,d,hj,rfl,hl1,hC1,hD,rfl,rfl,rfl⟩
 have hCg:∀t:Nat,t < n→(gt rows1 (t:Int)).es.length=n:=fun t ht=>hC1 _ (bD (by omega))
 have hdim:=aUV hl1 hC1
 have hbj:=sM k0 (m:=j) (n:=n) hj
 by_cases hjn:j < n
 ·have hb4:4*kb k0 j+1≤20000000000:=Nat.le_trans (sM k0 (m:=j+1) (n:=n) hjn) hb
  have hkj1:kb k0 (j+1)=4*kb k0 j+1:=rfl
  generalize hkj:kb k0 j=kj at*
  repeat refine aB ?_
  refine lV [2,5,6,7,20,21] rfl (fun k G M I=>∃x:Nat,j≤x∧x≤n∧k=n - x∧(∀i:Nat,j≤i→i < x→at2 (mq rows1) i j=0)∧G=[(8, .int .i64 x)]∧M= .blk b6 (eR d) 77:: .blk bo (recs eM rows1) 70::(rows1.map fU++M1)∧I=bW d kj::allM rows1 kj::I0) (n - j) (⟨j,by omega,by omega,rfl,fun i h1 h2=>by omega,rfl,rfl,rfl⟩) ?_
  rintro k G M I ⟨x,hjx,hxn,rfl,hz,rfl,rfl,rfl⟩
  by_cases hxn2:x < n
  ·have hlx:=hCg x hxn2
   have hat:=yV (rows:=rows1) (i:=x) (j:=j) (by omega) (by omega)
   have hS:=nD (X:=X) (w0:=w0) (M0:= .blk (gt rows1 (x:Int)).b (recs eR (gt rows1 (x:Int)).es) 77:: .blk b6 (eR d) 77:: .blk bo (recs eM rows1) 70::((rows1.eraseIdx x).map fU++M1)) (I0:=bW d kj::allM rows1 kj::I0) (e:=gt (gt rows1 (x:Int)).es (j:Int)) (k:=kj) (by omega) (Hv.elM (List.Mem.tail _ (List.Mem.head _)) (by omega) (by omega) (Nat.le_refl _))
   by_cases hx2:at2 (mq rows1) x j=0
   ·rw [hat] at hx2
    rw [(nO _).2 hx2] at hS
    refine nL (aCH (rows:=rows1) (i:=x) (by omega)) ?_
    repeat refine aB ?_
    (refine aQ rfl (hS) ?_;rintro _ _ _ ⟨rfl,rfl,rfl⟩;refine aL ?_)
    repeat refine aB ?_
    refine uZ (aCH (rows:=rows1) (i:=x) (by omega)).symm ?_
    refine gJ (n - (x+1)) (⟨x+1,by omega,by omega,rfl,fun i h1 h2=>?_,rfl,rfl,rfl⟩)
    by_cases e:i=x
    ·rw [e,hat];exact hx2
    ·exact hz i h1 (by omega)
   ·have hxne:=hx2
    rw [hat] at hx2
    have hs0:¬(gt (gt rows1 (x:Int)).es (j:Int)).q.num.sign=0:=fun h=>hx2 ((nO _).1 h)
    generalize (gt (gt rows1 (x:Int)).es (j:Int)).q.num.sign=sg1 at*
    refine nL (aCH (rows:=rows1) (i:=x) (by omega)) ?_
    repeat refine aB ?_
    (refine aQ rfl (hS) ?_;rintro _ _ _ ⟨rfl,rfl,rfl⟩;refine aL ?_)
    clear hS
    repeat refine aB ?_
    refine nL (aCH (rows:=rows1) (i:=x) (by omega)).symm ?_
    refine nJ (fun G M I=>∃(rows2:List MR) (d2:RE),rows2.length=n∧(∀r∈rows2,r.es.length=n)∧mq rows2=swp (mq rows1) j x∧d2.q=esg j x*d.q∧G=[(2, .pointer (some ⟨b2,0,none⟩)),(5, .slice (some ⟨bo,0,none⟩) n n),(6, .pointer (some ⟨b6,0,none⟩)),(7, .int .i64 (j:Int)),(20, .int .i64 (n:Int)),(21, .int .i64 (j:Int))]∧M= .blk b6 (eR d2) 77:: .blk bo (recs eM rows2) 70::(rows2.map fU++M1)∧I=bW d2 kj::allM rows2 kj::I0) ?_ ?_
    ·by_cases hxj:x=j
     ·subst hxj
      repeat refine aB ?_
      refine yA ⟨rows1,d,hl1,hC1,?_,?_,rfl,rfl,rfl⟩
      ·exact (aWD (by simp [hl1];omega)).symm
      ·unfold esg;rw [if_pos rfl];grind
     ·repeat refine aB ?_
      (repeat refine aG ?_);refine bA 0 [0,1,2,3,4,5,6,7,8,9,10,11,12,13,14,15] [0,0,1,1,0,0,0,0,1,1,1,0,0,0,0,0] mixed (by kernel_rfl) ?_
      repeat refine yXh ?_
      refine mX rfl rfl rfl jL (StAt.r1 (gt rows1 (j:Int)) (by omega) rfl) rfl rfl ⟨okF,?_⟩
      repeat refine yXh ?_
      refine mX rfl rfl rfl jL (StAt.r1 (gt rows1 (x:Int)) (by rw [dI];omega) rfl) rfl rfl ⟨okF,?_⟩
      obtain ⟨rows2,hrows2⟩:∃rows2,rows2=st (st rows1 (x:Int) (gt rows1 (j:Int))) (j:Int) (gt rows1 (x:Int)):=⟨_,rfl⟩
      have hsp:=swap_perm (rows:=rows1) (r:=x) (k:=j) (by omega) (by omega)
      rw [←hrows2] at hsp ⊢
      refine zS (M':= .blk b6 (eR d) 77:: .blk bo (recs eM rows2) 70::(rows2.map fU++M1)) (List.Perm.cons _ (List.Perm.cons _ ((hsp.symm.map fU).append_right M1))) ?_
      refine cK (φ:=allM rows2 kj) (Hv.permM (List.Mem.tail _ (List.Mem.head _)) hsp) ?_
      repeat refine aB ?_
      (refine aQ rfl (aHT (k:=kj) (by omega) (Hv.mem aA)) ?_;rintro _ _ _ ⟨rfl,d2,rfl,hd2,rfl⟩;refine aL ?_)
      repeat refine aB ?_
      refine yA ⟨rows2,d2,by rw [hsp.length_eq];exact hl1,fun r hr=>hC1 r (hsp.mem_iff.1 hr),?_,?_,rfl,rfl,rfl⟩
      ·rw [hrows2]
       unfold st swp
       simp only [Int.toNat_natCast]
       rw [aED,aED,mV (by omega),mV (by omega),List.set_comm _ _ hxj]
      ·unfold esg;rw [if_neg (fun e=>hxj e.symm),hd2];grind
    ·clear hs0 hz
     rintro G M I ⟨rows2,d2,hl2,hC2,hmq2,hd2,rfl,rfl,rfl⟩
     have hC2g:∀t:Nat,t < n→(gt rows2 (t:Int)).es.length=n:=fun t ht=>hC2 _ (bD (by omega))
     have hdim2:=aUV hl2 hC2
     have hlr:=hC2g j hjn
     have hatj:=yV (rows:=rows2) (i:=j) (j:=j) (by omega) (by omega)
     have hpe:at2 (mq rows2) j j=at2 (mq rows1) x j:=by
      rw [hmq2]
      unfold at2
      rw [rP hdim hjn hxn2]
      simp [tr]
     have hpiv:(gt (gt rows2 (j:Int)).es (j:Int)).q≠0:=by rw [←hatj,hpe];exact hxne
     have hEl:∀I,allM rows2 kj∈I→Hv I (bW (gt (gt rows2 (j:Int)).es (j:Int)) kj):=fun I h=>Hv.elM h (by omega) (by omega) (Nat.le_refl _)
     refine nL (aCH (rows:=rows2) (i:=j) (by omega)) ?_
     (repeat refine aG ?_);refine bA 1 [0,1,2,3,4,5,6,7,8,9] [0,1,1,1,1,1,1,0,0,0] mixed (by kernel_rfl) ?_
     repeat refine aB ?_
     (refine aQ rfl (sQ (k:=kj) (m:=kj) (by omega) (Hv.mem aA) (hEl _ aA)) ?_;rintro _ _ _ ⟨rfl,d3,rfl,hd3,rfl⟩;refine aL ?_)
     repeat refine aB ?_
     refine nL (aCH (rows:=rows2) (i:=j) (by omega)).symm ?_
     refine bH (φ:=allM rows2 (4*kj+1)) (Hv.monoM (k:=kj) aA (by omega)) ?_
     refine lV [2,5,6,7,20,21] rfl (fun k G M I=>∃(i:Nat) (rows4:List MR),j+1≤i∧i≤n∧k=n - i∧rows4.length=n∧(∀t:Nat,t < n→(gt rows4 (t:Int)).es.length=n)∧(∀t:Nat,t < n→(t≤j∨i≤t)→gt rows4 (t:Int)=gt rows2 (t:Int))∧(∀t:Nat,j < t→t < i→qs (gt rows4 (t:Int)).es=if at2 (mq rows2) t j=0 then qs (gt rows2 (t:Int)).es else kE j (at2 (mq rows2) t j / at2 (mq rows2) j j) (rowAt (mq rows2) j) (qs (gt rows2 (t:Int)).es))∧G=[(9, .int .i64 i)]∧M= .blk b6 (eR d3) 77:: .blk bo (recs eM rows4) 70::(rows4.map fU++M1)∧I=allM rows4 (4*kj+1)::bW d3 (kj+kj)::allM rows2 kj::I0) (n - (j+1)) (⟨j+1,rows2,by omega,by omega,rfl,hl2,hC2g,fun _ _ _=>rfl,fun t h1 h2=>by omega,rfl,rfl,rfl⟩) ?_
     rintro k G M I ⟨i,rows4,hji,hin,rfl,hl4,hC4,hrest,hdone,rfl,rfl,rfl⟩
     have hg4j:=hrest j hjn (.inl (Nat.le_refl _))
     by_cases hi:i < n
     ·have hgi:=hrest i hi (.inr (Nat.le_refl _))
      have hij:i≠j:=by omega
      have hlx:=hC4 i hi
      have hlj:=hC4 j hjn
      have hat:at2 (mq rows2) i j=(gt (gt rows4 (i:Int)).es (j:Int)).q:=by rw [hgi];exact yV (by omega) (by rw [hC2g i hi];omega)
      have hEi:∀I,allM rows2 kj∈I→Hv I (bW (gt (gt rows4 (i:Int)).es (j:Int)) kj):=fun I h=>by rw [hgi];exact Hv.elM h (by omega) (by rw [hC2g i hi];omega) (Nat.le_refl _)
      have hEj:∀I,allM rows2 kj∈I→Hv I (bW (gt (gt rows4 (j:Int)).es (j:Int)) kj):=fun I h=>by rw [hg4j];exact hEl I h
      have hpj:(gt (gt rows4 (j:Int)).es (j:Int)).q≠0:=by rw [hg4j];exact hpiv
      have hRi:∀I,allM rows2 kj∈I→Hv I (aU (gt rows4 (i:Int)).es kj):=fun I h=>by rw [hgi];exact Hv.rowMm h (by omega) (Nat.le_refl _)
      have hRj:∀I,allM rows2 kj∈I→Hv I (aU (gt rows4 (j:Int)).es kj):=fun I h=>by rw [hg4j];exact Hv.rowMm h (by omega) (Nat.le_refl _)
      have hfoc:=foc2 (rows:=rows4) (i:=i) (j:=j) (by omega) (by omega) hij (A:= .blk b6 (eR d3) 77) (B:= .blk bo (recs eM rows4) 70) (M1:=M1)
      have hS:=fun M0 I0 h=>nD (X:=X) (w0:=w0) (M0:=M0) (I0:=I0) (e:=gt (gt rows4 (i:Int)).es (j:Int)) (k:=kj) (by omega) h
      refine nL hfoc ?_
      by_cases hx0:(gt (gt rows4 (i:Int)).es (j:Int)).q=0
      ·rw [(nO _).2 hx0] at hS
       repeat refine aB ?_
       refine dK rfl (hS _ _ (hEi _ aA)) ?_
       repeat refine aB ?_
       refine uZ hfoc.symm ?_
       refine gJ (n - (i+1)) (⟨i+1,rows4,by omega,by omega,rfl,hl4,hC4,fun t ht h=>hrest t ht (by omega),fun t h1 h2=>?_,rfl,rfl,rfl⟩)
       by_cases hti:t=i
       ·subst hti
        rw [hat,if_pos hx0,hgi]
       ·exact hdone t h1 (by omega)
      ·have hs0:¬(gt (gt rows4 (i:Int)).es (j:Int)).q.num.sign=0:=fun h=>hx0 ((nO _).1 h)
       generalize (gt (gt rows4 (i:Int)).es (j:Int)).q.num.sign=sg2 at*
       repeat refine aB ?_
       refine dK rfl (hS _ _ (hEi _ aA)) ?_
       repeat refine aB ?_
       (repeat refine aG ?_);refine aTA 1 2 (.blk b6 (eR d3) 77:: .blk bo (recs eM rows4) 70::((jS rows4 i j).map fU++M1)) (allM rows4 (4*kj+1)::bW d3 (kj+kj)::allM rows2 kj::I0) [0,1,2,3,4,5,6,7,8,9,10,11,12,13,14,15,16,17,18,19,20,21,23,22,24] [2,2,2,1,2,2,2,1,2,2,2,2,2,2,1,2,2,2,2,2,2,1,1,0,0] aF aD mixed (by kernel_rfl) ?_
       repeat refine aB ?_
       (apply gI;exact aCS (by decide);exact rfl;exact aA;exact wC;exact rfl;exact rfl)
       repeat refine aB ?_
       (apply gI;exact aCS (by decide);exact rfl;exact aA;exact wC;exact rfl;exact rfl)
       repeat refine aB ?_
       (apply gI;exact aCS (by decide);exact rfl;exact aA;exact wC;exact rfl;exact rfl)
       repeat refine aB ?_
       (apply bI;exact aPH (by decide);exact rfl;exact aA;exact atY;exact rfl;exact rfl)
       repeat refine aB ?_
       (apply gI;exact aCS (by decide);exact rfl;exact aA;exact wC;exact rfl;exact rfl)
       repeat refine aB ?_
       (apply bI;exact aPH (by decide);exact rfl;exact aA;exact atY;exact rfl;exact rfl)
       repeat refine aB ?_
       (refine aQ rfl (aBX (k:=kj) (m:=kj) (by omega) hpj (hEi _ aA) (hEj _ aA)) ?_;rintro _ _ _ ⟨rfl,κ,rfl,hκ,rfl⟩;refine ⟨bDJ aF aD aF aD,?_⟩)
       repeat refine aB ?_
       rw [hlx,hlj]
       refine cK (φ:=aU (gt rows4 (i:Int)).es kj) (hRi _ aA) ?_
       refine cK (φ:=aU (gt rows4 (j:Int)).es kj) (hRj _ aA) ?_
       (refine aQ rfl (aBR (kz:=kj) (m:=kj+kj) (h:=kj) (fr:=j) (n:=n) (κ:=κ) (M1:= .blk b6 (eR d3) 77:: .blk bo (recs eM rows4) 70::((jS rows4 i j).map fU++M1)) (by omega) (by omega) hlx hlj (by omega) aA aA aA rfl) ?_;rintro _ _ _ ⟨rfl,e5,hl5,hd5,rfl,rfl⟩;refine ⟨bDD (by decide) aF aD,?_⟩)
       rw [show kj+(kj+kj+kj)+1=4*kj+1 by omega]
       obtain ⟨rows5,hrows5⟩:∃rows5,rows5=rows4.set i ⟨(gt rows4 (i:Int)).b,e5⟩:=⟨_,rfl⟩
       have hl5':rows5.length=n:=by rw [hrows5,List.length_set];exact hl4
       have hh5:recs eM rows4=recs eM rows5:=by rw [hrows5];exact (wJ (by omega) (by rw [hlx,hl5])).symm
       have hr5:jS rows4 i j=jS rows5 i j:=by rw [hrows5,rM _ _ _ _ hij]
       have hg5i:gt rows5 (i:Int)=⟨(gt rows4 (i:Int)).b,e5⟩:=by rw [hrows5,dP (by simpa using (show i < rows4.length by omega))];simp
       have hg5o:∀t:Nat,t < n→t≠i→gt rows5 (t:Int)=gt rows4 (t:Int):=fun t ht hti=>by
        rw [hrows5,dP (by simpa using (show t < rows4.length by omega)),List.getElem_set_ne (Ne.symm hti)];exact (dP (by omega)).symm
       have hf5:=foc2 (rows:=rows5) (i:=i) (j:=j) (by omega) (by omega) hij (A:= .blk b6 (eR d3) 77) (B:= .blk bo (recs eM rows5) 70) (M1:=M1)
       rw [hg5i,hg5o j (by omega) (Ne.symm hij)] at hf5
       rw [hh5,hr5]
       refine zS hf5.symm ?_
       refine cK (φ:=allM rows5 (4*kj+1)) (by rw [hrows5];exact Hv.setM (k:=4*kj+1) (m:=4*kj+1) aA aA (by omega) (by omega)) ?_
       repeat refine aB ?_
       refine gJ (n - (i+1)) (⟨i+1,rows5,by omega,by omega,rfl,hl5',fun t ht=>?_,fun t ht h=>?_,fun t h1 h2=>?_,rfl,rfl,rfl⟩)
       ·by_cases hti:t=i
        ·subst hti;rw [hg5i];exact hl5
        ·rw [hg5o t ht hti];exact hC4 t ht
       ·rw [hg5o t ht (by omega)];exact hrest t ht (by omega)
       ·by_cases hti:t=i
        ·subst hti
         rw [hg5i,hat,if_neg hx0,←hgi]
         have e1:rowAt (mq rows2) j=qs (gt rows4 (j:Int)).es:=by rw [mV (by omega),hg4j]
         have e2:at2 (mq rows2) j j=(gt (gt rows4 (j:Int)).es (j:Int)).q:=by rw [hg4j];exact hatj
         rw [e1,e2,←hκ]
         exact aWZ hl5 hlx hlj hd5
        ·rw [hg5o t (by omega) hti];exact hdone t h1 (by omega)
     ·obtain rfl:i=n:=by omega
      have hmq4:mq rows4=wV (mq rows1) j x:=by
       unfold wV
       rw [←hmq2]
       exact aXZ hl4 hl2 (fun t ht h=>hrest t ht (.inl h)) (fun t ht h=>hdone t h ht)
      repeat refine aB ?_
      refine dF (φ:=bW d3 (kb k0 (j+1))) (Hv.q (k:=kj+kj) aA (by omega)) ?_
      refine dF (φ:=allM rows4 (kb k0 (j+1))) (Hv.monoM (k:=4*kj+1) aA (by omega)) ?_
      refine gJ (i - (j+1)) (⟨j+1,rows4,d3,by omega,rfl,hl4,fun r hr=>?_,?_,rfl,rfl,rfl⟩)
      ·obtain ⟨t,ht,rfl⟩:=List.mem_iff_getElem.1 hr
       have:=hC4 t (by omega)
       rwa [dP ht] at this
      ·rw [hD,hd3,←hatj,hpe,hd2,aTS hdim hjn hjx hxn2 hxne,hmq4];grind
  ·obtain rfl:x=n:=by omega
   repeat refine aB ?_
   (refine aQ rfl (hW 0 (by decide) _ _) ?_;rintro _ _ _ ⟨rfl,e1,rfl,he1,rfl⟩;refine aL ?_)
   rw [hM1]
   refine yN (M':= .blk b2 zRm 77::M0) (I':=bW e1 0::I0) (SubP.drop (SubP.drop (lM SubP.refl))) aD ?_
   repeat refine aB ?_
   refine dF (φ:=bW e1 (kb k0 x)) (Hv.q (k:=0) aA (Nat.zero_le _)) ?_
   refine fF (rs:=[.cell 2 77, .tmp 3]) (vs:=[rv e1, .int .i64 0]) (.inl rfl) rfl (.cellN (cs:=eR e1) inferInstance rfl aA rfl (.tmp rfl .nil)) rfl M0 (bW e1 (kb k0 x)::I0) aF aD ⟨rfl,e1,rfl,?_,rfl⟩
   rw [hD,he1,aVP hjn (fun i h1 h2=>hz i h1 h2)];grind
 ·obtain rfl:j=n:=by omega
  rw [hM1]
  refine rY (M':= .blk b6 (eR d) 77:: .blk b2 zRm 77::M0) (I':=bW d (kb k0 j)::I0) (SubP.cons .here (SubP.drop (lM SubP.refl))) aD ?_
  repeat refine aB ?_
  refine fF (rs:=[.cell 2 77, .tmp 3]) (vs:=[rv d, .int .i64 0]) (.inl rfl) rfl (.cellN (cs:=eR d) inferInstance rfl aA rfl (.tmp rfl .nil)) rfl M0 (bW d (kb k0 j)::I0) aF aD ⟨rfl,d,rfl,?_,rfl⟩
  rw [hD,Nat.sub_self]
  show d.q=d.q*1
  grind
end
end Go.Proofs.YtmmmfphealhapaaGreat
