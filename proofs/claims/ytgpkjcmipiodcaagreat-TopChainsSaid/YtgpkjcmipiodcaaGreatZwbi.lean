/- TopChains: arguments opened. -/
import Derived.Test.YtgpkjcmipiodcaaGreatZwbh
import Derived.Test.YtgpkjcmipiodcaaGreatZwaz
set_option linter.unusedSimpArgs false
set_option linter.unusedVariables false
set_option maxRecDepth 100000
set_option maxHeartbeats 4000000
namespace Go.Proofs.YtgpkjcmipiodcaaGreat
open Go Go.Fx
open Go.ChangeShapes Go.WideShapes Go.RowKit Go.ChangeAt
section
variable {P:Program} {H:Type} {enc:TypeId × Value→H} {W:World}
theorem aHN {tr:TypeId} {fr:Array Field} {n:Nat} {cs:List Value} {y:DataW H × List MemPlace} {L:List (Nat × TypeId)} (hr:P.underlying tr=some (.struct fr)) (hfr:fr.toList.map (fun f=>(f.offset,f.type))=L) (h:DataW.trod enc P W 0 (fun _=>true) true n tr cs=some y):
  cs.length=P.cellsOf tr∧∀(i o:Nat) (t:TypeId),L[i]?=some (o,t)→∃n' z,DataW.trod enc P W 0 (fun _=>true) true n' t ((cs.drop o).take (P.cellsOf t))=some z:=by
 obtain ⟨zs,n',rfl,rfl,hl,hzl,hz⟩:=DataW.trod_struct hr h
 refine ⟨hl,fun i o t hi=>?_⟩
 rw [←hfr,List.getElem?_map] at hi
 obtain ⟨f,hf,he⟩:=Option.map_eq_some_iff.1 hi
 injection he with e1 e2
 have hg:fr[i]?=some f:=by rw [←Array.getElem?_toList];exact hf
 have h0:=hz i f hg
 rw [e1,e2] at h0
 have hlt:i < zs.length:=by rw [hzl];exact (Array.getElem?_eq_some_iff.1 hg).1
 rw [List.getElem?_eq_getElem hlt] at h0
 exact ⟨n',_,h0⟩
theorem wf63 {x:Int} (h:(Lit.int .i64 x).wf=true):uU x:=by
 simp [Lit.wf] at h
 have h1:IntKind.i64.min= -9223372036854775808:=by decide
 have h2:IntKind.i64.max=9223372036854775807:=by decide
 first|(rw [h1,h2] at h;exact h)|(rw [h1] at h;exact h)|exact h
end
section
variable {H:Type} {enc:TypeId × Value→H} {W:World}
theorem aLG {n:Nat} {cs:List Value} {y:DataW H × List MemPlace} (hl:cs.length=4) (h:DataW.trod enc Tryz.prog W 0 (fun _=>true) true n 28 cs=some y):∃q:Qn,cs=eQ q:=by
 obtain ⟨xs,rfl,hx,_⟩:=aDH (k:= .i64) (m:=4) Tryz.underlying28 (by kernel_rfl) (by intro f hf;simp at hf;rcases hf with rfl|rfl|rfl|rfl <;>exact Tryz.underlying3) hl h
 match xs,hx with
 |[a,b,c,d],_=>exact ⟨⟨a,b,c,d⟩,rfl⟩
theorem aGZ {n:Nat} {cs:List Value} {y:DataW H × List MemPlace} (hl:cs.length=3) (h:DataW.trod enc Tryz.prog W 0 (fun _=>true) true n 31 cs=some y):∃p:P3,cs=gP p∧uU p.x∧uU p.y∧uU p.z:=by
 obtain ⟨xs,rfl,hx,hw⟩:=aDH (k:= .i64) (m:=3) Tryz.underlying31 (by kernel_rfl) (by intro f hf;simp at hf;rcases hf with rfl|rfl|rfl <;>exact Tryz.underlying3) hl h
 match xs,hx with
 |[a,b,c],_=>exact ⟨⟨a,b,c⟩,rfl,wf63 (hw a (by simp)),wf63 (hw b (by simp)),wf63 (hw c (by simp))⟩
theorem bAK {n:Nat} {cs:List Value} {y:DataW H × List MemPlace} (hl:cs.length=2) (h:DataW.trod enc Tryz.prog W 0 (fun _=>true) true n 66 cs=some y):∃a b:Int,cs=[.int .i64 a, .int .i64 b]:=by
 obtain ⟨xs,rfl,hx,_⟩:=aDH (k:= .i64) (m:=2) Tryz.underlying66 (by kernel_rfl) (by intro f hf;simp at hf;rcases hf with rfl|rfl <;>exact Tryz.underlying3) hl h
 match xs,hx with
 |[a,b],_=>exact ⟨a,b,rfl⟩
theorem aZL {n:Nat} {cs:List Value} {y:DataW H × List MemPlace} (hl:cs.length=2) (h:DataW.trod enc Tryz.prog W 0 (fun _=>true) true n 71 cs=some y):∃a b:Int,cs=[.int .i64 a, .int .i64 b]:=by
 have hc1:Tryz.prog.cellsOf 3=1:=by kernel_rfl
 obtain ⟨xs,n',_,hy,hl2,hxl,hx⟩:=DataW.trod_array Tryz.underlying71 h
 have h0:=hx 0 (by omega)
 have h1:=hx 1 (by omega)
 rw [hc1,List.getElem?_eq_getElem (by omega)] at h0 h1
 match cs,hl with
 |[c0,c1],_=>
  obtain ⟨a,ha,_⟩:=qI Tryz.underlying3 h0
  obtain ⟨b,hb,_⟩:=qI Tryz.underlying3 h1
  simp at ha hb
  exact ⟨a,b,by rw [ha,hb]⟩
theorem bBD (r:List Value) (n:Nat) (y:DataW H × List MemPlace) (h:DataW.trod enc Tryz.prog W 0 (fun _=>true) true n 68 r=some y):∃m:ST,r=qU m∧True:=by
 obtain ⟨hl,hf⟩:=aHN (L:=[(0,31),(3,28),(7,3),(8,66)]) Tryz.underlying68 (by kernel_rfl) h
 rw [show Tryz.prog.cellsOf 68=10 by kernel_rfl] at hl
 obtain ⟨n0,z0,h0⟩:=hf 0 _ _ rfl
 obtain ⟨n1,z1,h1⟩:=hf 1 _ _ rfl
 obtain ⟨n2,z2,h2⟩:=hf 2 _ _ rfl
 obtain ⟨n3,z3,h3⟩:=hf 3 _ _ rfl
 rw [show Tryz.prog.cellsOf 31=3 by kernel_rfl] at h0
 rw [show Tryz.prog.cellsOf 28=4 by kernel_rfl] at h1
 rw [show Tryz.prog.cellsOf 3=1 by kernel_rfl] at h2
 rw [show Tryz.prog.cellsOf 66=2 by kernel_rfl] at h3
 match r,hl with
 |[c0,c1,c2,c3,c4,c5,c6,c7,c8,c9],_=>
  obtain ⟨p,hp,_⟩:=aGZ rfl h0
  obtain ⟨q,hq⟩:=aLG rfl h1
  obtain ⟨f,hff,_⟩:=qI Tryz.underlying3 h2
  obtain ⟨u,v,huv⟩:=bAK rfl h3
  simp at hp hq hff huv
  obtain ⟨rfl,rfl,rfl⟩:=hp
  obtain ⟨rfl,rfl,rfl,rfl⟩:=hq
  subst hff
  obtain ⟨rfl,rfl⟩:=huv
  exact ⟨⟨p.x,p.y,p.z,q,f,u,v⟩,rfl,trivial⟩
theorem aZT (r:List Value) (n:Nat) (y:DataW H × List MemPlace) (h:DataW.trod enc Tryz.prog W 0 (fun _=>true) true n 73 r=some y):∃m:OB,r=jU m∧True:=by
 obtain ⟨hl,hf⟩:=aHN (L:=[(0,70),(1,3),(2,3),(3,3),(4,71),(6,3)]) Tryz.underlying73 (by kernel_rfl) h
 rw [show Tryz.prog.cellsOf 73=7 by kernel_rfl] at hl
 obtain ⟨n0,z0,h0⟩:=hf 0 _ _ rfl
 obtain ⟨n1,z1,h1⟩:=hf 1 _ _ rfl
 obtain ⟨n2,z2,h2⟩:=hf 2 _ _ rfl
 obtain ⟨n3,z3,h3⟩:=hf 3 _ _ rfl
 obtain ⟨n4,z4,h4⟩:=hf 4 _ _ rfl
 obtain ⟨n5,z5,h5⟩:=hf 5 _ _ rfl
 rw [show Tryz.prog.cellsOf 70=1 by kernel_rfl] at h0
 rw [show Tryz.prog.cellsOf 3=1 by kernel_rfl] at h1 h2 h3 h5
 rw [show Tryz.prog.cellsOf 71=2 by kernel_rfl] at h4
 match r,hl with
 |[c0,c1,c2,c3,c4,c5,c6],_=>
  obtain ⟨x0,q0,_⟩:=qI Tryz.underlying70 h0
  obtain ⟨x1,q1,_⟩:=qI Tryz.underlying3 h1
  obtain ⟨x2,q2,_⟩:=qI Tryz.underlying3 h2
  obtain ⟨x3,q3,_⟩:=qI Tryz.underlying3 h3
  obtain ⟨u,v,huv⟩:=aZL rfl h4
  obtain ⟨x5,q5,_⟩:=qI Tryz.underlying3 h5
  simp at q0 q1 q2 q3 huv q5
  obtain ⟨rfl,rfl⟩:=huv
  subst q0;subst q1;subst q2;subst q3;subst q5
  exact ⟨⟨x0,x1,x2,x3,u,v,x5⟩,rfl,trivial⟩
theorem aUB {base:Nat} {v:Value} {d:DataW H} {p:List MemPlace} (hv:Value.okWide Tryz.prog W .any base 26 v) (h:DataW.Trod enc Tryz.prog W 0 (fun _=>true) true 26 v d p):
  ∃x:NX,v=nxv x∧Sl [] W x.pS (recs qU x.S)∧Sl [] W x.pP (recs gP x.P)∧Sl [] W x.pO (recs jU x.O)∧(Ok x.pO∨(x.O.length=0∧x.cO=0)):=by
 simp only [Value.okWide,Tryz.underlying26] at hv
 obtain ⟨cs,rfl,hsz,hrow⟩:=hv
 obtain ⟨fuel,hf0⟩:=h
 obtain ⟨hl,hf⟩:=aHN (L:=[(0,3),(1,22),(2,23),(3,24)]) Tryz.underlying26 (by kernel_rfl) (show DataW.trod enc Tryz.prog W 0 (fun _=>true) true fuel 26 cs.toList=some (d,p) from hf0)
 rw [show Tryz.prog.cellsOf 26=4 by kernel_rfl] at hl
 obtain ⟨n0,z0,h0⟩:=hf 0 _ _ rfl
 obtain ⟨n1,z1,h1⟩:=hf 1 _ _ rfl
 obtain ⟨n2,z2,h2⟩:=hf 2 _ _ rfl
 obtain ⟨n3,z3,h3⟩:=hf 3 _ _ rfl
 rw [show Tryz.prog.cellsOf 3=1 by kernel_rfl] at h0
 rw [show Tryz.prog.cellsOf 22=1 by kernel_rfl] at h1
 rw [show Tryz.prog.cellsOf 23=1 by kernel_rfl] at h2
 rw [show Tryz.prog.cellsOf 24=1 by kernel_rfl] at h3
 rw [show cs=cs.toList.toArray by simp]
 generalize cs.toList=l at*
 match l,hl with
 |[c0,c1,c2,c3],_=>
  obtain ⟨dd,q0,_⟩:=qI Tryz.underlying3 h0
  obtain ⟨pS,S,cS,q1,sS,_,_,_⟩:=yC (en:=qU) (Pm:=fun _=>True) Tryz.underlying22 (by rw [show Tryz.prog.cellsOf 68=10 by kernel_rfl];decide) (fun r n y _ hd=>bBD r n y hd) h1
  obtain ⟨pP,PP,cP,q2,sP,_,_,_⟩:=yC (en:=gP) (Pm:=fun _=>True) Tryz.underlying23 (by rw [show Tryz.prog.cellsOf 31=3 by kernel_rfl];decide) (fun r n y hrl hd=>by
   rw [show Tryz.prog.cellsOf 31=3 by kernel_rfl] at hrl
   obtain ⟨m,hm,_⟩:=aGZ hrl hd
   exact ⟨m,hm,trivial⟩) h2
  obtain ⟨pO,O,cO,q3,sO,_,_,hcap⟩:=yC (en:=jU) (Pm:=fun _=>True) Tryz.underlying24 (by rw [show Tryz.prog.cellsOf 73=7 by kernel_rfl];decide) (fun r n y _ hd=>aZT r n y hd) h3
  simp at q0 q1 q2 q3
  subst q0;subst q1;subst q2;subst q3
  exact ⟨⟨dd,pS,S,cS,pP,PP,cP,pO,O,cO⟩,rfl,sS,sP,sO,hcap.2⟩
theorem aYI {base:Nat} {v:Value} {d:DataW H} {p:List MemPlace} (hv:Value.okWide Tryz.prog W .any base 29 v) (h:DataW.Trod enc Tryz.prog W 0 (fun _=>true) true 29 v d p):
  ∃q0 q1:Qn,v= .agg (recs eQ [q0,q1]).toArray:=by
 simp only [Value.okWide,Tryz.underlying29] at hv
 obtain ⟨cs,rfl,hsz,hrow⟩:=hv
 obtain ⟨fuel,hf⟩:=h
 have hc4:Tryz.prog.cellsOf 28=4:=by kernel_rfl
 have hc8:Tryz.prog.cellsOf 29=8:=by kernel_rfl
 obtain ⟨xs,n,_,hy,hl,hxl,hx⟩:=DataW.trod_array Tryz.underlying29 (show DataW.trod enc Tryz.prog W 0 (fun _=>true) true fuel 29 cs.toList=some (d,p) from hf)
 rw [hc8] at hl
 have h0:=hx 0 (by omega)
 have h1:=hx 1 (by omega)
 rw [hc4,List.getElem?_eq_getElem (by omega)] at h0 h1
 rw [show cs=cs.toList.toArray by simp]
 generalize cs.toList=l at*
 match l,hl with
 |[c0,c1,c2,c3,c4,c5,c6,c7],_=>
  obtain ⟨q,hq⟩:=aLG rfl h0
  obtain ⟨r,hr⟩:=aLG rfl h1
  simp at hq hr
  obtain ⟨rfl,rfl,rfl,rfl⟩:=hq
  obtain ⟨rfl,rfl,rfl,rfl⟩:=hr
  exact ⟨q,r,rfl⟩
theorem aWC {base:Nat} {v:Value} {d:DataW H} {p:List MemPlace} (hv:Value.okWide Tryz.prog W .any base 32 v) (h:DataW.Trod enc Tryz.prog W 0 (fun _=>true) true 32 v d p):
  ∃s0 s1:P3,v= .agg (recs gP [s0,s1]).toArray∧(∀k,uU (s0.co k))∧(∀k,uU (s1.co k)):=by
 simp only [Value.okWide,Tryz.underlying32] at hv
 obtain ⟨cs,rfl,hsz,hrow⟩:=hv
 obtain ⟨fuel,hf⟩:=h
 have hc4:Tryz.prog.cellsOf 31=3:=by kernel_rfl
 have hc8:Tryz.prog.cellsOf 32=6:=by kernel_rfl
 obtain ⟨xs,n,_,hy,hl,hxl,hx⟩:=DataW.trod_array Tryz.underlying32 (show DataW.trod enc Tryz.prog W 0 (fun _=>true) true fuel 32 cs.toList=some (d,p) from hf)
 rw [hc8] at hl
 have h0:=hx 0 (by omega)
 have h1:=hx 1 (by omega)
 rw [hc4,List.getElem?_eq_getElem (by omega)] at h0 h1
 rw [show cs=cs.toList.toArray by simp]
 generalize cs.toList=l at*
 match l,hl with
 |[c0,c1,c2,c3,c4,c5],_=>
  obtain ⟨q,hq,a1,a2,a3⟩:=aGZ rfl h0
  obtain ⟨r,hr,b1,b2,b3⟩:=aGZ rfl h1
  simp at hq hr
  obtain ⟨rfl,rfl,rfl⟩:=hq
  obtain ⟨rfl,rfl,rfl⟩:=hr
  refine ⟨q,r,rfl,fun k=>?_,fun k=>?_⟩
  ·unfold P3.co
   split
   ·exact a1
   ·split
    ·exact a2
    ·exact a3
  ·unfold P3.co
   split
   ·exact b1
   ·split
    ·exact b2
    ·exact b3
end
end Go.Proofs.YtgpkjcmipiodcaaGreat
