/- consensus: regular, formed, fitted. -/
import Derived.Test.YtmmmfphealhapaaGreatZtao
import Derived.Test.YtmmmfphealhapaaGreatZtam
import Derived.Test.YtmmmfphealhapaaGreatZtaj
import Derived.Test.YtmmmfphealhapaaGreatZtal
import Derived.Test.YtmmmfphealhapaaGreatZtad
import Derived.Test.YtmmmfphealhapaaGreatZtac
import Derived.Test.YtmmmfphealhapaaGreatZtak
set_option linter.unusedSimpArgs false
set_option linter.unusedVariables false
set_option maxRecDepth 100000
set_option maxHeartbeats 4000000
namespace Go.Proofs.YtmmmfphealhapaaGreat
open Go Go.Fx
theorem aZD {q:Rat}:q.num.sign=0↔q=0:=by rw [Int.sign_eq_zero_iff_zero,Rat.num_eq_zero]
abbrev hdL (r:RL):HD:=⟨r.p,r.es.length,r.c⟩
theorem aVF (rows:List RL):recs eH (rows.map hdL)=recs eL rows:=by
 induction rows with
 |nil=>rfl
 |cons x r ih=>
  have h1:recs eH ((x::r).map hdL)=eH (hdL x)++recs eH (r.map hdL):=rfl
  have h2:recs eL (x::r)=eL x++recs eL r:=rfl
  rw [h1,h2,ih]
section
variable {P:Program} {n:Nat} {Q:Exit→Act→World→Prop} {G:Env} {X:List Nat} {w0:World} {M:List Ent} {I:List aL}
theorem zT {cd:Code} {b k C:Nat} {rows:List RL} {ty:TypeId} (hl:rows.length=C) (hC:C≤1000000) (ha:dX rows k∈I) (h:TD P n cd Q G X w0 M (gI ⟨some ⟨b,0,none⟩,C,rows⟩ k::I)):TD P n cd Q G X w0 (.blk b (recs eL rows) ty::M) I:=by
 subst hl
 refine uG (mm:=rows.length) 1 .here (by rw [fG]) (by omega) ?_
 exact aEO (fun _ hw=>Mem.toX hw ha) h
end
section
variable {X:List Nat} {w0:World} {M0 M1:List Ent} {I0:List aL}
theorem aLM {a:MX} {k:Nat} (hb:kb k 3≤20000000000) (hk0:k≤20000000000) (da:a.fit 3 3) (ha:gI a k∈I0):CD Tryz.prog 188 [mv a] X w0 M0 I0 (fun v M I=>M0=M∧I0=I∧v= .bool (B (dt 3 (at2 a.q)≠0))):=by
 have hD:=fun M0 I0 h=>aCZ (X:=X) (w0:=w0) (M0:=M0) (I0:=I0) (a:=a) (n:=3) (k0:=k) hb hk0 da h
 have hr:=da.1.1
 refine aR Tryz.func188 rfl Tryz.ntmps188 rfl ?_
 repeat refine aB ?_
 (refine bD rfl (hD _ _ aA) ?_;rintro _ _ _ ⟨rfl,e,rfl,he,rfl⟩;refine aN ?_)
 repeat refine aB ?_
 refine cK (fun b3=>?_)
 repeat refine aB ?_
 refine dH rfl (nM (e:=e) (k:=kb k 3) (by omega) (Hv.mem aA)) ?_
 repeat refine aB ?_
 refine fC (M':=M0) (I':=I0) aF aC ?_
 refine aU (by first|exact .inl rfl|exact .inr rfl) rfl rfl _ _ aF aC (⟨rfl,rfl,congrArg Value.bool (iZ (by rw [←he];exact not_congr aZD))⟩)
theorem aRV {kd k:Nat} {x:RL} (hk:kd≤2) (hkk:k≤100000000000) (hl:x.es.length=lG kd) (hx:iN x k∈I0):CD Tryz.prog 187 [.int .i64 (kd:Int),lv x] X w0 M0 I0 (XQ (zA kd x.q) 3 3 k M0 I0):=by
 have hW0:=fun M0 I0=>jL (X:=X) (w0:=w0) (M0:=M0) (I0:=I0) (x:=0) (by decide) (k:=0) (by decide)
 have hW1:=fun M0 I0=>jL (X:=X) (w0:=w0) (M0:=M0) (I0:=I0) (x:=1) (by decide) (k:=0) (by decide)
 have hq:∀i:Nat,i < lG kd→x.q.getD i 0=(gt x.es (i:Int)).q:=fun i hi=>iK (by omega)
 refine aV (φ:=aI x.p (recs eR x.es)) (Hv.lsl hx) (aV (φ:=iN x k) (Hv.mem (List.mem_cons_of_mem _ hx)) ?_)
 refine aM Tryz.func187 rfl Tryz.ntmps187 rfl ?_
 rcases (show kd=0∨kd=1∨kd=2 by omega) with h0|h0|h0
 ·obtain rfl:kd=0:=h0
  have hl2:x.es.length=2:=hl
  have q0:=hq 0 (by decide)
  have q1:=hq 1 (by decide)
  repeat refine aB ?_
  (repeat refine aG ?_);refine pW (M0) (iN x k::aI x.p (recs eR x.es)::I0) [2,3,4,8,9,10,0,1,5,6,7,11,12,13] [5,5,5,5,5,5,0,0,2,0,0,0,0,0] mixed ?_
  repeat refine aB ?_
  refine fK rfl (hW1 _ _) (fun e0 he0=>?_)
  repeat refine aB ?_
  refine fK rfl (hW0 _ _) (fun e1 he1=>?_)
  repeat refine aB ?_
  (refine aD rfl (fun _=>dM (vals:=[rv e0,rv e1,rv (gt x.es 0)]) (cells:=recs eR [e0,e1,gt x.es 0]) rfl ?hpl rfl ?hz) rfl rfl ?_;(case hpl=>exact (by intro v hv;repeat (first|exact absurd hv (List.not_mem_nil)|(rcases List.mem_cons.1 hv with rfl|hv; · rfl))));(case hz=>rfl))
  repeat refine aB ?_
  refine fK rfl (hW0 _ _) (fun e2 he2=>?_)
  repeat refine aB ?_
  refine fK rfl (hW1 _ _) (fun e3 he3=>?_)
  repeat refine aB ?_
  (refine aD rfl (fun _=>dM (vals:=[rv e2,rv e3,rv (gt x.es 1)]) (cells:=recs eR [e2,e3,gt x.es 1]) rfl ?hpl rfl ?hz) rfl rfl ?_;(case hpl=>exact (by intro v hv;repeat (first|exact absurd hv (List.not_mem_nil)|(rcases List.mem_cons.1 hv with rfl|hv; · rfl))));(case hz=>rfl))
  repeat refine aB ?_
  (refine bD rfl (aEF (a:=⟨e0,e1,gt x.es 0⟩) (b:=⟨e2,e3,gt x.es 1⟩) (k:=k) (Hv.mkT (Hv.q (k:=0) aA (Nat.zero_le _)) (Hv.q (k:=0) aA (Nat.zero_le _)) (Hv.lel (r:=x) (k:=k) aA ⟨by omega,by omega⟩)) (Hv.mkT (Hv.q (k:=0) aA (Nat.zero_le _)) (Hv.q (k:=0) aA (Nat.zero_le _)) (Hv.lel (r:=x) (k:=k) aA ⟨by omega,by omega⟩))) ?_;rintro _ _ _ ⟨rfl,m,rfl,hm,dm,rfl⟩;refine aN ?_)
  repeat refine aB ?_
  refine fC (M':=M0) (I':=gI m k::I0) aF aC ?_
  refine aU (by first|exact .inl rfl|exact .inr rfl) rfl rfl _ _ aF aC (⟨rfl,m,rfl,by rw [hm,he0,he1,he2,he3];unfold zA;rw [if_pos rfl,q0,q1];rfl,dm,rfl⟩)
 ·obtain rfl:kd=1:=h0
  have hl2:x.es.length=4:=hl
  have q0:=hq 0 (by decide)
  have q1:=hq 1 (by decide)
  have q2:=hq 2 (by decide)
  have q3:=hq 3 (by decide)
  have hN:=fun M0 I0 h=>aJA (X:=X) (w0:=w0) (M0:=M0) (I0:=I0) (e:=gt x.es 1) (k:=k) (by omega) h
  repeat refine aB ?_
  (repeat refine aG ?_);refine pW (M0) (iN x k::aI x.p (recs eR x.es)::I0) [0,1,2,3,4,5,7,8,9,11,12,13,14,15,16,17,18,19,20,6,10,21,22] [2,2,2,2,2,1,2,2,2,2,2,2,2,2,2,2,2,2,1,0,0,0,0] mixed ?_
  repeat refine aB ?_
  (refine aD rfl (fun _=>dM (vals:=[rv (gt x.es 1),rv (gt x.es 0),rv (gt x.es 3)]) (cells:=recs eR [gt x.es 1,gt x.es 0,gt x.es 3]) rfl ?hpl rfl ?hz) rfl rfl ?_;(case hpl=>exact (by intro v hv;repeat (first|exact absurd hv (List.not_mem_nil)|(rcases List.mem_cons.1 hv with rfl|hv; · rfl))));(case hz=>rfl))
  repeat refine aB ?_
  refine fK rfl (hN _ _ (Hv.lel (r:=x) (k:=k) aA ⟨by omega,by omega⟩)) (fun e1 he1=>?_)
  repeat refine aB ?_
  (refine aD rfl (fun _=>dM (vals:=[rv (gt x.es 0),rv e1,rv (gt x.es 2)]) (cells:=recs eR [gt x.es 0,e1,gt x.es 2]) rfl ?hpl rfl ?hz) rfl rfl ?_;(case hpl=>exact (by intro v hv;repeat (first|exact absurd hv (List.not_mem_nil)|(rcases List.mem_cons.1 hv with rfl|hv; · rfl))));(case hz=>rfl))
  repeat refine aB ?_
  (refine bD rfl (aEF (a:=⟨gt x.es 0,e1,gt x.es 2⟩) (b:=⟨gt x.es 1,gt x.es 0,gt x.es 3⟩) (k:=k) (Hv.mkT (Hv.lel (r:=x) (k:=k) aA ⟨by omega,by omega⟩) (Hv.mem aA) (Hv.lel (r:=x) (k:=k) aA ⟨by omega,by omega⟩)) (Hv.mkT (Hv.lel (r:=x) (k:=k) aA ⟨by omega,by omega⟩) (Hv.lel (r:=x) (k:=k) aA ⟨by omega,by omega⟩) (Hv.lel (r:=x) (k:=k) aA ⟨by omega,by omega⟩))) ?_;rintro _ _ _ ⟨rfl,m,rfl,hm,dm,rfl⟩;refine aN ?_)
  repeat refine aB ?_
  refine fC (M':=M0) (I':=gI m k::I0) aF aC ?_
  refine aU (by first|exact .inl rfl|exact .inr rfl) rfl rfl _ _ aF aC (⟨rfl,m,rfl,by rw [hm,he1];unfold zA;rw [if_neg (by decide),if_pos rfl,q0,q1,q2,q3];rfl,dm,rfl⟩)
 ·obtain rfl:kd=2:=h0
  have hl2:x.es.length=6:=hl
  have q0:=hq 0 (by decide)
  have q1:=hq 1 (by decide)
  have q2:=hq 2 (by decide)
  have q3:=hq 3 (by decide)
  have q4:=hq 4 (by decide)
  have q5:=hq 5 (by decide)
  repeat refine aB ?_
  (repeat refine aG ?_);refine pW (M0) (iN x k::aI x.p (recs eR x.es)::I0) [0,1,2,3,4,5,6,7,8,9,10,11,12,13,14,15,16,17,18,19,20,21] [1,1,1,1,1,1,1,1,1,0,1,1,1,1,1,1,1,1,1,0,0,0] mixed ?_
  repeat refine aB ?_
  (refine aD rfl (fun _=>dM (vals:=[rv (gt x.es 0),rv (gt x.es 1),rv (gt x.es 2)]) (cells:=recs eR [gt x.es 0,gt x.es 1,gt x.es 2]) rfl ?hpl rfl ?hz) rfl rfl ?_;(case hpl=>exact (by intro v hv;repeat (first|exact absurd hv (List.not_mem_nil)|(rcases List.mem_cons.1 hv with rfl|hv; · rfl))));(case hz=>rfl))
  repeat refine aB ?_
  (refine aD rfl (fun _=>dM (vals:=[rv (gt x.es 3),rv (gt x.es 4),rv (gt x.es 5)]) (cells:=recs eR [gt x.es 3,gt x.es 4,gt x.es 5]) rfl ?hpl rfl ?hz) rfl rfl ?_;(case hpl=>exact (by intro v hv;repeat (first|exact absurd hv (List.not_mem_nil)|(rcases List.mem_cons.1 hv with rfl|hv; · rfl))));(case hz=>rfl))
  repeat refine aB ?_
  (refine bD rfl (aEF (a:=⟨gt x.es 0,gt x.es 1,gt x.es 2⟩) (b:=⟨gt x.es 3,gt x.es 4,gt x.es 5⟩) (k:=k) (Hv.mkT (Hv.lel (r:=x) (k:=k) aA ⟨by omega,by omega⟩) (Hv.lel (r:=x) (k:=k) aA ⟨by omega,by omega⟩) (Hv.lel (r:=x) (k:=k) aA ⟨by omega,by omega⟩)) (Hv.mkT (Hv.lel (r:=x) (k:=k) aA ⟨by omega,by omega⟩) (Hv.lel (r:=x) (k:=k) aA ⟨by omega,by omega⟩) (Hv.lel (r:=x) (k:=k) aA ⟨by omega,by omega⟩))) ?_;rintro _ _ _ ⟨rfl,m,rfl,hm,dm,rfl⟩;refine aN ?_)
  repeat refine aB ?_
  refine fC (M':=M0) (I':=gI m k::I0) aF aC ?_
  refine aU (by first|exact .inl rfl|exact .inr rfl) rfl rfl _ _ aF aC (⟨rfl,m,rfl,by rw [hm];unfold zA;rw [if_neg (by decide),if_neg (by decide),q0,q1,q2,q3,q4,q5];rfl,dm,rfl⟩)
end
abbrev kN:Nat:=4224
abbrev kX:Nat:=103842564
theorem kN_eq:kb kN 6=17302869:=by decide
def aFX (o:Option Mt) (k:Nat) (M0:List Ent) (I0:List aL) (v:Value) (M:List Ent) (I:List aL):Prop:=M0=M∧match o with
 |none=>I0=I∧∃u,v= .tuple #[u, .bool false]
 |some A=>∃m:MX,v= .tuple #[mv m, .bool true]∧m.q=A∧m.dim 3 3∧I=gI m k::I0
theorem aMX (kd:Nat):2≤lG kd∧lG kd≤6:=by unfold lG;split;omega;split <;>omega
section
variable {X:List Nat} {w0:World} {M0 M1:List Ent} {I0:List aL}
theorem aSN {kd:Nat} {q:Option Addr} {l:List Q4} {n c:Nat} (hk:kd≤2) (hl:l.length=n) (hn:n≤64) (hs:∀s∈l,s.near) (hq:aI q (recs gX l)∈I0):
  CD Tryz.prog 106 [.int .i64 (kd:Int), .slice q n c] X w0 M0 I0 (aFX (qQ kd l) kX M0 I0):=by
 have hDs:=fun M0 I0 h=>aSI (X:=X) (w0:=w0) (M0:=M0) (I0:=I0) (q:=q) (l:=l) (n:=n) (c:=c) hk hl hn hs h
 have hW0:=fun M0 I0=>jL (X:=X) (w0:=w0) (M0:=M0) (I0:=I0) (x:=0) (by decide) (k:=0) (by decide)
 refine aM Tryz.func106 rfl Tryz.ntmps106 rfl ?_
 by_cases h0:n=0
 ·have hl0:l=[]:=List.length_eq_zero_iff.1 (by omega)
  have e:qQ kd l=none:=by unfold qQ;rw [if_pos hl0]
  rw [e]
  repeat refine aB ?_
  refine gJ [4,5] (by first|exact .inl rfl|exact .inr rfl) rfl rfl rfl _ _ aF aC (⟨rfl,rfl,_,rfl⟩)
 have hl0:l≠[]:=fun e=>h0 (by rw [←hl,e];rfl)
 obtain ⟨C,hC⟩:∃C,lG kd=C:=⟨_,rfl⟩
 have hC6:=aMX kd
 rw [hC] at hC6
 have hDd:=aRG (k:=kd) (l:=l)
 rw [hl,hC] at hDd
 repeat refine aB ?_
 (refine bD rfl (hDs _ _ aA) ?_;rintro _ _ _ ⟨rfl,A,b,rfl,hA,hb,rfl⟩;refine aN ?_)
 have hAR:A.rows.length=2*n:=by have:=hDd.1;rw [←hA] at this;simpa [MX.q] using this
 have hAC:∀t:Nat,t < 2*n→(gt A.rows (t:Int)).es.length=C:=fun t ht=>by
  have:=hDd.2 t ht
  rw [←hA] at this
  have e:rowAt A.q t=(gt A.rows (t:Int)).q:=by
   have hlt:t < A.rows.length:=by omega
   rw [gtQ hlt];simp [rowAt,MX.q,List.getD,hlt]
  rw [e] at this
  simpa [RL.q,qs] using this
 have hbl:b.es.length=2*n:=by have:=congrArg List.length hb;rw [wD,hl] at this;simpa [RL.q,qs] using this
 have hat:∀t j:Nat,t < 2*n→j < C→at2 A.q t j=(gt (gt A.rows (t:Int)).es (j:Int)).q:=fun t j ht hj=>oQ (m:=A) (by omega) (by rw [hAC t ht];exact hj)
 have hbt:∀t:Nat,t < 2*n→b.q.getD t 0=(gt b.es (t:Int)).q:=fun t ht=>iK (by omega)
 have hc0:(gt A.rows 0).es.length=C:=hAC 0 (by omega)
 refine bQ (φ:=aI A.p (recs eL A.rows)) (Hv.xsl aA) ?_
 refine bQ (φ:=aI b.p (recs eR b.es)) (Hv.lsl aA) ?_
 repeat refine aB ?_
 rw [hc0]
 repeat refine aB ?_
 (refine jO (C) rfl rfl (by omega) (by omega) (by omega) (by omega) (rX (enc:=eH) (by decide) ⟨none,0,0⟩ C) rfl rfl ?_;intro bn;refine aN ?_)
 repeat refine aB ?_
 (refine jO (C) rfl rfl (by omega) (by omega) (by omega) (by omega) (rX (enc:=e4) (by decide) z4 C) rfl rfl ?_;intro br;refine aN ?_)
 repeat refine aB ?_
 refine bG (φ:=aP [] kN) Hv.nilR ?_
 refine bG (φ:=dX [] kN) Hv.nilL ?_
 refine rJ (M':= .blk br (recs e4 (List.replicate C z4)) 77:: .blk bn (recs eH (List.replicate C ⟨none,0,0⟩)) 70::M0) (I':=dX [] kN::aP [] kN::aI b.p (recs eR b.es)::aI A.p (recs eL A.rows)::iN b 16::gI A 16::I0) aF aC ?_
 refine lX [0,6,7,8,9,10,39] rfl (fun k G M I=>∃(i:Nat) (rows:List RL) (rs:List RE),i≤C∧k=C - i∧rows.length=i∧rows.map RL.q=(List.range i).map (fun a=>(List.range C).map (fun j=>sm (2*n) (fun t=>at2 A.q t a*at2 A.q t j)))∧(∀r∈rows,r.es.length=C)∧rs.length=i∧qs rs=(List.range i).map (fun a=>sm (2*n) (fun t=>at2 A.q t a*b.q.getD t 0))∧G=[(40, .int .i64 i)]∧M= .blk br (recs e4 (rs.map t4++List.replicate (C - i) z4)) 77:: .blk bn (recs eH (rows.map hdL++List.replicate (C - i) ⟨none,0,0⟩)) 70::M0∧I=dX rows kN::aP rs kN::aI b.p (recs eR b.es)::aI A.p (recs eL A.rows)::iN b 16::gI A 16::I0) (C) (⟨0,[],[],by omega,rfl,rfl,rfl,fun r hr=>by simp at hr,rfl,rfl,rfl,rfl,rfl⟩) ?_
 rintro kk G M I ⟨i,rows,rs,hi,rfl,hrl,hrq,hrc,hsl,hsq,rfl,rfl,rfl⟩
 by_cases hiC:i < C
 ·have hz:=uN (n:=C - i) (z:=(⟨none,0,0⟩:HD)) (by omega)
  have hz3:=uN (n:=C - i) (z:=z4) (by omega)
  repeat refine aB ?_
  (refine jO (C) rfl rfl (by omega) (by omega) (by omega) (by omega) (rX (enc:=e4) (by decide) z4 C) rfl rfl ?_;intro bi;refine aN ?_)
  rw [hz,hz3]
  have hlh0:((rows.map hdL++(⟨none,0,0⟩:HD)::List.replicate (C - i - 1) ⟨none,0,0⟩).length:Int)=C:=by simp;omega
  repeat refine yXh ?_
  refine nH rfl rfl rfl jJ (StAt.r1 (⟨some ⟨bi,0,none⟩,C,C⟩:HD) (by omega) rfl) rfl rfl ⟨okF,?_⟩
  rw [wS (by simp;omega)]
  obtain ⟨hs2,hhs⟩:∃hs2,hs2=rows.map hdL++(⟨some ⟨bi,0,none⟩,C,C⟩:HD)::List.replicate (C - i - 1) ⟨none,0,0⟩:=⟨_,rfl⟩
  rw [←hhs]
  have hgh:gt hs2 (i:Int)=⟨some ⟨bi,0,none⟩,C,C⟩:=by rw [hhs];exact xI (by simp;omega)
  have hlh:hs2.length=C:=by rw [hhs];simp;omega
  have hgp:(gt hs2 (i:Int)).p=some ⟨bi,0,none⟩:=by rw [hgh]
  have hgn:(gt hs2 (i:Int)).n=C:=by rw [hgh]
  have hgc:(gt hs2 (i:Int)).c=C:=by rw [hgh]
  obtain ⟨rz,hrz⟩:∃rz,rz=rs.map t4++z4::List.replicate (C - i - 1) z4:=⟨_,rfl⟩
  rw [←hrz]
  have hlrz:rz.length=C:=by rw [hrz];simp;omega
  repeat refine aB ?_
  refine bG (φ:=aP [] kN) Hv.nilR ?_
  refine rJ (M':= .blk bi (recs e4 (List.replicate C z4)) 77:: .blk br (recs e4 rz) 77:: .blk bn (recs eH hs2) 70::M0) (I':=aP [] kN::dX rows kN::aP rs kN::aI b.p (recs eR b.es)::aI A.p (recs eL A.rows)::iN b 16::gI A 16::I0) aF aC ?_
  refine lX [0,6,7,8,9,10,11,39,40,48] rfl (fun k G M I=>∃(j:Nat) (es:List RE),j≤C∧k=C - j∧es.length=j∧qs es=(List.range j).map (fun j=>sm (2*n) (fun t=>at2 A.q t i*at2 A.q t j))∧G=[(49, .int .i64 j)]∧M= .blk bi (recs e4 (es.map t4++List.replicate (C - j) z4)) 77:: .blk br (recs e4 rz) 77:: .blk bn (recs eH hs2) 70::M0∧I=aP es kN::dX rows kN::aP rs kN::aI b.p (recs eR b.es)::aI A.p (recs eL A.rows)::iN b 16::gI A 16::I0) (C) (⟨0,[],by omega,rfl,rfl,rfl,rfl,rfl,rfl⟩) ?_
  rintro kk G M I ⟨j,es,hj,rfl,hel,heq,rfl,rfl,rfl⟩
  by_cases hjC:j < C
  ·have hz2:=uN (n:=C - j) (z:=z4) (by omega)
   rw [hz2]
   have hl2:((es.map t4++z4::List.replicate (C - j - 1) z4).length:Int)=C:=by simp;omega
   repeat refine aB ?_
   (repeat refine aG ?_);refine aW 1 [0,1,2,3,4,5,6,7] [1,1,1,1,1,0,0,0] mixed (by kernel_rfl) ?_
   repeat refine aB ?_
   rw [hgp,hgn,hgc]
   repeat refine aB ?_
   refine fK rfl (hW0 _ _) (fun e he=>?_)
   repeat refine yXh ?_
   refine fJ (vs:=eR e) rfl rfl rfl (Ones.one e) jJ (StAts.r (t4 e) (by omega) rfl) rfl rfl ⟨okF,?_⟩
   rw [wS (by simp;omega)]
   repeat refine aB ?_
   refine rJ (M':= .blk bi (recs e4 (es.map t4++t4 e::List.replicate (C - j - 1) z4)) 77:: .blk br (recs e4 rz) 77:: .blk bn (recs eH hs2) 70::M0) (I':=bL e 0::aP es kN::dX rows kN::aP rs kN::aI b.p (recs eR b.es)::aI A.p (recs eL A.rows)::iN b 16::gI A 16::I0) aF aC ?_
   refine lX [0,6,7,8,9,10,11,12,39,40,48,49,59,60] rfl (fun k G M I=>∃(t:Nat) (e:RE),t≤2*n∧k=2*n - t∧e.q=sm t (fun r=>at2 A.q r i*at2 A.q r j)∧G=[(61, .int .i64 t)]∧M= .blk bi (recs e4 (es.map t4++t4 e::List.replicate (C - j - 1) z4)) 77:: .blk br (recs e4 rz) 77:: .blk bn (recs eH hs2) 70::M0∧I=bL e (t*33)::aP es kN::dX rows kN::aP rs kN::aI b.p (recs eR b.es)::aI A.p (recs eL A.rows)::iN b 16::gI A 16::I0) (2*n) (⟨0,e,by omega,rfl,he,rfl,rfl,rfl⟩) ?_
   rintro kk G M I ⟨t,e,ht,rfl,he,rfl,rfl,rfl⟩
   have hl3:((es.map t4++t4 e::List.replicate (C - j - 1) z4).length:Int)=C:=by simp;omega
   by_cases htn:t < 2*n
   ·have hcl:=hAC t htn
    have hM:=fun M0 I0 h1 h2=>tK (X:=X) (w0:=w0) (M0:=M0) (I0:=I0) (a:=gt (gt A.rows (t:Int)).es (i:Int)) (b:=gt (gt A.rows (t:Int)).es (j:Int)) (k:=16) (m:=16) (by omega) h1 h2
    have hP:=fun f M0 I0 h1 h2=>vP (X:=X) (w0:=w0) (M0:=M0) (I0:=I0) (a:=e) (b:=f) (k:=t*33) (m:=32) (by omega) h1 h2
    refine bG (φ:=aI (gt A.rows (t:Int)).p (recs eR (gt A.rows (t:Int)).es)) (Hv.xrsl (m:=A) (k:=16) aA (by omega)) ?_
    repeat refine aB ?_
    (repeat refine aG ?_);refine aW 2 [0,1,2,3,4,5,6,7,8,9,10,11,12,13,14,15,16,17,18,19,20,21,22,23] [2,2,2,2,2,2,2,2,2,2,2,1,2,2,2,1,2,2,2,1,0,0,0,0] mixed (by kernel_rfl) ?_
    repeat refine aB ?_
    rw [hgp,hgn,hgc]
    repeat refine aB ?_
    rw [xI (by simp;omega)]
    refine fK rfl (hM _ _ (Hv.xel (m:=A) (k:=16) aA (by omega) (by omega)) (Hv.xel (m:=A) (k:=16) aA (by omega) (by omega))) (fun f hf=>?_)
    refine fK rfl (hP f _ _ (Hv.mem aA) (Hv.mem aA)) (fun e2 he2=>?_)
    repeat refine yXh ?_
    refine fJ (vs:=eR e2) rfl rfl rfl (Ones.one e2) jJ (StAts.r (t4 e2) (by omega) rfl) rfl rfl ⟨okF,?_⟩
    rw [wS (by simp;omega)]
    repeat refine aB ?_
    have e33:t*33+32+1=(t+1)*33:=by omega
    rw [e33]
    refine gL (2*n - (t+1)) (⟨t+1,e2,by omega,rfl,by rw [he2,hf,he,←hat t i htn hiC,←hat t j htn hjC];rfl,rfl,rfl,rfl⟩)
   ·obtain rfl:t=2*n:=by omega
    repeat refine aB ?_
    refine dF (φ:=bL e kN) (Hv.q (k:=2*n*33) aA (by show 2*n*33≤4224;omega)) ?_
    refine dF (φ:=aP (es++[e]) kN) (Hv.snoc aA aA) ?_
    have e9:es.map t4++t4 e::List.replicate (C - j - 1) z4=(es++[e]).map t4++List.replicate (C - (j+1)) z4:=by simp [Nat.sub_sub]
    rw [e9]
    refine gL (C - (j+1)) (⟨j+1,es++[e],by omega,rfl,by simp;omega,by rw [List.range_succ,List.map_append,←heq];show (es++[e]).map RE.q=_;rw [List.map_append];show _++[e.q]=_;rw [he];rfl,rfl,rfl,rfl⟩)
  ·obtain rfl:j=C:=by omega
   rw [Nat.sub_self,List.replicate_zero,List.append_nil,aIE]
   refine aRE (k:=kN) aA ?_
   rw [hel]
   have hl4:((rs.map t4++z4::List.replicate (j - i - 1) z4).length:Int)=j:=by simp;omega
   rw [hrz]
   repeat refine aB ?_
   refine fK rfl (hW0 _ _) (fun e he=>?_)
   repeat refine yXh ?_
   refine fJ (vs:=eR e) rfl rfl rfl (Ones.one e) jJ (StAts.r (t4 e) (by omega) rfl) rfl rfl ⟨okF,?_⟩
   rw [wS (by simp;omega)]
   repeat refine aB ?_
   refine rJ (M':= .blk br (recs e4 (rs.map t4++t4 e::List.replicate (j - i - 1) z4)) 77:: .blk bn (recs eH hs2) 70::M0) (I':=bL e 0::iN ⟨some ⟨bi,0,none⟩,j,es⟩ kN::dX rows kN::aP rs kN::aI b.p (recs eR b.es)::aI A.p (recs eL A.rows)::iN b 16::gI A 16::I0) aF aC ?_
   refine lX [0,6,7,8,9,10,11,39,40,94,95] rfl (fun k G M I=>∃(t:Nat) (e:RE),t≤2*n∧k=2*n - t∧e.q=sm t (fun r=>at2 A.q r i*b.q.getD r 0)∧G=[(96, .int .i64 t)]∧M= .blk br (recs e4 (rs.map t4++t4 e::List.replicate (j - i - 1) z4)) 77:: .blk bn (recs eH hs2) 70::M0∧I=bL e (t*33)::iN ⟨some ⟨bi,0,none⟩,j,es⟩ kN::dX rows kN::aP rs kN::aI b.p (recs eR b.es)::aI A.p (recs eL A.rows)::iN b 16::gI A 16::I0) (2*n) (⟨0,e,by omega,rfl,he,rfl,rfl,rfl⟩) ?_
   rintro kk G M I ⟨t,e,ht,rfl,he,rfl,rfl,rfl⟩
   have hl3:((rs.map t4++t4 e::List.replicate (j - i - 1) z4).length:Int)=j:=by simp;omega
   by_cases htn:t < 2*n
   ·have hcl:=hAC t htn
    have hM:=fun M0 I0 h1 h2=>tK (X:=X) (w0:=w0) (M0:=M0) (I0:=I0) (a:=gt (gt A.rows (t:Int)).es (i:Int)) (b:=gt b.es (t:Int)) (k:=16) (m:=16) (by omega) h1 h2
    have hP:=fun f M0 I0 h1 h2=>vP (X:=X) (w0:=w0) (M0:=M0) (I0:=I0) (a:=e) (b:=f) (k:=t*33) (m:=32) (by omega) h1 h2
    refine bG (φ:=aI (gt A.rows (t:Int)).p (recs eR (gt A.rows (t:Int)).es)) (Hv.xrsl (m:=A) (k:=16) aA (by omega)) ?_
    repeat refine aB ?_
    (repeat refine aG ?_);refine aW 2 [0,1,2,3,4,5,6,7,8,9,10,11,12,13,14,15,16,17] [2,2,2,2,2,1,2,2,2,1,2,2,2,1,0,0,0,0] mixed (by kernel_rfl) ?_
    repeat refine aB ?_
    rw [xI (by simp;omega)]
    refine fK rfl (hM _ _ (Hv.xel (m:=A) (k:=16) aA (by omega) (by omega)) (Hv.lel (r:=b) (k:=16) aA (by omega))) (fun f hf=>?_)
    refine fK rfl (hP f _ _ (Hv.mem aA) (Hv.mem aA)) (fun e2 he2=>?_)
    repeat refine yXh ?_
    refine fJ (vs:=eR e2) rfl rfl rfl (Ones.one e2) jJ (StAts.r (t4 e2) (by omega) rfl) rfl rfl ⟨okF,?_⟩
    rw [wS (by simp;omega)]
    repeat refine aB ?_
    have e33:t*33+32+1=(t+1)*33:=by omega
    rw [e33]
    refine gL (2*n - (t+1)) (⟨t+1,e2,by omega,rfl,by rw [he2,hf,he,←hat t i htn hiC,←hbt t htn];rfl,rfl,rfl,rfl⟩)
   ·obtain rfl:t=2*n:=by omega
    repeat refine aB ?_
    refine dF (φ:=bL e kN) (Hv.q (k:=2*n*33) aA (by show 2*n*33≤4224;omega)) ?_
    refine dF (φ:=aP (rs++[e]) kN) (Hv.snoc aA aA) ?_
    refine dF (φ:=dX (rows++[(⟨some ⟨bi,0,none⟩,j,es⟩:RL)]) kN) (Hv.snocL aA aA) ?_
    have e9:rs.map t4++t4 e::List.replicate (j - i - 1) z4=(rs++[e]).map t4++List.replicate (j - (i+1)) z4:=by simp [Nat.sub_sub]
    have e8:hs2=(rows++[(⟨some ⟨bi,0,none⟩,j,es⟩:RL)]).map hdL++List.replicate (j - (i+1)) ⟨none,0,0⟩:=by rw [hhs];simp [hel,Nat.sub_sub]
    rw [e9,e8]
    refine gL (j - (i+1)) (⟨i+1,rows++[(⟨some ⟨bi,0,none⟩,j,es⟩:RL)],rs++[e],by omega,rfl,by simp;omega,by rw [List.range_succ,List.map_append,List.map_append,←hrq];show _++[qs es]=_;rw [heq];rfl,fun r hr=>by rcases List.mem_append.1 hr with h|h;exact hrc r h;rw [List.mem_singleton.1 h];exact hel,by simp;omega,by rw [List.range_succ,List.map_append,←hsq];show (rs++[e]).map RE.q=_;rw [List.map_append];show _++[e.q]=_;rw [he];rfl,rfl,rfl,rfl⟩)
 ·obtain rfl:i=C:=by omega
  rw [Nat.sub_self,List.replicate_zero,List.append_nil,aIE,List.replicate_zero,List.append_nil,aVF]
  refine aRE (k:=kN) aA ?_
  rw [hsl]
  refine zT (C:=i) (k:=kN) hrl (by omega) aA ?_
  obtain ⟨Nm,hNm⟩:∃z:MX,z=⟨some ⟨bn,0,none⟩,i,rows⟩:=⟨_,rfl⟩
  obtain ⟨Rv,hRv⟩:∃z:RL,z=⟨some ⟨br,0,none⟩,i,rs⟩:=⟨_,rfl⟩
  have dN:Nm.fit i i:=by rw [hNm];exact ⟨⟨hrl,hrc⟩,⟨by omega,by omega⟩,by omega,by omega⟩
  have qN:Nm.q=nrN (2*n) i (sP kd l):=by rw [hNm,←hA];exact hrq
  have lR:Rv.es.length=i:=by rw [hRv];exact hsl
  have qR:Rv.q=nrB (2*n) i (sP kd l) (zV kd l):=by rw [hRv,←hA,←hb];exact hsq
  have kb6:kb kN i≤17302869:=by rw [←kN_eq];exact tL kN hC6.2
  have hIv:=fun M0 I0 h=>aIG (X:=X) (w0:=w0) (M0:=M0) (I0:=I0) (a:=Nm) (n:=i) (k0:=kN) (by omega) (by decide) dN h
  have eD:aCV kd l=dt i (at2 Nm.q):=by unfold aCV;rw [hC,hl,qN]
  have hmv:(Value.slice (some ⟨bn,0,none⟩) i i)=mv Nm:=by rw [hNm];show _=Value.slice (some ⟨bn,0,none⟩) rows.length i;rw [hrl]
  have hlv:(Value.slice (some ⟨br,0,none⟩) i i)=lv Rv:=by rw [hRv];show _=Value.slice (some ⟨br,0,none⟩) rs.length i;rw [hsl]
  rw [←hNm,←hRv]
  by_cases hd:aCV kd l=0
  ·have e:qQ kd l=none:=by unfold qQ;rw [if_neg hl0,if_pos hd]
   rw [e]
   rw [eD] at hd
   simp only [if_pos hd] at hIv
   repeat refine aB ?_
   rw [hmv]
   (refine bD rfl (hIv _ _ aA) ?_;rintro _ _ _ ⟨rfl,rfl,rfl⟩;refine aN ?_)
   repeat refine aB ?_
   refine fC (M':=M0) (I':=I0) aF aC ?_
   refine gJ [4,5] (by first|exact .inl rfl|exact .inr rfl) rfl rfl rfl _ _ aF aC (⟨rfl,rfl,_,rfl⟩)
  ·have hd':=hd
   rw [eD] at hd'
   simp only [if_neg hd'] at hIv
   repeat refine aB ?_
   rw [hmv]
   (refine bD rfl (hIv _ _ aA) ?_;rintro _ _ _ ⟨rfl,Iv,rfl,hIq,hId,rfl⟩;refine aN ?_)
   have fI:Iv.fit i i:=⟨hId,⟨by omega,by omega⟩,by omega,by omega⟩
   refine bQ (φ:=gI Iv 17302869) (Hv.xm (k:=kb kN i) aA kb6) ?_
   have hAp:=fun M0 I0 h1 h2=>aSC (X:=X) (w0:=w0) (M0:=M0) (I0:=I0) (a:=Iv) (x:=Rv) (R:=i) (C:=i) (k:=17302869) (m:=kN) (by decide) (by decide) fI lR h1 h2
   repeat refine aB ?_
   rw [hlv]
   (refine bD rfl (hAp _ _ aA aA) ?_;rintro _ _ _ ⟨rfl,xx,rfl,hxq,rfl⟩;refine aN ?_)
   have hxe:xx.q=rG kd l:=by
    rw [hxq]
    unfold rG lsX
    rw [hC,hl,hIq,qN,qR]
   have lx:xx.es.length=lG kd:=by have:=congrArg List.length hxq;rw [hC];simpa [RL.q,qs] using this
   refine bQ (φ:=iN xx kX) (Hv.lm (k:=i*(17302869+kN+1)) aA (by
    have:i*(17302869+kN+1)≤6*(17302869+kN+1):=Nat.mul_le_mul_right _ hC6.2
    exact Nat.le_trans this (by decide))) ?_
   repeat refine aB ?_
   (refine bD rfl (aRV (kd:=kd) (k:=kX) (x:=xx) hk (by decide) lx aA) ?_;rintro _ _ _ ⟨rfl,mm,rfl,hmq,hmd,rfl⟩;refine aN ?_)
   have fm:mm.fit 3 3:=⟨hmd,⟨by omega,by omega⟩,by omega,by omega⟩
   rw [hxe] at hmq
   have hRg:=fun M0 I0 h=>aLM (X:=X) (w0:=w0) (M0:=M0) (I0:=I0) (a:=mm) (k:=kX) (by decide) (by decide) fm h
   rw [hmq] at hRg
   by_cases hr:dt 3 (at2 (zA kd (rG kd l)))=0
   ·have e:qQ kd l=none:=by unfold qQ;rw [if_neg hl0,if_neg hd,if_pos hr]
    rw [e]
    rw [bH (show ¬dt 3 (at2 (zA kd (rG kd l)))≠0 from fun h=>h hr)] at hRg
    repeat refine aB ?_
    refine dH rfl (hRg _ _ aA) ?_
    repeat refine aB ?_
    refine fC (M':=M0) (I':=I0) aF aC ?_
    refine gJ [4,5] (by first|exact .inl rfl|exact .inr rfl) rfl rfl rfl _ _ aF aC (⟨rfl,rfl,_,rfl⟩)
   ·have e:qQ kd l=some (zA kd (rG kd l)):=by unfold qQ;rw [if_neg hl0,if_neg hd,if_neg hr]
    rw [e]
    rw [bK (show dt 3 (at2 (zA kd (rG kd l)))≠0 from hr)] at hRg
    repeat refine aB ?_
    refine dH rfl (hRg _ _ aA) ?_
    repeat refine aB ?_
    refine fC (M':=M0) (I':=gI mm kX::I0) aF aC ?_
    refine tyS [4,5] rfl rfl (⟨rfl,mm,rfl,hmq,hmd,rfl⟩)
end
end Go.Proofs.YtmmmfphealhapaaGreat
namespace Go.Fx
section
variable {P:Program} {n:Nat} {ops:List Oper} {Q:Exit→Act→World→Prop} {m:Mode} {G:Env} {w:World} {ty:TypeId} {pos:String} {af:Array Edge} {g:Option (Nat × Bool)} {l:List Oper} {X:List Nat} {w0:World} {M M':List Ent} {I:List aL}
theorem aUE {t e:TypeId} {sz sz' by_:Nat} {z:List Value} {lo co:Operand} {k k':IntKind} {mm:Nat} [ht:SliceTy P t e sz'] [hz:ElemTy P e sz by_ z]
  (hl:ev G lo=some (.int k 0)) (hc:ev G co=some (.int k' (mm:Int))) (hb:(by_:Int)*(mm:Int)≤281474976710656) (hm:(mm:Int)≤9223372036854775807):
  Eff P n G (.makeSlice t lo co) ty w (fun v w'=>∃b,b=w.heap.size∧v= .slice (some ⟨b,0,none⟩) 0 mm∧w'.ownsRow 0 e sz (.slice (some ⟨b,0,none⟩) 0 mm) 0 []∧Ext [] w w'∧b < w'.heap.size):=by
 refine ⟨?_⟩
 intro a ha dst pos after guard
 obtain ⟨i,v,hi,hs,hby,hzv,hcl⟩:=sZ hz
 have hr:=run_make (P:=P) w t e i v ht.und hi hzv k k' 0 mm (by omega) (by omega) (by rw [hby];exact hb) hm
 refine sG (v:= .slice (some ⟨w.heap.size,0,none⟩) 0 mm) (w':=w.alloc (.cells (madeCells z.toArray (mm*sz)) e)) ?_ ⟨_,⟨_,rfl,rfl,⟨by simp, .inr ⟨w.heap.size,mm,madeCells z.toArray (mm*sz),rfl,Nat.zero_le _,heap_alloc_new w _,Nat.zero_le _,by show mm≤9223372036854775807;omega,size_madeCells _ _,by simp⟩⟩,Ext.alloc _ _ _,by simp⟩,rfl⟩
 simp only [Int.toNat_natCast,hs,hcl] at hr
 simp [execOp,ha.ev hl,ha.ev hc,hr]
theorem aZN {d:Nat} {t e:TypeId} {sz sz' by_:Nat} {z:List Value} {lo co:Operand} {k1 k2:IntKind} (mm:Nat) {x2:Int} [SliceTy P t e sz'] [ElemTy P e sz by_ z]
  (hl:ev G lo=some (.int k1 0)) (hc:ev G co=some (.int k2 x2)) (e2:x2=mm) (hb:(by_:Int)*(mm:Int)≤281474976710656) (hm:(mm:Int)≤9223372036854775807) (hg:nZ ops G g=some true) (hd:Nat.ble (d+1) n=true)
  (k:∀b,OkD m X w0 (.row (some ⟨b,0,none⟩) 0 mm [] e sz::M) I∧RD P n ops Q m.nextE l ((d, .slice (some ⟨b,0,none⟩) 0 mm)::G) X w0 (.row (some ⟨b,0,none⟩) 0 mm [] e sz::M) I):
  RD P n ops Q m (⟨some d, .makeSlice t lo co,ty,pos,af,g⟩::l) G X w0 M I:=by
 subst e2
 exact aAX (d:=some d) (K:=fun v' M' I'=>∃b,v'= .slice (some ⟨b,0,none⟩) 0 mm∧M'= .row (some ⟨b,0,none⟩) 0 mm [] e sz::M∧I'=I) hg
  (fun w hw=>(aUE (mm:=mm) hl hc hb hm).mono (fun _ w' ⟨b,hb,hp,hB,hE,_⟩=>⟨_,_,⟨b,hp,rfl,rfl⟩,hw.push hE (by simp [Ent.blocks,hb]) (by simp [Ent.blocks]) hB⟩)) rfl hd
  (fun _ _ _ ⟨b,hp,hM,hI⟩=>by subst hp;subst hM;subst hI;exact k b)
end
end Go.Fx
namespace Go.Fx
section
variable {P:Program} {n:Nat} {ops:List Oper} {Q:Exit→Act→World→Prop} {m:Mode} {G:Env} {l:List Oper} {X:List Nat} {w0:World} {M M':List Ent} {I:List aL}
theorem bCG {w:World} {base:Nat} {e:TypeId} {sz mm m' c:Nat} {a:Option Addr} {xs:List Value} (h:w.ownsRow base e sz (.slice a mm c) mm xs) (hle:m'≤mm):w.ownsRow base e sz (.slice a m' c) m' (xs.take (m'*sz)):=by
 obtain ⟨h1,h2⟩:=h
 have h3:m'*sz≤mm*sz:=Nat.mul_le_mul_right _ hle
 refine ⟨by rw [List.length_take,h1,Nat.min_eq_left h3],?_⟩
 rcases h2 with ⟨hv,h0⟩|⟨g,cap,cur,hv,hb,hc,hn,hm,hs,ht⟩
 ·subst h0
  obtain rfl:m'=0:=by omega
  exact .inl ⟨hv,rfl⟩
 ·injection hv with e1 e2 e3
  subst e1;subst e3
  exact .inr ⟨g,c,cur,rfl,hb,hc,by omega,hm,hs,by rw [←ht,List.take_take,Nat.min_eq_left h3]⟩
theorem Mem.pop {w:World} {a:Option Addr} {mm m' c:Nat} {cs:List Value} {e:TypeId} {sz:Nat} (h:Mem X w0 M I w) (hr:Rep (.row a mm c cs e sz) (.row a m' c (cs.take (m'*sz)) e sz) M M') (hle:m'≤mm):Mem X w0 M' I w:=by
 have ho:w.ownsRow 0 e sz (.slice a mm c) mm cs:=h.ent _ hr.mem
 have hbl:(Ent.row a m' c (cs.take (m'*sz)) e sz).blocks=(Ent.row a mm c cs e sz).blocks:=by cases a <;>rfl
 exact h.upd hr (Ext.refl _ _) (fun b hb=> .inl (hbl ▸ hb)) (by cases a <;>simp [Ent.blocks]) (bCG ho hle)
theorem bEG {ex:Exit} {a:Option Addr} {mm m' c:Nat} {cs:List Value} {e:TypeId} {sz:Nat} (hr:Rep (.row a mm c cs e sz) (.row a m' c (cs.take (m'*sz)) e sz) M M') (hle:m'≤mm) (h:ND n Q ex G X w0 M' I):ND n Q ex G X w0 M I:=yO (fun _ hw=>hw.pop hr hle) h
theorem Mem.rowA {w:World} {a:Option Addr} {mm c:Nat} {cs:List Value} {e:TypeId} {sz:Nat} (h:Mem X w0 M I w) (hm: .row a mm c cs e sz∈M) (h0:0 < mm):∃b,a=some ⟨b,0,none⟩∧mm≤c:=by
 have ho:w.ownsRow 0 e sz (.slice a mm c) mm cs:=h.ent _ hm
 rcases ho.2 with ⟨_,h1⟩|⟨g,cap,cur,hv,_,_,hn,_⟩
 ·omega
 ·injection hv with e1 e2 e3
  exact ⟨g,e1,by omega⟩
end
end Go.Fx
namespace Go.Proofs.YtmmmfphealhapaaGreat
open Go Go.Fx
instance Q4.ones:Ones gX:=⟨fun m u hu=>by simp [gX] at hu;rcases hu with rfl|rfl|rfl|rfl <;>rfl⟩
theorem wE {l:List Q4} {smp:List Int} {z:Int}:bM l (smp++[z])=bM l smp++[gt l z]:=by simp [bM]
theorem oC {l:List Q4} {smp:List Int}:(bM l smp).length=smp.length:=by simp [bM]
theorem zG {l:List Q4} {smp:List Int} (hs:∀s∈l,s.near) (hin:∀x∈smp,0≤x∧x < l.length):∀s∈bM l smp,s.near:=fun s h=>by
 obtain ⟨z,hz,rfl⟩:=List.mem_map.1 h
 exact hs _ (bF (hin z hz))
section
variable {X:List Nat} {w0:World} {M0 M1:List Ent} {I0:List aL}
theorem aEV {kd:Nat} {q qs:Option Addr} {l:List Q4} {smp:List Int} {n c ns cs:Nat} (hk:kd≤2) (hl:l.length=n) (hn:n≤64) (hs:∀s∈l,s.near) (hsl:smp.length=ns) (hns:ns≤64) (hin:∀x∈smp,0≤x∧x < n) (hq:aI q (recs gX l)∈I0):
  CD Tryz.prog 44 [.int .i64 (kd:Int), .slice q n c, .slice qs ns cs] X w0 (.row qs ns cs (recs eZ smp) 3 1::M0) I0 (aFX (qQ kd (bM l smp)) kX (.row qs ns cs (recs eZ smp) 3 1::M0) I0):=by
 refine aV (φ:=aI q (recs gX l)) (Hv.mem hq) ?_
 refine iC Tryz.func44 rfl Tryz.ntmps44 rfl ?_
 repeat refine aB ?_
 refine gZ 30 4 ?_
 refine lX [0,1,19,20] rfl (fun k G M I=>∃(i:Nat) (ps:List Q4) (qe:Option Addr) (ce:Nat),i≤ns∧k=ns - i∧ps=bM l (smp.take i)∧G=[(8, .slice qe ps.length ce),(21, .int .i64 i)]∧M= .row qe ps.length ce (recs gX ps) 30 4:: .row qs ns cs (recs eZ smp) 3 1::M0∧I=aI q (recs gX l)::I0) (ns) (⟨0,[],none,0,by omega,rfl,rfl,rfl,rfl,rfl⟩) ?_
 rintro kk G M I ⟨i,ps,qe,ce,hi,rfl,hps,rfl,rfl,rfl⟩
 have hpl:ps.length=i:=by rw [hps,oC,List.length_take];omega
 by_cases hin2:i < ns
 ·have hz:=hin _ (bF (ms:=smp) (i:=(i:Int)) (by omega))
  have ht:smp.take (i+1)=smp.take i++[gt smp (i:Int)]:=by rw [gtQ (by omega)];exact (List.take_append_getElem (by omega)).symm
  repeat refine aB ?_
  refine gK (cs:=recs gX [gt l (gt smp (i:Int))]) ([vQ4 (gt l (gt smp (i:Int)))]) rfl (fun b=>?_)
  refine wM (ys:=[gt l (gt smp (i:Int))]) 1 rfl rfl rfl (fun q2 c2=>?_)
  repeat refine aB ?_
  refine gL (ns - (i+1)) (⟨i+1,ps++[gt l (gt smp (i:Int))],q2,c2,by omega,rfl,by rw [ht,wE,←hps],rfl,rfl,rfl⟩)
 ·obtain rfl:i=ns:=by omega
  rw [←hsl,List.take_length] at hps
  have hnr:=zG hs (by rw [hl];exact hin)
  rw [←hps] at hnr ⊢
  have hF:=fun M0 I0 h=>aSN (X:=X) (w0:=w0) (M0:=M0) (I0:=I0) (kd:=kd) (q:=qe) (l:=ps) (n:=ps.length) (c:=ce) hk rfl (by omega) hnr h
  repeat refine aB ?_
  refine fD .here ?_
  cases hf:qQ kd ps with
  |none=>
   rw [hf] at hF
   (refine bD rfl (hF _ _ aA) ?_;rintro _ _ _ ⟨rfl,rfl,u,rfl⟩;refine aN ?_)
   repeat refine aB ?_
   refine fC (M':= .row qs i cs (recs eZ smp) 3 1::M0) (I':=I0) aF aC ?_
   refine tyS [6,7] rfl rfl (⟨rfl,rfl,u,rfl⟩)
  |some A=>
   rw [hf] at hF
   (refine bD rfl (hF _ _ aA) ?_;rintro _ _ _ ⟨rfl,m,rfl,hmq,hmd,rfl⟩;refine aN ?_)
   repeat refine aB ?_
   refine fC (M':= .row qs i cs (recs eZ smp) 3 1::M0) (I':=gI m kX::I0) aF aC ?_
   refine tyS [6,7] rfl rfl (⟨rfl,m,rfl,hmq,hmd,rfl⟩)
end
structure PreP (n a:Nat) (pre:List Int):Prop where
 lt:∀x∈pre,0≤x∧x < n∧x < a
 asc:pre.Pairwise (· < ·)
theorem PreP.snoc {n a i:Nat} {pre:List Int} (h:PreP n a pre) (hai:a≤i) (hi:i < n):PreP n (i+1) (pre++[(i:Int)]):=by
 refine ⟨fun x hx=>?_,List.pairwise_append.2 ⟨h.asc,List.pairwise_singleton _ _,fun x hx y hy=>?_⟩⟩
 ·rcases List.mem_append.1 hx with hx|hx
  ·have:=h.lt x hx;omega
  ·rw [List.mem_singleton.1 hx];omega
 ·rw [List.mem_singleton.1 hy]
  have:=h.lt x hx;omega
theorem PreP.smp {n a:Nat} {pre:List Int} (h:PreP n a pre):SmpP n pre.length 0 pre:=⟨rfl,fun x hx=>by have:=h.lt x hx;omega,h.asc⟩
theorem aQR {vis:List (List Int)} {n k a m:Nat} {pre:List Int}:
  (vis++(yV n k a m).map (fun l=>pre++l))++(cmb n k (a+m+1)).map (fun l=>(pre++[((a+m:Nat):Int)])++l)=vis++(yV n k a (m+1)).map (fun l=>pre++l):=by
 rw [aHC,List.map_append,List.map_map,List.append_assoc]
 congr 2
 refine List.map_congr_left (fun l _=>?_)
 simp
section
variable {σ:Type} (en:σ→Ent) (im:σ→aL) [∀s,Fx.Good (im s)] (R:List (List Int)→σ→Prop)
variable {X:List Nat} {w0:World} {M0 M1:List Ent} {I0:List aL}
set_option linter.unusedSectionVars false in
theorem bDA {n size b6 b4 b5 b3 b7:Nat} {g:FuncId} [FnOk Tryz.prog g] {fs cs:Array Value} (hn:n≤64) (hsz:size≤8)
  (f4:aI (some ⟨b4,0,none⟩) [.int .i64 (size:Int)]∈I0) (f3:aI (some ⟨b3,0,none⟩) [.int .i64 (n:Int)]∈I0) (f5:aI (some ⟨b5,0,none⟩) [.func (.func g) fs cs]∈I0)
  (f7:aI (some ⟨b7,0,none⟩) [.func (.func 105) #[] #[.pointer (some ⟨b6,0,none⟩), .pointer (some ⟨b4,0,none⟩), .pointer (some ⟨b5,0,none⟩), .pointer (some ⟨b3,0,none⟩), .pointer (some ⟨b7,0,none⟩)]]∈I0)
  (hV:∀(vis:List (List Int)) (s:σ) (l:List Int) (q:Option Addr) (c:Nat) (M2:List Ent),R vis s→SmpP n size 0 l→CD Tryz.prog g (fs.toList++[.slice q size c]++cs.toList) X w0 (.row q size c (recs eZ l) 3 1::en s::M2) (im s::I0)
   (fun _ M I=>∃s',R (vis++[l]) s'∧M= .row q size c (recs eZ l) 3 1::en s'::M2∧I=im s'::I0)):
  ∀(k a:Nat) (ai:Int) (pre:List Int) (vis:List (List Int)) (s:σ) (q:Option Addr) (c pl:Nat),ai=(a:Int)→pl=pre.length→pl+k=size→a≤n→PreP n a pre→R vis s→
   CD Tryz.prog 105 [.int .i64 ai, .pointer (some ⟨b6,0,none⟩), .pointer (some ⟨b4,0,none⟩), .pointer (some ⟨b5,0,none⟩), .pointer (some ⟨b3,0,none⟩), .pointer (some ⟨b7,0,none⟩)] X w0
    (.blk b6 [.slice q pl c] 31:: .row q pl c (recs eZ pre) 3 1::en s::M1) (im s::I0)
    (fun _ M I=>∃(s':σ) (q':Option Addr) (c':Nat),R (vis++(cmb n k a).map (fun l=>pre++l)) s'∧M= .blk b6 [.slice q' pl c'] 31:: .row q' pl c' (recs eZ pre) 3 1::en s'::M1∧I=im s'::I0):=by
 intro k
 induction k with
 |zero=>
  intro a ai pre vis s q c pl hai hpl hk han hp hR
  have hpz:pl=size:=by omega
  have hsm:SmpP n size 0 pre:=by rw [←hpz,hpl];exact hp.smp
  have hVs:=fun M2=>hV vis s pre q c M2 hR hsm
  rw [←hpz] at hVs f4
  have hfin:vis++[pre]=vis++(cmb n 0 a).map (fun l=>pre++l):=by simp [cmb]
  refine xZ Tryz.func105 rfl Tryz.ntmps105 rfl ?_
  repeat refine aB ?_
  refine wO (M':= .row q pl c (recs eZ pre) 3 1::en s:: .blk b6 [.slice q pl c] 31::M1) (I':=im s::I0) aF aC ?_
  (refine dJ rfl rfl (hVs _) rfl rfl rfl ?_;rintro _ _ _ ⟨s2,hR2,rfl,rfl⟩;refine aN ?_)
  repeat refine aB ?_
  refine fC (M':= .blk b6 [.slice q pl c] 31:: .row q pl c (recs eZ pre) 3 1::en s2::M1) (I':=im s2::I0) aF aC ?_
  refine jH (by first|exact .inl rfl|exact .inr rfl) rfl _ _ aF aC (⟨s2,q,c,by rw [←hfin];exact hR2,rfl,rfl⟩)
 |succ k0 ih=>
  intro a ai pre vis s q c pl hai hpl hk han hp hR
  subst hai
  subst hpl
  refine xZ Tryz.func105 rfl Tryz.ntmps105 rfl ?_
  repeat refine aB ?_
  refine lX [1,2,4,5] rfl (fun k G M I=>∃(m:Nat) (i:Int) (s:σ) (q:Option Addr) (c:Nat),m≤n - a∧i=((a+m:Nat):Int)∧k=n - a - m∧R (vis++(yV n k0 a m).map (fun l=>pre++l)) s∧G=[(7, .int .i64 i)]∧M= .blk b6 [.slice q pre.length c] 31:: .row q pre.length c (recs eZ pre) 3 1::en s::M1∧I=im s::I0) (n - a) (⟨0,(a:Int),s,q,c,by omega,rfl,rfl,by rw [aHM];simpa using hR,rfl,rfl,rfl⟩) ?_
  rintro kk G M I ⟨m,i,s,q,c,hm,hi,rfl,hR,rfl,rfl,rfl⟩
  by_cases hlt:a+m+(k0+1)≤n
  ·have hih:=fun vis s q c hR=>ih (a+m+1) (i+1) (pre++[i]) vis s q c (pre++[i]).length (by omega) rfl (by simp;omega) (by omega) (by rw [hi];exact hp.snoc (by omega) (by omega)) hR
   have hl1:(pre++[i]).length=pre.length+1:=by simp
   repeat refine aB ?_
   refine gK (cs:=recs eZ [i]) ([.int .i64 i]) rfl (fun b9=>?_)
   refine wM (ys:=[i]) 2 rfl rfl rfl (fun q2 c2=>?_)
   repeat refine aB ?_
   refine wO (M':= .blk b6 [.slice q2 (pre++[i]).length c2] 31:: .row q2 (pre++[i]).length c2 (recs eZ (pre++[i])) 3 1::en s::M1) (I':=im s::I0) aF aC ?_
   (refine dJ rfl rfl (hih _ s q2 c2 hR) rfl rfl rfl ?_;rintro _ _ _ ⟨s2,q3,c3,hR2,rfl,rfl⟩;refine aN ?_)
   rw [hi,aQR] at hR2
   refine nQ (φ:=∃b,q3=some ⟨b,0,none⟩∧(pre++[i]).length≤c3) (fun w hw=>Mem.rowA hw (List.Mem.tail _ (List.Mem.head _)) (by omega)) (fun hb=>?_)
   obtain ⟨b,rfl,hc3⟩:=hb
   repeat refine aB ?_
   (refine aD rfl (fun _=>rH pre.length rfl rfl (by omega) (by omega)) rfl rfl ?_)
   repeat refine aB ?_
   refine bEG (m':=pre.length) (.there .here) (by omega) ?_
   rw [show (recs eZ (pre++[i])).take (pre.length*1)=recs eZ pre by rw [lZ];exact List.take_left' (by rw [fG])]
   refine gL (n - a - (m+1)) (⟨m+1,i+1,s2,some ⟨b,0,none⟩,c3,by omega,by omega,rfl,hR2,rfl,rfl,rfl⟩)
  ·have he:yV n k0 a m=cmb n (k0+1) a:=aKO (by omega) hm
   rw [he] at hR
   repeat refine aB ?_
   refine jH (by first|exact .inl rfl|exact .inr rfl) rfl _ _ aF aC (⟨s,q,c,hR,rfl,rfl⟩)
theorem aOU {n size:Nat} {g:FuncId} [FnOk Tryz.prog g] {fs cs:Array Value} (hn:n≤64) (hsz:size≤8) {s0:σ} (h0:R [] s0)
  (hV:∀(I1:List aL),(∀φ∈I0,φ∈I1)→∀(vis:List (List Int)) (s:σ) (l:List Int) (q:Option Addr) (c:Nat) (M2:List Ent),R vis s→SmpP n size 0 l→CD Tryz.prog g (fs.toList++[.slice q size c]++cs.toList) X w0 (.row q size c (recs eZ l) 3 1::en s::M2) (im s::I1)
   (fun _ M I=>∃s',R (vis++[l]) s'∧M= .row q size c (recs eZ l) 3 1::en s'::M2∧I=im s'::I1)):
  CD Tryz.prog 42 [.int .i64 (n:Int), .int .i64 (size:Int), .func (.func g) fs cs] X w0 (en s0::M1) (im s0::I0) (fun _ M I=>∃s',R (cmb n size 0) s'∧M=en s'::M1∧I=im s'::I0):=by
 refine iC Tryz.func42 rfl Tryz.ntmps42 rfl ?_
 refine gG ?_
 refine tyX rfl (fun b3=>?_)
 refine aH .here ?_
 refine tyX rfl (fun b4=>?_)
 refine aH .here ?_
 refine tyX rfl (fun b5=>?_)
 refine aH .here ?_
 repeat refine aB ?_
 (refine aZN size rfl rfl (by omega) (by omega) (by omega) rfl rfl ?_;intro bs;refine aN ?_)
 refine cK (fun b6=>?_)
 repeat refine aB ?_
 refine cK (fun b7=>?_)
 repeat refine aB ?_
 refine aH .here ?_
 refine wO (M':= .blk b6 [.slice (some ⟨bs,0,none⟩) 0 size] 31:: .row (some ⟨bs,0,none⟩) 0 size (recs eZ []) 3 1::en s0::M1) (I':=im s0::aI (some ⟨b7,0,none⟩) [.func (.func 105) #[] #[.pointer (some ⟨b6,0,none⟩), .pointer (some ⟨b4,0,none⟩), .pointer (some ⟨b5,0,none⟩), .pointer (some ⟨b3,0,none⟩), .pointer (some ⟨b7,0,none⟩)]]::aI (some ⟨b5,0,none⟩) [.func (.func g) fs cs]::aI (some ⟨b4,0,none⟩) [.int .i64 (size:Int)]::aI (some ⟨b3,0,none⟩) [.int .i64 (n:Int)]::I0) aF aC ?_
 (refine dJ rfl rfl (bDA en im R (M1:=M1) hn hsz aA aA aA aA (hV _ (fun φ h=>by simp [h])) size 0 0 [] [] s0 (some ⟨bs,0,none⟩) size 0 rfl rfl (by omega) (by omega) ⟨fun x hx=>absurd hx List.not_mem_nil,List.Pairwise.nil⟩ h0) rfl rfl rfl ?_;rintro _ _ _ ⟨s2,q2,c2,hR2,rfl,rfl⟩;refine aN ?_)
 repeat refine aB ?_
 refine fC (M':=en s2::M1) (I':=im s2::I0) aF aC ?_
 refine jH (by first|exact .inl rfl|exact .inr rfl) rfl _ _ aF aC (⟨s2,by simpa using hR2,rfl,rfl⟩)
end
end Go.Proofs.YtmmmfphealhapaaGreat
namespace Go.Fx
open Go
theorem aUB {P:Program} {w:World} (t ty e:TypeId) (i:TypeInfo) (ht:P.underlying t=some (.slice e)) (hi:P.info? e=some i)
  (g sLen sCap:Nat) (cur:Array Value) (hg:w.heap[g]?=some (.cells cur e (0,0)))
  (a:Addr) (m c:Nat) (news:List Value) (hl:news.length=m*i.size) (hnews:∀j u,news[j]?=some u→w.cell? (a.add j)=some u) (h1:∀u∈news,u.oneCell'=true)
  (hroom:sLen+m≤sCap) (hfit:sLen*i.size+news.length≤cur.size):
  (Builtin.append_ #[t,t] ty #[.slice (some ⟨g,0,none⟩) sLen sCap, .slice (some a) m c]).run P w=
   .ok (.slice (some ⟨g,0,none⟩) (sLen+m) sCap) (w.setRow g (cur.toList.take (sLen*i.size)++news++cur.toList.drop (sLen*i.size+news.length)).toArray):=by
 have hf:=run_firstCells_some (P:=P) w i.size m a m c news hl hnews
 have hst:=run_storeCells_at P g (sLen*i.size) e news 0 cur w hg (by simpa using hfit) h1
 simp only [Nat.add_zero] at hst
 simp [Builtin.append_,run_underlying ht,sizeOf,typeInfo,hi,Builtin.lenOf,hroom,hf,Addr.add_lit,hst]
section
variable {P:Program} {n:Nat} {G:Env} {ty:TypeId} {w:World}
theorem aSB {s x:Operand} {t e:TypeId} {sz' by_:Nat} {z:List Value} {b len c b':Nat} {cs:List Value} {u:Value} [ht:SliceTy P t e sz'] [hz:ElemTy P e 1 by_ z]
  (hs:ev G s=some (.slice (some ⟨b,0,none⟩) len c)) (hx:ev G x=some (.slice (some ⟨b',0,none⟩) 1 1)) (hB:Blk w b cs e) (hB':Blk w b' [u] e) (h1:u.oneCell'=true) (hroom:len+1≤c) (hle:c≤cs.length):
  Eff P n G (.call {callee:= .builtin .append,args:=#[s,x],argTypes:=#[t,t]}) ty w
   (fun v' w'=>v'= .slice (some ⟨b,0,none⟩) (len+1) c∧Blk w' b (cs.set len u) e∧Ext [b] w w'):=by
 refine ⟨?_⟩
 intro a ha dst pos after guard
 obtain ⟨i,vz,hi,hs2,hby,hzv,hcl⟩:=sZ hz
 have hnews:∀j v,[u][j]?=some v→w.cell? ((⟨b',0,none⟩:Addr).add j)=some v:=fun j v hj=>by
  rw [Addr.add_lit]
  simpa using hB'.cell (o:=j) hj
 have ho1:∀v∈[u],v.oneCell'=true:=by simpa using h1
 have hr:=aUB (P:=P) (w:=w) t ty e i ht.und hi b len c cs.toArray hB ⟨b',0,none⟩ 1 1 [u] (by rw [hs2];rfl) hnews ho1 hroom (by rw [hs2];simp;omega)
 rw [hs2] at hr
 have e1:cs.take (len*1)++[u]++cs.drop (len*1+1)=cs.set len u:=by
  rw [Nat.mul_one,List.set_eq_take_append_cons_drop,if_pos (by omega),List.append_assoc]
  rfl
 refine sG (v:= .slice (some ⟨b,0,none⟩) (len+1) c) (w':=w.setRow b (cs.set len u).toArray) ?_ ⟨_,⟨rfl,setRow_heap w b _ _ _ _ hB,Ext.setRow (by simp) _⟩,rfl⟩
 rw [←e1]
 simp at hr
 simp [execOp,resolve,invoke,builtin,ha.ev hs,ha.ev hx,hr]
theorem aSD {t e:TypeId} {sz sz' by_:Nat} {z:List Value} {lo co:Operand} {k k':IntKind} {mm:Nat} [ht:SliceTy P t e sz'] [hz:ElemTy P e sz by_ z]
  (hl:ev G lo=some (.int k 0)) (hc:ev G co=some (.int k' (mm:Int))) (hb:(by_:Int)*(mm:Int)≤281474976710656) (hm:(mm:Int)≤9223372036854775807):
  Eff P n G (.makeSlice t lo co) ty w (fun v w'=>∃b,b=w.heap.size∧v= .slice (some ⟨b,0,none⟩) 0 mm∧Blk w' b (madeCells z.toArray (mm*sz)).toList e∧Ext [] w w'∧b < w'.heap.size):=by
 refine ⟨?_⟩
 intro a ha dst pos after guard
 obtain ⟨i,v,hi,hs,hby,hzv,hcl⟩:=sZ hz
 have hr:=run_make (P:=P) w t e i v ht.und hi hzv k k' 0 mm (by omega) (by omega) (by rw [hby];exact hb) hm
 refine sG (v:= .slice (some ⟨w.heap.size,0,none⟩) 0 mm) (w':=w.alloc (.cells (madeCells z.toArray (mm*sz)) e)) ?_ ⟨_,⟨_,rfl,rfl,by unfold Blk;rw [Array.toArray_toList];exact heap_alloc_new w _,Ext.alloc _ _ _,by simp⟩,rfl⟩
 simp only [Int.toNat_natCast,hs,hcl] at hr
 simp [execOp,ha.ev hl,ha.ev hc,hr]
end
section
variable {P:Program} {n:Nat} {Q:Exit→Act→World→Prop} {G:Env} {X:List Nat} {w0:World} {M:List Ent} {I:List aL}
theorem aYX {ops l:List Oper} {m:Fx.Mode} {ty:TypeId} {pos:String} {af:Array Edge} {g:Option (Nat × Bool)} {d:Nat} {t e:TypeId} {sz sz' by_:Nat} {z:List Value} {lo co:Operand} {k1 k2:IntKind} (mm:Nat) {x2:Int} {cs:List Value} [SliceTy P t e sz'] [ElemTy P e sz by_ z]
  (hl:ev G lo=some (.int k1 0)) (hc:ev G co=some (.int k2 x2)) (e2:x2=mm) (hb:(by_:Int)*(mm:Int)≤281474976710656) (hm:(mm:Int)≤9223372036854775807) (hcs:(madeCells z.toArray (mm*sz)).toList=cs) (hg:nZ ops G g=some true) (hd:Nat.ble (d+1) n=true)
  (k:∀b,OkD m X w0 (.blk b cs e::M) I∧RD P n ops Q m.nextE l ((d, .slice (some ⟨b,0,none⟩) 0 mm)::G) X w0 (.blk b cs e::M) I):
  RD P n ops Q m (⟨some d, .makeSlice t lo co,ty,pos,af,g⟩::l) G X w0 M I:=by
 subst e2
 exact aAX (d:=some d) (K:=fun v' M' I'=>∃b,v'= .slice (some ⟨b,0,none⟩) 0 mm∧M'= .blk b cs e::M∧I'=I) hg
  (fun w hw=>(aSD (mm:=mm) hl hc hb hm).mono (fun _ w' ⟨b,hb,hp,hB,hE,_⟩=>⟨_,_,⟨b,hp,rfl,rfl⟩,hw.push hE (by simp [Ent.blocks,hb]) (by simp [Ent.blocks]) (by rw [hcs] at hB;exact hB)⟩)) rfl hd
  (fun _ _ _ ⟨b,hp,hM,hI⟩=>by subst hp;subst hM;subst hI;exact k b)
theorem aWJ {ops l:List Oper} {m:Fx.Mode} {ty:TypeId} {pos:String} {af:Array Edge} {g:Option (Nat × Bool)} {d:Nat} {s x:Operand} {t e:TypeId} {sz' by_:Nat} {z:List Value} {b len c b':Nat} {cs:List Value} {u:Value} [SliceTy P t e sz'] [ElemTy P e 1 by_ z]
  (kk:Nat) (hs:ev G s=some (.slice (some ⟨b,0,none⟩) len c)) (hx:ev G x=some (.slice (some ⟨b',0,none⟩) 1 1)) (hm:M[kk]?=some (.blk b cs e)) (hm': .blk b' [u] e∈M) (h1:u.oneCell'=true) (hroom:len+1≤c) (hle:c≤cs.length) (hg:nZ ops G g=some true) (hd:Nat.ble (d+1) n=true)
  (k:OkD m X w0 (M.set kk (.blk b (cs.set len u) e)) I∧RD P n ops Q m.nextE l ((d, .slice (some ⟨b,0,none⟩) (len+1) c)::G) X w0 (M.set kk (.blk b (cs.set len u) e)) I):
  RD P n ops Q m (⟨some d, .call {callee:= .builtin .append,args:=#[s,x],argTypes:=#[t,t]},ty,pos,af,g⟩::l) G X w0 M I:=
 aAX (d:=some d) (K:=fun v' M2 I2=>v'= .slice (some ⟨b,0,none⟩) (len+1) c∧M2=M.set kk (.blk b (cs.set len u) e)∧I2=I) hg
  (fun w hw=>by
   refine (aSB hs hx (hw.blk (List.mem_of_getElem? hm)) (hw.blk hm') h1 hroom hle).mono ?_
   rintro v' w' ⟨rfl,hB,hE⟩
   have hrep:Rep (.blk b cs e) (.blk b (cs.set len u) e) M (M.set kk (.blk b (cs.set len u) e)):=Rep.at hm
   refine ⟨M.set kk (.blk b (cs.set len u) e),I,⟨rfl,rfl,rfl⟩,hw.upd hrep hE ?_ (by simp [Ent.blocks]) hB⟩
   intro y hy
   simp [Ent.blocks] at hy
   subst hy
   exact .inl (by simp [Ent.blocks])) rfl hd
  (fun _ _ _ ⟨hp,hM,hI⟩=>by subst hp;subst hM;subst hI;exact k)
end
end Go.Fx
namespace Go.Proofs.YtmmmfphealhapaaGreat
open Go Go.Fx
theorem aTN {ws:List Int} {p:Nat} {x:Int}:(recs eZ ws).set p (.int .i64 x)=recs eZ (ws.set p x):=by
 have h:∀l:List Int,recs eZ l=l.map (fun z=>Value.int .i64 z):=fun l=>by
  induction l with
  |nil=>rfl
  |cons a r ih=>show [Value.int .i64 a]++recs eZ r=_;rw [ih];rfl
 rw [h,h,List.map_set]
section
variable {σ:Type} (en:σ→List Ent) (im:σ→aL) [∀s,Fx.Good (im s)] (R:List (List Int)→σ→Prop)
variable {X:List Nat} {w0:World} {M0 M1:List Ent} {I0:List aL}
set_option linter.unusedSectionVars false in
theorem bAT {n size b b4 b5 b3 b6:Nat} {g:FuncId} [FnOk Tryz.prog g] {fs cs:Array Value} (hn:n≤64) (hsz:size≤8)
  (f4:aI (some ⟨b4,0,none⟩) [.int .i64 (size:Int)]∈I0) (f3:aI (some ⟨b3,0,none⟩) [.int .i64 (n:Int)]∈I0) (f5:aI (some ⟨b5,0,none⟩) [.func (.func g) fs cs]∈I0)
  (f6:aI (some ⟨b6,0,none⟩) [.func (.func 154) #[] #[.pointer (some ⟨b4,0,none⟩), .pointer (some ⟨b5,0,none⟩), .pointer (some ⟨b3,0,none⟩), .pointer (some ⟨b6,0,none⟩)]]∈I0)
  (hV:∀(vis:List (List Int)) (s:σ) (l:List Int),R vis s→SmpP n size 0 l→CD Tryz.prog g (fs.toList++[.slice (some ⟨b,0,none⟩) size size]++cs.toList) X w0 (.blk b (recs eZ l) 3::(en s++M1)) (im s::I0)
   (fun _ M I=>∃s',R (vis++[l]) s'∧M= .blk b (recs eZ l) 3::(en s'++M1)∧I=im s'::I0)):
  ∀(k a:Nat) (ai:Int) (pre ws:List Int) (vis:List (List Int)) (s:σ) (pl:Nat),ai=(a:Int)→pl=pre.length→pl+k=size→a≤n→PreP n a pre→ws.length=size→ws.take pl=pre→R vis s→
   CD Tryz.prog 154 [.slice (some ⟨b,0,none⟩) pl size, .int .i64 ai, .pointer (some ⟨b4,0,none⟩), .pointer (some ⟨b5,0,none⟩), .pointer (some ⟨b3,0,none⟩), .pointer (some ⟨b6,0,none⟩)] X w0
    (.blk b (recs eZ ws) 3::(en s++M1)) (im s::I0)
    (fun _ M I=>∃(s':σ) (ws':List Int),R (vis++(cmb n k a).map (fun l=>pre++l)) s'∧ws'.length=size∧ws'.take pl=pre∧M= .blk b (recs eZ ws') 3::(en s'++M1)∧I=im s'::I0):=by
 intro k
 induction k with
 |zero=>
  intro a ai pre ws vis s pl hai hpl hk han hp hwl hwt hR
  have hpz:pl=size:=by omega
  subst hpz
  have hws:ws=pre:=by rw [←hwt,List.take_of_length_le (by omega)]
  subst hws
  have hsm:SmpP n pl 0 ws:=by rw [hpl];exact hp.smp
  have hVs:=hV vis s ws hR hsm
  have hfin:vis++[ws]=vis++(cmb n 0 a).map (fun l=>ws++l):=by simp [cmb]
  refine xZ Tryz.func154 rfl Tryz.ntmps154 rfl ?_
  repeat refine aB ?_
  (refine dJ rfl rfl (hVs) rfl rfl rfl ?_;rintro _ _ _ ⟨s2,hR2,rfl,rfl⟩;refine aN ?_)
  repeat refine aB ?_
  refine jH (by first|exact .inl rfl|exact .inr rfl) rfl _ _ aF aC (⟨s2,ws,by rw [←hfin];exact hR2,hwl,hwt,rfl,rfl⟩)
 |succ k0 ih=>
  intro a ai pre ws vis s pl hai hpl hk han hp hwl hwt hR
  subst hai
  subst hpl
  refine xZ Tryz.func154 rfl Tryz.ntmps154 rfl ?_
  repeat refine aB ?_
  refine lX [0,4,5] rfl (fun k G M I=>∃(m:Nat) (i:Int) (s:σ) (ws:List Int),m≤n - a∧i=((a+m:Nat):Int)∧k=n - a - m∧R (vis++(yV n k0 a m).map (fun l=>pre++l)) s∧ws.length=size∧ws.take pre.length=pre∧G=[(8, .int .i64 i)]∧M= .blk b (recs eZ ws) 3::(en s++M1)∧I=im s::I0) (n - a) (⟨0,(a:Int),s,ws,by omega,rfl,rfl,by rw [aHM];simpa using hR,hwl,hwt,rfl,rfl,rfl⟩) ?_
  rintro kk G M I ⟨m,i,s,ws,hm,hi,rfl,hR,hwl,hwt,rfl,rfl,rfl⟩
  by_cases hlt:a+m < n
  ·have hwl2:(ws.set pre.length i).length=size:=by rw [List.length_set];exact hwl
   have hwt2:(ws.set pre.length i).take (pre.length+1)=pre++[i]:=by
    rw [List.set_eq_take_append_cons_drop,if_pos (by omega),hwt,List.take_append,List.take_of_length_le (by omega),show pre.length+1 - pre.length=1 by omega]
    rfl
   have hih:=fun vis s hR=>ih (a+m+1) (i+1) (pre++[i]) (ws.set pre.length i) vis s (pre.length+1) (by omega) (by simp) (by omega) (by omega) (by rw [hi];exact hp.snoc (by omega) (by omega)) hwl2 hwt2 hR
   repeat refine aB ?_
   (repeat refine aG ?_);refine pW ([]) (I0) [0,1,2,5,6,3,4,7] [2,2,2,3,2,0,0,0] mixed ?_
   repeat refine aB ?_
   refine gK (cs:=recs eZ [i]) ([.int .i64 i]) rfl (fun b9=>?_)
   (refine aWJ (u:= .int .i64 i) 1 rfl rfl rfl List.mem_cons_self rfl (by omega) (by rw [fG];omega) rfl rfl ⟨okF,?_⟩)
   rw [aTN]
   repeat refine aB ?_
   refine wO (M':= .blk b (recs eZ (ws.set pre.length i)) 3::(en s++M1)) (I':=im s::I0) aF aC ?_
   (refine dJ rfl rfl (hih _ s hR) rfl rfl rfl ?_;rintro _ _ _ ⟨s2,ws2,hR2,hwl3,hwt3,rfl,rfl⟩;refine aN ?_)
   rw [hi,aQR] at hR2
   have hwt4:ws2.take pre.length=pre:=by
    have h:=congrArg (fun l=>l.take pre.length) hwt3
    simp only [List.take_take] at h
    rw [show min pre.length (pre.length+1)=pre.length by omega] at h
    rw [h]
    exact List.take_left' rfl
   repeat refine aB ?_
   refine gL (n - a - (m+1)) (⟨m+1,i+1,s2,ws2,by omega,by omega,rfl,hR2,hwl3,hwt4,rfl,rfl,rfl⟩)
  ·obtain rfl:m=n - a:=by omega
   have he:yV n k0 a (n - a)=cmb n (k0+1) a:=aKO (by omega) hm
   rw [he] at hR
   repeat refine aB ?_
   refine jH (by first|exact .inl rfl|exact .inr rfl) rfl _ _ aF aC (⟨s,ws,hR,hwl,hwt,rfl,rfl⟩)
theorem aKC {n size:Nat} {g:FuncId} [FnOk Tryz.prog g] {fs cs:Array Value} (hn:n≤64) (hsz:1≤size∧size≤8) {s0:σ} (h0:R [] s0)
  (hV:∀(I1:List aL),(∀φ∈I0,φ∈I1)→∀(b:Nat) (vis:List (List Int)) (s:σ) (l:List Int) (M2:List Ent),R vis s→SmpP n size 0 l→CD Tryz.prog g (fs.toList++[.slice (some ⟨b,0,none⟩) size size]++cs.toList) X w0 (.blk b (recs eZ l) 3::(en s++M2)) (im s::I1)
   (fun _ M I=>∃s',R (vis++[l]) s'∧M= .blk b (recs eZ l) 3::(en s'++M2)∧I=im s'::I1)):
  CD Tryz.prog 77 [.int .i64 (n:Int), .int .i64 (size:Int), .func (.func g) fs cs] X w0 (en s0++M1) (im s0::I0) (fun _ M I=>∃s',R (cmb n size 0) s'∧M=en s'++M1∧I=im s'::I0):=by
 refine iC Tryz.func77 rfl Tryz.ntmps77 rfl ?_
 refine gG ?_
 refine tyX rfl (fun b3=>?_)
 refine aH .here ?_
 refine tyX rfl (fun b4=>?_)
 refine aH .here ?_
 refine tyX rfl (fun b5=>?_)
 refine aH .here ?_
 repeat refine aB ?_
 refine cK (fun b6=>?_)
 repeat refine aB ?_
 refine aEO (fun _ hw=>hw.freezeB .here) ?_
 (repeat refine aG ?_);refine pW ([]) (aI (some ⟨b6,0,none⟩) [.func (.func 154) #[] #[.pointer (some ⟨b4,0,none⟩), .pointer (some ⟨b5,0,none⟩), .pointer (some ⟨b3,0,none⟩), .pointer (some ⟨b6,0,none⟩)]]::aI (some ⟨b5,0,none⟩) [.func (.func g) fs cs]::aI (some ⟨b4,0,none⟩) [.int .i64 (size:Int)]::aI (some ⟨b3,0,none⟩) [.int .i64 (n:Int)]::I0) [0,1,2,3] [1,1,0,0] mixed ?_
 repeat refine aB ?_
 (refine aYX size rfl rfl rfl (by omega) (by omega) (nI .i64 size) rfl rfl ?_;intro bs;refine aN ?_)
 have hz:(List.replicate size (0:Int)).length=size:=List.length_replicate
 refine wO (M':= .blk bs (recs eZ (List.replicate size 0)) 3::(en s0++M1)) (I':=im s0::aI (some ⟨b6,0,none⟩) [.func (.func 154) #[] #[.pointer (some ⟨b4,0,none⟩), .pointer (some ⟨b5,0,none⟩), .pointer (some ⟨b3,0,none⟩), .pointer (some ⟨b6,0,none⟩)]]::aI (some ⟨b5,0,none⟩) [.func (.func g) fs cs]::aI (some ⟨b4,0,none⟩) [.int .i64 (size:Int)]::aI (some ⟨b3,0,none⟩) [.int .i64 (n:Int)]::I0) aF aC ?_
 (refine dJ rfl rfl (bAT en im R (M1:=M1) hn hsz.2 aA aA aA aA (hV _ (fun φ h=>by simp [h]) bs · · · _ · ·) size 0 0 [] (List.replicate size 0) [] s0 0 rfl rfl (by omega) (Nat.zero_le n) ⟨fun x hx=>absurd hx List.not_mem_nil,List.Pairwise.nil⟩ hz rfl h0) rfl rfl rfl ?_;rintro _ _ _ ⟨s2,ws2,hR2,hwl,hwt,rfl,rfl⟩;refine aN ?_)
 repeat refine aB ?_
 refine jH (by first|exact .inl rfl|exact .inr rfl) rfl _ _ aF aC (⟨s2,by simpa using hR2,rfl,rfl⟩)
end
end Go.Proofs.YtmmmfphealhapaaGreat
namespace Go.Fx
section
variable {α:Type} (key:α→Int)
def mg:List α→List α→List α
 |[],ys=>ys
 |x::xs,[]=>x::xs
 |x::xs,y::ys=>if key x≤key y then x::mg xs (y::ys) else y::mg (x::xs) ys
termination_by xs ys=>xs.length+ys.length
theorem aDY (xs:List α):mg key xs []=xs:=by cases xs <;>simp [mg]
theorem aBC (xs:List α):mg key [] xs=xs:=by simp [mg]
theorem wI (x:α) (xs:List α) (y:α) (ys:List α):mg key (x::xs) (y::ys)=if key x≤key y then x::mg key xs (y::ys) else y::mg key (x::xs) ys:=by
 rw [mg]
theorem aOA:∀(xs ys:List α),(mg key xs ys).length=xs.length+ys.length
 |[],ys=>by simp [mg]
 |x::xs,[]=>by simp [mg]
 |x::xs,y::ys=>by
  rw [wI]
  split
  ·simp [aOA xs (y::ys)];omega
  ·simp [aOA (x::xs) ys];omega
termination_by xs ys=>xs.length+ys.length
theorem aFA:∀(xs ys:List α) (z:α),z∈mg key xs ys↔z∈xs∨z∈ys
 |[],ys,z=>by simp [mg]
 |x::xs,[],z=>by simp [mg]
 |x::xs,y::ys,z=>by
  rw [wI]
  split
  ·simp only [List.mem_cons,aFA xs (y::ys) z]
   constructor
   ·rintro (h|h|h|h) <;>simp [h]
   ·rintro ((h|h)|h|h) <;>simp [h]
  ·simp only [List.mem_cons,aFA (x::xs) ys z]
   constructor
   ·rintro (h|(h|h)|h) <;>simp [h]
   ·rintro ((h|h)|h|h) <;>simp [h]
termination_by xs ys=>xs.length+ys.length
theorem uF:∀(X1 Y1 X2 Y2:List α),(∀x∈X1,∀y∈Y2,key x≤key y)→(∀y∈Y1,∀x∈X2,key y < key x)→mg key (X1++X2) (Y1++Y2)=mg key X1 Y1++mg key X2 Y2
 |[],[],X2,Y2,_,_=>by simp [aBC]
 |[],y::Y1,[],Y2,_,_=>by simp [aBC]
 |[],y::Y1,x::X2,Y2,h1,h2=>by
  have h:=h2 y (by simp) x (by simp)
  have ih:=uF [] Y1 (x::X2) Y2 (by simp) (fun y' hy=>h2 y' (by simp [hy]))
  simp only [List.nil_append,aBC] at ih ⊢
  rw [List.cons_append,wI,if_neg (by omega),ih]
  rfl
 |x::X1,[],X2,[],_,_=>by simp [aDY]
 |x::X1,[],X2,y::Y2,h1,h2=>by
  have h:=h1 x (by simp) y (by simp)
  have ih:=uF X1 [] X2 (y::Y2) (fun x' hx=>h1 x' (by simp [hx])) (by simp)
  simp only [List.nil_append,aDY] at ih ⊢
  rw [List.cons_append,wI,if_pos h,ih]
  rfl
 |x::X1,y::Y1,X2,Y2,h1,h2=>by
  rw [List.cons_append,List.cons_append,wI,wI]
  split
  ·have ih:=uF X1 (y::Y1) X2 Y2 (fun x' hx=>h1 x' (by simp [hx])) h2
   rw [←List.cons_append,ih]
   rfl
  ·have ih:=uF (x::X1) Y1 X2 Y2 h1 (fun y' hy=>h2 y' (by simp [hy]))
   rw [←List.cons_append,ih]
   rfl
termination_by X1 Y1=>X1.length+Y1.length
def Asc (l:List α):Prop:=l.Pairwise (fun a b=>key a≤key b)
theorem Asc.mg:∀{X Y:List α},Asc key X→Asc key Y→Asc key (mg key X Y)
 |[],Y,_,hY=>by simpa [aBC] using hY
 |x::X,[],hX,_=>by simpa [aDY] using hX
 |x::X,y::Y,hX,hY=>by
  have hX':=List.pairwise_cons.1 hX
  have hY':=List.pairwise_cons.1 hY
  rw [wI]
  split
  ·refine List.pairwise_cons.2 ⟨fun z hz=>?_,Asc.mg hX'.2 hY⟩
   rcases (aFA key _ _ _).1 hz with hz|hz
   ·exact hX'.1 z hz
   ·rcases List.mem_cons.1 hz with rfl|hz
    ·assumption
    ·have:=hY'.1 z hz;omega
  ·refine List.pairwise_cons.2 ⟨fun z hz=>?_,Asc.mg hX hY'.2⟩
   rcases (aFA key _ _ _).1 hz with hz|hz
   ·rcases List.mem_cons.1 hz with rfl|hz
    ·omega
    ·have:=hX'.1 z hz;omega
   ·exact hY'.1 z hz
termination_by X Y=>X.length+Y.length
def srt (l:List α):List α:=l.foldl (fun acc x=>mg key acc [x]) []
theorem aQQ:srt key ([]:List α)=[]:=rfl
theorem aEX (l:List α) (x:α):srt key (l++[x])=mg key (srt key l) [x]:=by simp [srt,List.foldl_append]
theorem aBI:∀(n:Nat) (l:List α),l.length=n→Asc key (srt key l)∧(srt key l).length=l.length
 |0,l,h=>by
  have:l=[]:=List.eq_nil_of_length_eq_zero h
  subst this
  exact ⟨List.Pairwise.nil,rfl⟩
 |n+1,l,h=>by
  have hne:l≠[]:=by intro e;subst e;simp at h
  obtain ⟨B',x,rfl⟩:∃B' x,l=B'++[x]:=⟨l.dropLast,l.getLast hne,(List.dropLast_concat_getLast hne).symm⟩
  have ih:=aBI n B' (by simpa using h)
  rw [aEX]
  exact ⟨Asc.mg key ih.1 (List.pairwise_singleton _ _),by rw [aOA,ih.2];simp⟩
theorem aJN (l:List α):Asc key (srt key l):=(aBI key _ l rfl).1
theorem aAL (l:List α):(srt key l).length=l.length:=(aBI key _ l rfl).2
theorem aDI (z:α):∀(n:Nat) (l:List α),l.length=n→(z∈srt key l↔z∈l)
 |0,l,h=>by
  have:l=[]:=List.eq_nil_of_length_eq_zero h
  subst this
  simp [aQQ]
 |n+1,l,h=>by
  have hne:l≠[]:=by intro e;subst e;simp at h
  obtain ⟨B',x,rfl⟩:∃B' x,l=B'++[x]:=⟨l.dropLast,l.getLast hne,(List.dropLast_concat_getLast hne).symm⟩
  rw [aEX,aFA,aDI z n B' (by simpa using h)]
  simp
theorem bFL {P1 P2:List α} {x:α} (h1:∀y∈P1,key y≤key x) (h2:∀y∈P2,key x < key y):mg key (P1++P2) [x]=P1++x::P2:=by
 have:=uF key P1 [] P2 [x] (fun a ha b hb=>by simp at hb;subst hb;exact h1 a ha) (by simp)
 simp only [List.nil_append,aDY] at this
 rw [this]
 congr 1
 have:=uF key [] [x] P2 [] (by simp) (fun y hy a ha=>by simp at hy;subst hy;exact h2 a ha)
 simpa [aBC,aDY] using this
theorem Asc.left {A B:List α} (h:Asc key (A++B)):Asc key A:=(List.pairwise_append.1 h).1
theorem Asc.right {A B:List α} (h:Asc key (A++B)):Asc key B:=(List.pairwise_append.1 h).2.1
theorem Asc.cross {A B:List α} (h:Asc key (A++B)):∀a∈A,∀b∈B,key a≤key b:=(List.pairwise_append.1 h).2.2
theorem Asc.at [Inhabited α] {l:List α} (h:Asc key l) {i j:Nat} (hij:i≤j) (hj:j < l.length):key (gt l (i:Int))≤key (gt l (j:Int)):=by
 rw [fH hj,fH (show i < l.length by omega)]
 by_cases e:i=j
 ·subst e;exact Int.le_refl _
 ·exact List.pairwise_iff_getElem.1 h i j _ _ (by omega)
/- parts -/
theorem aYE [Inhabited α] (A B:List α) (k:Nat):gt (A++B) (k:Int)=if k < A.length then gt A (k:Int) else gt B ((k - A.length:Nat):Int):=by
 rw [aJF,aJF,aJF]
 simp only [List.getD]
 split
 ·rename_i h;rw [List.getElem?_append_left h]
 ·rename_i h;rw [List.getElem?_append_right (by omega)]
theorem bDT [Inhabited α] {A B:List α} {x:α} {i:Int} (h:i=A.length):gt (A++x::B) i=x:=by
 subst h
 rw [aYE,if_neg (by omega)]
 simp [gt]
theorem bDI {A B:List α} {x y:α} {i:Int} (h:i=A.length):st (A++x::B) i y=A++y::B:=by
 subst h
 simp [st]
theorem bFQ {A B:List α} {x y:α} {i j:Int} (hi:i=A.length) (hj:j=A.length+1):st (st (A++x::y::B) j x) i y=A++y::x::B:=by
 have:A++x::y::B=(A++[x])++y::B:=by simp
 rw [this,bDI (by simp;omega)]
 have:(A++[x])++x::B=A++x::x::B:=by simp
 rw [this,bDI hi]
end
end Go.Fx
namespace Go.Proofs.YtmmmfphealhapaaGreat
open Go Go.Fx
/- ---------- the stable sort of []int ---------- -/
section
variable {X:List Nat} {w0:World} {M0:List Ent} {I0:List aL}
def CmpI (g:FuncId) (fs cs':Array Value) (key:Int→Int) (Pr:Int→Prop) (X:List Nat) (w0:World) (b:Nat) (e:TypeId) (M0:List Ent) (I0:List aL):Prop:=
 ∀(cs:List Value) (x y:Int),Pr x→Pr y→CD Tryz.prog g (fs.toList++[(Value.int .i64) x,(Value.int .i64) y]++cs'.toList) X w0 (.blk b cs e::M0) I0 (fun v M I=> .blk b cs e::M0=M∧I0=I∧∃r:Int,v= .int .i64 r∧(r < 0↔key x < key y))
end
/- ---------- the stable sort of []int: merging in place ---------- -/
section
variable {X:List Nat} {w0:World} {M0:List Ent} {I0:List aL}
end
/- ---------- the stable sort of []int: whole, below 40 elements ---------- -/
section
variable {X:List Nat} {w0:World} {M0:List Ent} {I0:List aL}
end
theorem aEM {P:Program} {n:Nat} {G:Env} {ty:TypeId} {C:World→Prop} {t:TypeId} {x ix:Operand} {s:ByteArray} {k:IntKind} {i:Int} {b:UInt8} [ht:StrTy P t] (hx:ev G x=some (.string s)) (hi:ev G ix=some (.int k i)) (h0:0≤i) (hb:s[i.toNat]?=some b):
  Const P n G (.index t x ix) ty C (.int .u8 b.toNat):=by
 refine ⟨?_⟩
 intro st ha dst pos after guard w _
 simp [execOp,Instr.index,ha.ev hx,ha.ev hi,asIntOf,eU ht.und,h0,hb]
theorem aWR {P:Program} {n:Nat} {ops l:List Oper} {Q:Exit→Act→World→Prop} {m:Fx.Mode} {G:Env} {X:List Nat} {w0:World} {M:List Ent} {I:List aL} {ty:TypeId} {pos:String} {af:Array Edge} {g:Option (Nat × Bool)} {d:Nat} {t:TypeId} {x ix:Operand} {s:ByteArray} {kk:IntKind} {i:Int} [StrTy P t]
  (hx:ev G x=some (.string s)) (hi:ev G ix=some (.int kk i)) (h0:0≤i) (h1:i.toNat < s.size) (hg:nZ ops G g=some true) (hd:Nat.ble (d+1) n=true)
  (k:∀b:Int,0≤b∧b < 256→RD P n ops Q m.next l ((d, .int .u8 b)::G) X w0 M I):RD P n ops Q m (⟨some d, .index t x ix,ty,pos,af,g⟩::l) G X w0 M I:=
 aD hg (fun _=>aEM hx hi h0 (getElem?_pos s i.toNat h1)) rfl hd (k _ ⟨Int.natCast_nonneg _,by have:=UInt8.toNat_lt (s[i.toNat]'h1);omega⟩)
section
variable {X:List Nat} {w0:World} {M0:List Ent} {I0:List aL}
theorem aXS {x:Int}:CD Tryz.prog 251 [.int .i64 x] X w0 M0 I0 (fun v M I=>M0=M∧I0=I∧v= .bool false):=by
 refine aR Tryz.func251 rfl Tryz.ntmps251 rfl ?_
 repeat refine aB ?_
 refine iR rfl rfl (⟨rfl,rfl,congrArg Value.bool (bH (fun h=>h rfl))⟩)
theorem bBY {x y:Int}:CD Tryz.prog 287 [.int .i64 x, .int .i64 y] X w0 M0 I0 (fun v M I=>M0=M∧I0=I∧v= .bool (B (x < y))):=by
 refine aM Tryz.func287 rfl Tryz.ntmps287 rfl ?_
 repeat refine aB ?_
 refine dH rfl (aXS) ?_
 repeat refine aB ?_
 refine iR rfl rfl (⟨rfl,rfl,rfl⟩)
theorem aRX {x:Int} (h0:0≤x) (h1:x < 256):CD Tryz.prog 291 [.int .u64 x] X w0 M0 I0 (fun v M I=>M0=M∧I0=I∧∃r:Int,v= .int .i64 r):=by
 refine aR Tryz.func291 rfl Tryz.ntmps291 rfl ?_
 repeat refine aB ?_
 refine aWR rfl rfl h0 (Nat.lt_of_lt_of_eq (show x.toNat < 256 by omega) rfl) rfl rfl (fun b hb=>?_)
 repeat refine aB ?_
 refine aU (by first|exact .inl rfl|exact .inr rfl) rfl rfl _ _ aF aC (⟨rfl,rfl,_,rfl⟩)
theorem bAA {x:Int} (h0:0≤x) (h1:x < 256):CD Tryz.prog 256 [.int .u64 x] X w0 M0 I0 (fun v M I=>M0=M∧I0=I∧∃r:Int,v= .int .i64 r):=by
 refine aR Tryz.func256 rfl Tryz.ntmps256 rfl ?_
 repeat refine aB ?_
 (refine bD rfl (aRX h0 h1) ?_;rintro _ _ _ ⟨rfl,rfl,r,rfl⟩;refine aN ?_)
 repeat refine aB ?_
 refine iR rfl rfl (⟨rfl,rfl,r,rfl⟩)
end
section
variable {X:List Nat} {w0:World} {M0:List Ent} {I0:List aL}
theorem bBN {b n c:Nat} {tl:List Value} {P B S:List Int} {a z:Int} (hn:n=(P++B++S).length)
  (ha:a=P.length) (hz:z=P.length+B.length) (hbd:(n:Int)≤1000000):
  CD Tryz.prog 281 [.slice (some ⟨b,0,none⟩) n c, .int .i64 a, .int .i64 z] X w0 (.blk b (recs (eI .i64) (P++B++S)++tl) 3::M0) I0
   (fun _ M I=> .blk b (recs (eI .i64) (P++srt id B++S)++tl) 3::M0=M∧I0=I):=by
 have hlen:(P++B++S).length=P.length+B.length+S.length:=by simp [Nat.add_assoc]
 refine dY Tryz.func281 rfl Tryz.ntmps281 rfl ?_
 repeat (refine wXn ?_)
 refine bX [0,1,2] rfl (fun k G M I=>∃(q:Nat) (i:Int) (D:List Int),i=a+1+q∧k=B.length - q∧(i≤z∨q=0)∧D=P++(srt id (B.take (q+1))++(B.drop (q+1)++S))∧G=[(6, .int .i64 i)]∧M= .blk b (recs (eI .i64) D++tl) 3::M0∧I0=I) (B.length) _ _ _ dB bY bW (⟨0,a+1,_,by omega,by omega, .inr rfl,?_,rfl,rfl,rfl⟩) ?_
 ·cases B with
  |nil=>simp [aQQ]
  |cons x r=>simp [srt,aBC]
 rintro k G M I ⟨q,i,D,hi,rfl,hq,hD,rfl,rfl,rfl⟩
 have hDl:D.length=n:=by
  rw [hD,hn];simp [aAL];omega
 repeat' (first|refine wXn ?_|refine aJ rfl (fun h=>?_) (fun h=>?_)|refine aK rfl rfl (fun h=>?_) (fun h=>?_)|fail)
 ·have hqB:q+1 < B.length:=by omega
  have hx:B.drop (q+1)=B[q+1]::B.drop (q+2):=List.drop_eq_getElem_cons hqB
  have hxB:B[q+1]∈B:=List.getElem_mem hqB
  have htk:B.take (q+2)=B.take (q+1)++[B[q+1]]:=List.take_succ_eq_append_getElem hqB
  generalize B[q+1]=x at hx hxB htk
  have hsl:=aAL id (B.take (q+1))
  have htl:(B.take (q+1)).length=q+1:=by simp;omega
  refine bX [0,1,2,6] rfl (fun k G M I=>∃(P1 P2 D:List Int) (j:Int),srt id (B.take (q+1))=P1++P2∧j=P.length+P1.length∧k=P1.length∧(∀y∈P2,x < y)∧D=(P++P1)++x::(P2++(B.drop (q+2)++S))∧G=[(7, .int .i64 j)]∧M= .blk b (recs (eI .i64) D++tl) 3::M0∧I0=I) (q+1) _ _ _ dB bY bW (⟨srt id (B.take (q+1)),[],D,i,by simp,by omega,by omega,by simp,by rw [hD,hx];simp,rfl,rfl,rfl⟩) ?_
  rintro k G M I ⟨P1,P2,D,j,hs,hj,rfl,hP2,hD',rfl,rfl,rfl⟩
  have hDl':D.length=n:=by
   have:=congrArg List.length hs
   rw [hD',hn];simp at this ⊢;omega
  have hasc:=aJN id (B.take (q+1))
  rw [hs] at hasc
  have done1:(∀y∈P1,y≤x)→D=P++(srt id (B.take (q+1+1))++(B.drop (q+1+1)++S)):=fun h1=>by
   rw [show q+1+1=q+2 from rfl,htk,aEX,hs,bFL id h1 hP2,hD']
   simp
  have hl2:=congrArg List.length hs
  simp only [List.length_append] at hl2
  by_cases hja:a < j
  ·have hne:P1≠[]:=by intro e;subst e;simp at hj;omega
   obtain ⟨Q1,y,rfl⟩:∃Q1 y,P1=Q1++[y]:=⟨P1.dropLast,P1.getLast hne,(List.dropLast_concat_getLast hne).symm⟩
   have hyB:y∈B:=by
    have:y∈srt id (B.take (q+1)):=by rw [hs];simp
    exact List.mem_of_mem_take ((aDI id y _ _ rfl).1 this)
   simp only [List.length_append,List.length_cons,List.length_nil] at hj hl2
   have hDe:D=(P++Q1)++y::x::(P2++(B.drop (q+2)++S)):=by rw [hD'];simp
   have gj:gt D j=x:=by rw [hD'];exact bDT (by simp;omega)
   have gj1:gt D (j - 1)=y:=by rw [hDe];exact bDT (by simp;omega)
   (repeat refine aG ?_);refine eO [0,1,2,3,4,5,6,7,8,9,10,11,12,13,14] [1,1,1,0,1,1,1,0,1,1,1,1,0,0,0] mixed (by kernel_rfl) ?_
   repeat (refine wXn ?_)
   rw [gj,gj1]
   (refine kH rfl (bBY (x:=x) (y:=y)) rfl rfl ?_;rintro _ _ _ ⟨rfl,rfl,rfl⟩;refine ⟨okD,?_⟩)
   by_cases hxy:x < y
   ·rw [bK hxy]
    repeat (refine wXn ?_)
    (repeat refine aG ?_);refine aUI [0,1,2,3,4,5,6,7,8,9,10,11,12,13,14,15,16,17] [0,0,1,1,1,0,0,0,0,0,1,1,1,0,0,0,0,0] mixed (by kernel_rfl) ?_
    repeat (refine wXn ?_)
    rw [gj,gj1]
    refine cO (Q1.length) _ _ _ (by simp) dB bY bW ⟨Q1,y::P2,_,j - 1,by rw [hs];simp,by omega,rfl,fun u hu=>?_,?_,rfl,rfl,rfl⟩
    ·rcases List.mem_cons.1 hu with rfl|hu
     ·exact hxy
     ·exact hP2 u hu
    ·rw [hDe,bFQ (by simp;omega) (by simp;omega)]
     simp
   ·rw [bH hxy]
    repeat (refine wXn ?_)
    refine cO (B.length - (q+1)) _ _ _ (by first|omega|(simp only [List.length_append,List.length_cons,List.length_nil];omega)) dB bY bW (⟨q+1,i+1,D,by omega,rfl, .inl (by omega),done1 (fun u hu=>?_),rfl,rfl,rfl⟩)
    rcases List.mem_append.1 hu with hu|hu
    ·have:u≤y:=Asc.cross id (Asc.left id hasc) u hu y (by simp)
     omega
    ·simp at hu;subst hu;omega
  ·have:P1=[]:=List.eq_nil_of_length_eq_zero (by omega)
   subst this
   (repeat refine aG ?_);refine eO [0,1,2,3,4,5,6,7,8,9,10,11,12,13,14] [1,1,1,0,1,1,1,0,1,1,1,1,0,0,0] mixed (by kernel_rfl) ?_
   repeat (refine wXn ?_)
   refine cO (B.length - (q+1)) _ _ _ (by first|omega|(simp only [List.length_append,List.length_cons,List.length_nil];omega)) dB bY bW (⟨q+1,i+1,D,by omega,rfl, .inl (by omega),done1 (by simp),rfl,rfl,rfl⟩)
 ·have h1:B.take (q+1)=B:=List.take_of_length_le (by omega)
  have h2:B.drop (q+1)=[]:=List.drop_eq_nil_of_le (by omega)
  rw [h1,h2] at hD
  simp only [List.nil_append,←List.append_assoc] at hD
  subst hD
  refine jH (by first|exact .inl rfl|exact .inr rfl) rfl _ _ bY bW (⟨rfl,rfl⟩)
theorem bCW {b n c:Nat} {tl:List Value} {D:List Int} (hn:n=D.length) (hb:n≤12):
  CD Tryz.prog 206 [.slice (some ⟨b,0,none⟩) n c] X w0 (.blk b (recs (eI .i64) D++tl) 3::M0) I0 (fun _ M I=> .blk b (recs (eI .i64) (srt id D)++tl) 3::M0=M∧I0=I):=by
 have h1:=bBN (X:=X) (w0:=w0) (M0:=M0) (I0:=I0) (b:=b) (c:=c) (tl:=tl) (P:=[]) (B:=D) (S:=[]) (a:=0) (z:=D.length) (n:=n) (by simp [hn]) (by simp) (by simp) (by omega)
 simp only [List.append_nil,List.nil_append] at h1
 rw [←hn] at h1
 have hp:∀r:Int,CD Tryz.prog 255 [.slice (some ⟨b,0,none⟩) n c, .int .i64 0, .int .i64 n, .int .i64 r] X w0 (.blk b (recs (eI .i64) D++tl) 3::M0) I0 (fun _ M I=> .blk b (recs (eI .i64) (srt id D)++tl) 3::M0=M∧I0=I):=fun r=>by
  refine dY Tryz.func255 rfl Tryz.ntmps255 rfl ?_
  repeat (refine wXn ?_)
  refine bX [0] rfl (fun k G M I=>k=0∧G=[(1, .int .i64 0),(2, .int .i64 n),(3, .int .i64 r),(8, .bool true),(9, .bool true)]∧M= .blk b (recs (eI .i64) D++tl) 3::M0∧I0=I) (0) _ _ _ dB bY bW (⟨rfl,rfl,rfl,rfl⟩) ?_
  rintro k G M I ⟨rfl,rfl,rfl,rfl⟩
  repeat (refine wXn ?_)
  (refine kH rfl (h1) rfl rfl ?_;rintro _ _ _ ⟨rfl,rfl⟩;refine ⟨okD,?_⟩)
  repeat (refine wXn ?_)
  refine jH (by first|exact .inl rfl|exact .inr rfl) rfl _ _ bY bW (⟨rfl,rfl⟩)
 refine dY Tryz.func206 rfl Tryz.ntmps206 rfl ?_
 repeat (refine wXn ?_)
 (refine kH rfl (bAA (x:=(n:Int)) (by omega) (by omega)) rfl rfl ?_;rintro _ _ _ ⟨rfl,rfl,r,rfl⟩;refine ⟨okD,?_⟩)
 repeat (refine wXn ?_)
 (refine kH rfl (hp r) rfl rfl ?_;rintro _ _ _ ⟨rfl,rfl⟩;refine ⟨okD,?_⟩)
 repeat (refine wXn ?_)
 refine jH (by first|exact .inl rfl|exact .inr rfl) rfl _ _ bY bW (⟨rfl,rfl⟩)
end
end Go.Proofs.YtmmmfphealhapaaGreat
