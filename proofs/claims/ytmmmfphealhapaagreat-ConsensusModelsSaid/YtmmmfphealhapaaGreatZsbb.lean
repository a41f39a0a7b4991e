/- consensus.fitted: the least-squares matrix. -/
import Derived.Test.YtmmmfphealhapaaGreatZsba
import Derived.Test.YtmmmfphealhapaaGreatZsaq
import Derived.Test.YtmmmfphealhapaaGreatZsad
import Derived.Test.YtmmmfphealhapaaGreatZsaz
import Derived.RangeFuncBox
import Derived.Maps.AppendAt
import Derived.Test.YtmmmfphealhapaaGreatZsai
import Derived.Test.YtmmmfphealhapaaGreatZsas
set_option linter.unusedSimpArgs false
set_option linter.unusedVariables false
set_option maxRecDepth 100000
set_option maxHeartbeats 4000000
namespace Go.Proofs.YtmmmfphealhapaaGreat
open Go Go.Fx
abbrev kN:Nat:=4224
abbrev kX:Nat:=103842564
theorem kN_eq:kb kN 6=17302869:=by decide
def aCK (o:Option Mt) (k:Nat) (M0:List Ent) (I0:List aM) (v:Value) (M:List Ent) (I:List aM):Prop:=M0=M∧match o with
 |none=>I0=I∧∃u,v= .tuple #[u, .bool false]
 |some A=>∃m:MX,v= .tuple #[mv m, .bool true]∧m.q=A∧m.dim 3 3∧I=iB m k::I0
theorem aNT (kd:Nat):2≤mI kd∧mI kd≤6:=by unfold mI;split;omega;split <;>omega
section
variable {X:List Nat} {w0:World} {M0 M1:List Ent} {I0:List aM}
theorem aGT {kd:Nat} {q:Option Addr} {l:List Q4} {n c:Nat} (hk:kd≤2) (hl:l.length=n) (hn:n≤64) (hs:∀s∈l,s.near) (hq:aH q (recs iL l)∈I0):
  CD Tryz.prog 106 [.int .i64 (kd:Int), .slice q n c] X w0 M0 I0 (aCK (qJ kd l) kX M0 I0):=by
 have hDs:=fun M0 I0 h=>aSS (X:=X) (w0:=w0) (M0:=M0) (I0:=I0) (q:=q) (l:=l) (n:=n) (c:=c) hk hl hn hs h
 have hW0:=fun M0 I0=>jG (X:=X) (w0:=w0) (M0:=M0) (I0:=I0) (x:=0) (by decide) (k:=0) (by decide)
 refine aN Tryz.func106 rfl Tryz.ntmps106 rfl ?_
 by_cases h0:n=0
 ·have hl0:l=[]:=List.length_eq_zero_iff.1 (by omega)
  have e:qJ kd l=none:=by unfold qJ;rw [if_pos hl0]
  rw [e]
  repeat refine aB ?_
  refine gH [4,5] (by first|exact .inl rfl|exact .inr rfl) rfl rfl rfl _ _ aF aD (⟨rfl,rfl,_,rfl⟩)
 have hl0:l≠[]:=fun e=>h0 (by rw [←hl,e];rfl)
 obtain ⟨C,hC⟩:∃C,mI kd=C:=⟨_,rfl⟩
 have hC6:=aNT kd
 rw [hC] at hC6
 have hDd:=aOV (k:=kd) (l:=l)
 rw [hl,hC] at hDd
 repeat refine aB ?_
 (refine aQ rfl (hDs _ _ aA) ?_;rintro _ _ _ ⟨rfl,A,b,rfl,hA,hb,rfl⟩;refine aL ?_)
 have hAR:A.rows.length=2*n:=by have:=hDd.1;rw [←hA] at this;simpa [MX.q] using this
 have hAC:∀t:Nat,t < 2*n→(gt A.rows (t:Int)).es.length=C:=fun t ht=>by
  have:=hDd.2 t ht
  rw [←hA] at this
  have e:rowAt A.q t=(gt A.rows (t:Int)).q:=by
   have hlt:t < A.rows.length:=by omega
   rw [gtQ hlt];simp [rowAt,MX.q,List.getD,hlt]
  rw [e] at this
  simpa [RL.q,qs] using this
 have hbl:b.es.length=2*n:=by have:=congrArg List.length hb;rw [vK,hl] at this;simpa [RL.q,qs] using this
 have hat:∀t j:Nat,t < 2*n→j < C→at2 A.q t j=(gt (gt A.rows (t:Int)).es (j:Int)).q:=fun t j ht hj=>qP (m:=A) (by omega) (by rw [hAC t ht];exact hj)
 have hbt:∀t:Nat,t < 2*n→b.q.getD t 0=(gt b.es (t:Int)).q:=fun t ht=>iM (by omega)
 have hc0:(gt A.rows 0).es.length=C:=hAC 0 (by omega)
 refine cK (φ:=aH A.p (recs eL A.rows)) (Hv.xsl aA) ?_
 refine cK (φ:=aH b.p (recs eR b.es)) (Hv.lsl aA) ?_
 repeat refine aB ?_
 rw [hc0]
 repeat refine aB ?_
 (refine jI (C) rfl rfl (by omega) (by omega) (by omega) (by omega) (rR (enc:=eH) (by decide) ⟨none,0,0⟩ C) rfl rfl ?_;intro bn;refine aL ?_)
 repeat refine aB ?_
 (refine jI (C) rfl rfl (by omega) (by omega) (by omega) (by omega) (rR (enc:=e4) (by decide) z4 C) rfl rfl ?_;intro br;refine aL ?_)
 repeat refine aB ?_
 refine bH (φ:=aU [] kN) Hv.nilR ?_
 refine bH (φ:=dX [] kN) Hv.nilL ?_
 refine rY (M':= .blk br (recs e4 (List.replicate C z4)) 77:: .blk bn (recs eH (List.replicate C ⟨none,0,0⟩)) 70::M0) (I':=dX [] kN::aU [] kN::aH b.p (recs eR b.es)::aH A.p (recs eL A.rows)::iQ b 16::iB A 16::I0) aF aD ?_
 refine lV [0,6,7,8,9,10,39] rfl (fun k G M I=>∃(i:Nat) (rows:List RL) (rs:List RE),i≤C∧k=C - i∧rows.length=i∧rows.map RL.q=(List.range i).map (fun a=>(List.range C).map (fun j=>sm (2*n) (fun t=>at2 A.q t a*at2 A.q t j)))∧(∀r∈rows,r.es.length=C)∧rs.length=i∧qs rs=(List.range i).map (fun a=>sm (2*n) (fun t=>at2 A.q t a*b.q.getD t 0))∧G=[(40, .int .i64 i)]∧M= .blk br (recs e4 (rs.map t4++List.replicate (C - i) z4)) 77:: .blk bn (recs eH (rows.map hdL++List.replicate (C - i) ⟨none,0,0⟩)) 70::M0∧I=dX rows kN::aU rs kN::aH b.p (recs eR b.es)::aH A.p (recs eL A.rows)::iQ b 16::iB A 16::I0) (C) (⟨0,[],[],by omega,rfl,rfl,rfl,fun r hr=>by simp at hr,rfl,rfl,rfl,rfl,rfl⟩) ?_
 rintro kk G M I ⟨i,rows,rs,hi,rfl,hrl,hrq,hrc,hsl,hsq,rfl,rfl,rfl⟩
 by_cases hiC:i < C
 ·have hz:=uN (n:=C - i) (z:=(⟨none,0,0⟩:HD)) (by omega)
  have hz3:=uN (n:=C - i) (z:=z4) (by omega)
  repeat refine aB ?_
  (refine jI (C) rfl rfl (by omega) (by omega) (by omega) (by omega) (rR (enc:=e4) (by decide) z4 C) rfl rfl ?_;intro bi;refine aL ?_)
  rw [hz,hz3]
  have hlh0:((rows.map hdL++(⟨none,0,0⟩:HD)::List.replicate (C - i - 1) ⟨none,0,0⟩).length:Int)=C:=by simp;omega
  repeat refine yXh ?_
  refine mX rfl rfl rfl jL (StAt.r1 (⟨some ⟨bi,0,none⟩,C,C⟩:HD) (by omega) rfl) rfl rfl ⟨okF,?_⟩
  rw [wR (by simp;omega)]
  obtain ⟨hs2,hhs⟩:∃hs2,hs2=rows.map hdL++(⟨some ⟨bi,0,none⟩,C,C⟩:HD)::List.replicate (C - i - 1) ⟨none,0,0⟩:=⟨_,rfl⟩
  rw [←hhs]
  have hgh:gt hs2 (i:Int)=⟨some ⟨bi,0,none⟩,C,C⟩:=by rw [hhs];exact wU (by simp;omega)
  have hlh:hs2.length=C:=by rw [hhs];simp;omega
  have hgp:(gt hs2 (i:Int)).p=some ⟨bi,0,none⟩:=by rw [hgh]
  have hgn:(gt hs2 (i:Int)).n=C:=by rw [hgh]
  have hgc:(gt hs2 (i:Int)).c=C:=by rw [hgh]
  obtain ⟨rz,hrz⟩:∃rz,rz=rs.map t4++z4::List.replicate (C - i - 1) z4:=⟨_,rfl⟩
  rw [←hrz]
  have hlrz:rz.length=C:=by rw [hrz];simp;omega
  repeat refine aB ?_
  refine bH (φ:=aU [] kN) Hv.nilR ?_
  refine rY (M':= .blk bi (recs e4 (List.replicate C z4)) 77:: .blk br (recs e4 rz) 77:: .blk bn (recs eH hs2) 70::M0) (I':=aU [] kN::dX rows kN::aU rs kN::aH b.p (recs eR b.es)::aH A.p (recs eL A.rows)::iQ b 16::iB A 16::I0) aF aD ?_
  refine lV [0,6,7,8,9,10,11,39,40,48] rfl (fun k G M I=>∃(j:Nat) (es:List RE),j≤C∧k=C - j∧es.length=j∧qs es=(List.range j).map (fun j=>sm (2*n) (fun t=>at2 A.q t i*at2 A.q t j))∧G=[(49, .int .i64 j)]∧M= .blk bi (recs e4 (es.map t4++List.replicate (C - j) z4)) 77:: .blk br (recs e4 rz) 77:: .blk bn (recs eH hs2) 70::M0∧I=aU es kN::dX rows kN::aU rs kN::aH b.p (recs eR b.es)::aH A.p (recs eL A.rows)::iQ b 16::iB A 16::I0) (C) (⟨0,[],by omega,rfl,rfl,rfl,rfl,rfl,rfl⟩) ?_
  rintro kk G M I ⟨j,es,hj,rfl,hel,heq,rfl,rfl,rfl⟩
  by_cases hjC:j < C
  ·have hz2:=uN (n:=C - j) (z:=z4) (by omega)
   rw [hz2]
   have hl2:((es.map t4++z4::List.replicate (C - j - 1) z4).length:Int)=C:=by simp;omega
   repeat refine aB ?_
   (repeat refine aG ?_);refine bA 1 [0,1,2,3,4,5,6,7] [1,1,1,1,1,0,0,0] mixed (by kernel_rfl) ?_
   repeat refine aB ?_
   rw [hgp,hgn,hgc]
   repeat refine aB ?_
   (refine aQ rfl (hW0 _ _) ?_;rintro _ _ _ ⟨rfl,e,rfl,he,rfl⟩;refine aL ?_)
   repeat refine yXh ?_
   refine fO (vs:=eR e) rfl rfl rfl (Ones.one e) jL (StAts.r (t4 e) (by omega) rfl) rfl rfl ⟨okF,?_⟩
   rw [wR (by simp;omega)]
   repeat refine aB ?_
   refine rY (M':= .blk bi (recs e4 (es.map t4++t4 e::List.replicate (C - j - 1) z4)) 77:: .blk br (recs e4 rz) 77:: .blk bn (recs eH hs2) 70::M0) (I':=bW e 0::aU es kN::dX rows kN::aU rs kN::aH b.p (recs eR b.es)::aH A.p (recs eL A.rows)::iQ b 16::iB A 16::I0) aF aD ?_
   refine lV [0,6,7,8,9,10,11,12,39,40,48,49,59,60] rfl (fun k G M I=>∃(t:Nat) (e:RE),t≤2*n∧k=2*n - t∧e.q=sm t (fun r=>at2 A.q r i*at2 A.q r j)∧G=[(61, .int .i64 t)]∧M= .blk bi (recs e4 (es.map t4++t4 e::List.replicate (C - j - 1) z4)) 77:: .blk br (recs e4 rz) 77:: .blk bn (recs eH hs2) 70::M0∧I=bW e (t*33)::aU es kN::dX rows kN::aU rs kN::aH b.p (recs eR b.es)::aH A.p (recs eL A.rows)::iQ b 16::iB A 16::I0) (2*n) (⟨0,e,by omega,rfl,he,rfl,rfl,rfl⟩) ?_
   rintro kk G M I ⟨t,e,ht,rfl,he,rfl,rfl,rfl⟩
   have hl3:((es.map t4++t4 e::List.replicate (C - j - 1) z4).length:Int)=C:=by simp;omega
   by_cases htn:t < 2*n
   ·have hcl:=hAC t htn
    have hM:=fun M0 I0 h1 h2=>sQ (X:=X) (w0:=w0) (M0:=M0) (I0:=I0) (a:=gt (gt A.rows (t:Int)).es (i:Int)) (b:=gt (gt A.rows (t:Int)).es (j:Int)) (k:=16) (m:=16) (by omega) h1 h2
    have hP:=fun f M0 I0 h1 h2=>vV (X:=X) (w0:=w0) (M0:=M0) (I0:=I0) (a:=e) (b:=f) (k:=t*33) (m:=32) (by omega) h1 h2
    refine bH (φ:=aH (gt A.rows (t:Int)).p (recs eR (gt A.rows (t:Int)).es)) (Hv.xrsl (m:=A) (k:=16) aA (by omega)) ?_
    repeat refine aB ?_
    (repeat refine aG ?_);refine bA 2 [0,1,2,3,4,5,6,7,8,9,10,11,12,13,14,15,16,17,18,19,20,21,22,23] [2,2,2,2,2,2,2,2,2,2,2,1,2,2,2,1,2,2,2,1,0,0,0,0] mixed (by kernel_rfl) ?_
    repeat refine aB ?_
    rw [hgp,hgn,hgc]
    repeat refine aB ?_
    rw [wU (by simp;omega)]
    (refine aQ rfl (hM _ _ (Hv.xel (m:=A) (k:=16) aA (by omega) (by omega)) (Hv.xel (m:=A) (k:=16) aA (by omega) (by omega))) ?_;rintro _ _ _ ⟨rfl,f,rfl,hf,rfl⟩;refine aL ?_)
    (refine aQ rfl (hP f _ _ (Hv.mem aA) (Hv.mem aA)) ?_;rintro _ _ _ ⟨rfl,e2,rfl,he2,rfl⟩;refine aL ?_)
    repeat refine yXh ?_
    refine fO (vs:=eR e2) rfl rfl rfl (Ones.one e2) jL (StAts.r (t4 e2) (by omega) rfl) rfl rfl ⟨okF,?_⟩
    rw [wR (by simp;omega)]
    repeat refine aB ?_
    have e33:t*33+32+1=(t+1)*33:=by omega
    rw [e33]
    refine gJ (2*n - (t+1)) (⟨t+1,e2,by omega,rfl,by rw [he2,hf,he,←hat t i htn hiC,←hat t j htn hjC];rfl,rfl,rfl,rfl⟩)
   ·obtain rfl:t=2*n:=by omega
    repeat refine aB ?_
    refine dF (φ:=bW e kN) (Hv.q (k:=2*n*33) aA (by show 2*n*33≤4224;omega)) ?_
    refine dF (φ:=aU (es++[e]) kN) (Hv.snoc aA aA) ?_
    have e9:es.map t4++t4 e::List.replicate (C - j - 1) z4=(es++[e]).map t4++List.replicate (C - (j+1)) z4:=by simp [Nat.sub_sub]
    rw [e9]
    refine gJ (C - (j+1)) (⟨j+1,es++[e],by omega,rfl,by simp;omega,by rw [List.range_succ,List.map_append,←heq];show (es++[e]).map RE.q=_;rw [List.map_append];show _++[e.q]=_;rw [he];rfl,rfl,rfl,rfl⟩)
  ·obtain rfl:j=C:=by omega
   rw [Nat.sub_self,List.replicate_zero,List.append_nil,aJA]
   refine aPT (k:=kN) aA ?_
   rw [hel]
   have hl4:((rs.map t4++z4::List.replicate (j - i - 1) z4).length:Int)=j:=by simp;omega
   rw [hrz]
   repeat refine aB ?_
   (refine aQ rfl (hW0 _ _) ?_;rintro _ _ _ ⟨rfl,e,rfl,he,rfl⟩;refine aL ?_)
   repeat refine yXh ?_
   refine fO (vs:=eR e) rfl rfl rfl (Ones.one e) jL (StAts.r (t4 e) (by omega) rfl) rfl rfl ⟨okF,?_⟩
   rw [wR (by simp;omega)]
   repeat refine aB ?_
   refine rY (M':= .blk br (recs e4 (rs.map t4++t4 e::List.replicate (j - i - 1) z4)) 77:: .blk bn (recs eH hs2) 70::M0) (I':=bW e 0::iQ ⟨some ⟨bi,0,none⟩,j,es⟩ kN::dX rows kN::aU rs kN::aH b.p (recs eR b.es)::aH A.p (recs eL A.rows)::iQ b 16::iB A 16::I0) aF aD ?_
   refine lV [0,6,7,8,9,10,11,39,40,94,95] rfl (fun k G M I=>∃(t:Nat) (e:RE),t≤2*n∧k=2*n - t∧e.q=sm t (fun r=>at2 A.q r i*b.q.getD r 0)∧G=[(96, .int .i64 t)]∧M= .blk br (recs e4 (rs.map t4++t4 e::List.replicate (j - i - 1) z4)) 77:: .blk bn (recs eH hs2) 70::M0∧I=bW e (t*33)::iQ ⟨some ⟨bi,0,none⟩,j,es⟩ kN::dX rows kN::aU rs kN::aH b.p (recs eR b.es)::aH A.p (recs eL A.rows)::iQ b 16::iB A 16::I0) (2*n) (⟨0,e,by omega,rfl,he,rfl,rfl,rfl⟩) ?_
   rintro kk G M I ⟨t,e,ht,rfl,he,rfl,rfl,rfl⟩
   have hl3:((rs.map t4++t4 e::List.replicate (j - i - 1) z4).length:Int)=j:=by simp;omega
   by_cases htn:t < 2*n
   ·have hcl:=hAC t htn
    have hM:=fun M0 I0 h1 h2=>sQ (X:=X) (w0:=w0) (M0:=M0) (I0:=I0) (a:=gt (gt A.rows (t:Int)).es (i:Int)) (b:=gt b.es (t:Int)) (k:=16) (m:=16) (by omega) h1 h2
    have hP:=fun f M0 I0 h1 h2=>vV (X:=X) (w0:=w0) (M0:=M0) (I0:=I0) (a:=e) (b:=f) (k:=t*33) (m:=32) (by omega) h1 h2
    refine bH (φ:=aH (gt A.rows (t:Int)).p (recs eR (gt A.rows (t:Int)).es)) (Hv.xrsl (m:=A) (k:=16) aA (by omega)) ?_
    repeat refine aB ?_
    (repeat refine aG ?_);refine bA 2 [0,1,2,3,4,5,6,7,8,9,10,11,12,13,14,15,16,17] [2,2,2,2,2,1,2,2,2,1,2,2,2,1,0,0,0,0] mixed (by kernel_rfl) ?_
    repeat refine aB ?_
    rw [wU (by simp;omega)]
    (refine aQ rfl (hM _ _ (Hv.xel (m:=A) (k:=16) aA (by omega) (by omega)) (Hv.lel (r:=b) (k:=16) aA (by omega))) ?_;rintro _ _ _ ⟨rfl,f,rfl,hf,rfl⟩;refine aL ?_)
    (refine aQ rfl (hP f _ _ (Hv.mem aA) (Hv.mem aA)) ?_;rintro _ _ _ ⟨rfl,e2,rfl,he2,rfl⟩;refine aL ?_)
    repeat refine yXh ?_
    refine fO (vs:=eR e2) rfl rfl rfl (Ones.one e2) jL (StAts.r (t4 e2) (by omega) rfl) rfl rfl ⟨okF,?_⟩
    rw [wR (by simp;omega)]
    repeat refine aB ?_
    have e33:t*33+32+1=(t+1)*33:=by omega
    rw [e33]
    refine gJ (2*n - (t+1)) (⟨t+1,e2,by omega,rfl,by rw [he2,hf,he,←hat t i htn hiC,←hbt t htn];rfl,rfl,rfl,rfl⟩)
   ·obtain rfl:t=2*n:=by omega
    repeat refine aB ?_
    refine dF (φ:=bW e kN) (Hv.q (k:=2*n*33) aA (by show 2*n*33≤4224;omega)) ?_
    refine dF (φ:=aU (rs++[e]) kN) (Hv.snoc aA aA) ?_
    refine dF (φ:=dX (rows++[(⟨some ⟨bi,0,none⟩,j,es⟩:RL)]) kN) (Hv.snocL aA aA) ?_
    have e9:rs.map t4++t4 e::List.replicate (j - i - 1) z4=(rs++[e]).map t4++List.replicate (j - (i+1)) z4:=by simp [Nat.sub_sub]
    have e8:hs2=(rows++[(⟨some ⟨bi,0,none⟩,j,es⟩:RL)]).map hdL++List.replicate (j - (i+1)) ⟨none,0,0⟩:=by rw [hhs];simp [hel,Nat.sub_sub]
    rw [e9,e8]
    refine gJ (j - (i+1)) (⟨i+1,rows++[(⟨some ⟨bi,0,none⟩,j,es⟩:RL)],rs++[e],by omega,rfl,by simp;omega,by rw [List.range_succ,List.map_append,List.map_append,←hrq];show _++[qs es]=_;rw [heq];rfl,fun r hr=>by rcases List.mem_append.1 hr with h|h;exact hrc r h;rw [List.mem_singleton.1 h];exact hel,by simp;omega,by rw [List.range_succ,List.map_append,←hsq];show (rs++[e]).map RE.q=_;rw [List.map_append];show _++[e.q]=_;rw [he];rfl,rfl,rfl,rfl⟩)
 ·obtain rfl:i=C:=by omega
  rw [Nat.sub_self,List.replicate_zero,List.append_nil,aJA,List.replicate_zero,List.append_nil,aUT]
  refine aPT (k:=kN) aA ?_
  rw [hsl]
  refine aAJ (C:=i) (k:=kN) hrl (by omega) aA ?_
  obtain ⟨Nm,hNm⟩:∃z:MX,z=⟨some ⟨bn,0,none⟩,i,rows⟩:=⟨_,rfl⟩
  obtain ⟨Rv,hRv⟩:∃z:RL,z=⟨some ⟨br,0,none⟩,i,rs⟩:=⟨_,rfl⟩
  have dN:Nm.fit i i:=by rw [hNm];exact ⟨⟨hrl,hrc⟩,⟨by omega,by omega⟩,by omega,by omega⟩
  have qN:Nm.q=nrN (2*n) i (tN kd l):=by rw [hNm,←hA];exact hrq
  have lR:Rv.es.length=i:=by rw [hRv];exact hsl
  have qR:Rv.q=nrB (2*n) i (tN kd l) (dsB kd l):=by rw [hRv,←hA,←hb];exact hsq
  have kb6:kb kN i≤17302869:=by rw [←kN_eq];exact sM kN hC6.2
  have hIv:=fun M0 I0 h=>aIJ (X:=X) (w0:=w0) (M0:=M0) (I0:=I0) (a:=Nm) (n:=i) (k0:=kN) (by omega) (by decide) dN h
  have eD:aLU kd l=dt i (at2 Nm.q):=by unfold aLU;rw [hC,hl,qN]
  have hmv:(Value.slice (some ⟨bn,0,none⟩) i i)=mv Nm:=by rw [hNm];show _=Value.slice (some ⟨bn,0,none⟩) rows.length i;rw [hrl]
  have hlv:(Value.slice (some ⟨br,0,none⟩) i i)=lv Rv:=by rw [hRv];show _=Value.slice (some ⟨br,0,none⟩) rs.length i;rw [hsl]
  rw [←hNm,←hRv]
  by_cases hd:aLU kd l=0
  ·have e:qJ kd l=none:=by unfold qJ;rw [if_neg hl0,if_pos hd]
   rw [e]
   rw [eD] at hd
   simp only [if_pos hd] at hIv
   repeat refine aB ?_
   rw [hmv]
   (refine aQ rfl (hIv _ _ aA) ?_;rintro _ _ _ ⟨rfl,rfl,rfl⟩;refine aL ?_)
   repeat refine aB ?_
   refine fB (M':=M0) (I':=I0) aF aD ?_
   refine gH [4,5] (by first|exact .inl rfl|exact .inr rfl) rfl rfl rfl _ _ aF aD (⟨rfl,rfl,_,rfl⟩)
  ·have hd':=hd
   rw [eD] at hd'
   simp only [if_neg hd'] at hIv
   repeat refine aB ?_
   rw [hmv]
   (refine aQ rfl (hIv _ _ aA) ?_;rintro _ _ _ ⟨rfl,Iv,rfl,hIq,hId,rfl⟩;refine aL ?_)
   have fI:Iv.fit i i:=⟨hId,⟨by omega,by omega⟩,by omega,by omega⟩
   refine cK (φ:=iB Iv 17302869) (Hv.xm (k:=kb kN i) aA kb6) ?_
   have hAp:=fun M0 I0 h1 h2=>aRX (X:=X) (w0:=w0) (M0:=M0) (I0:=I0) (a:=Iv) (x:=Rv) (R:=i) (C:=i) (k:=17302869) (m:=kN) (by decide) (by decide) fI lR h1 h2
   repeat refine aB ?_
   rw [hlv]
   (refine aQ rfl (hAp _ _ aA aA) ?_;rintro _ _ _ ⟨rfl,xx,rfl,hxq,rfl⟩;refine aL ?_)
   have hxe:xx.q=zG kd l:=by
    rw [hxq]
    unfold zG lsX
    rw [hC,hl,hIq,qN,qR]
   have lx:xx.es.length=mI kd:=by have:=congrArg List.length hxq;rw [hC];simpa [RL.q,qs] using this
   refine cK (φ:=iQ xx kX) (Hv.lm (k:=i*(17302869+kN+1)) aA (by
    have:i*(17302869+kN+1)≤6*(17302869+kN+1):=Nat.mul_le_mul_right _ hC6.2
    exact Nat.le_trans this (by decide))) ?_
   repeat refine aB ?_
   (refine aQ rfl (aRW (kd:=kd) (k:=kX) (x:=xx) hk (by decide) lx aA) ?_;rintro _ _ _ ⟨rfl,mm,rfl,hmq,hmd,rfl⟩;refine aL ?_)
   have fm:mm.fit 3 3:=⟨hmd,⟨by omega,by omega⟩,by omega,by omega⟩
   rw [hxe] at hmq
   have hRg:=fun M0 I0 h=>aLY (X:=X) (w0:=w0) (M0:=M0) (I0:=I0) (a:=mm) (k:=kX) (by decide) (by decide) fm h
   rw [hmq] at hRg
   by_cases hr:dt 3 (at2 (frm kd (zG kd l)))=0
   ·have e:qJ kd l=none:=by unfold qJ;rw [if_neg hl0,if_neg hd,if_pos hr]
    rw [e]
    rw [bE (show ¬dt 3 (at2 (frm kd (zG kd l)))≠0 from fun h=>h hr)] at hRg
    repeat refine aB ?_
    refine dK rfl (hRg _ _ aA) ?_
    repeat refine aB ?_
    refine fB (M':=M0) (I':=I0) aF aD ?_
    refine gH [4,5] (by first|exact .inl rfl|exact .inr rfl) rfl rfl rfl _ _ aF aD (⟨rfl,rfl,_,rfl⟩)
   ·have e:qJ kd l=some (frm kd (zG kd l)):=by unfold qJ;rw [if_neg hl0,if_neg hd,if_neg hr]
    rw [e]
    rw [bJ (show dt 3 (at2 (frm kd (zG kd l)))≠0 from hr)] at hRg
    repeat refine aB ?_
    refine dK rfl (hRg _ _ aA) ?_
    repeat refine aB ?_
    refine fB (M':=M0) (I':=iB mm kX::I0) aF aD ?_
    refine tyS [4,5] rfl rfl (⟨rfl,mm,rfl,hmq,hmd,rfl⟩)
end
end Go.Proofs.YtmmmfphealhapaaGreat
namespace Go.Fx
section
variable {α:Type} (key:α→Int)
def mg:List α→List α→List α
 |[],ys=>ys
 |x::xs,[]=>x::xs
 |x::xs,y::ys=>if key x≤key y then x::mg xs (y::ys) else y::mg (x::xs) ys
termination_by xs ys=>xs.length+ys.length
theorem aDN (xs:List α):mg key xs []=xs:=by cases xs <;>simp [mg]
theorem aAV (xs:List α):mg key [] xs=xs:=by simp [mg]
theorem vG (x:α) (xs:List α) (y:α) (ys:List α):mg key (x::xs) (y::ys)=if key x≤key y then x::mg key xs (y::ys) else y::mg key (x::xs) ys:=by
 rw [mg]
theorem aON:∀(xs ys:List α),(mg key xs ys).length=xs.length+ys.length
 |[],ys=>by simp [mg]
 |x::xs,[]=>by simp [mg]
 |x::xs,y::ys=>by
  rw [vG]
  split
  ·simp [aON xs (y::ys)];omega
  ·simp [aON (x::xs) ys];omega
termination_by xs ys=>xs.length+ys.length
theorem aDS:∀(xs ys:List α) (z:α),z∈mg key xs ys↔z∈xs∨z∈ys
 |[],ys,z=>by simp [mg]
 |x::xs,[],z=>by simp [mg]
 |x::xs,y::ys,z=>by
  rw [vG]
  split
  ·simp only [List.mem_cons,aDS xs (y::ys) z]
   constructor
   ·rintro (h|h|h|h) <;>simp [h]
   ·rintro ((h|h)|h|h) <;>simp [h]
  ·simp only [List.mem_cons,aDS (x::xs) ys z]
   constructor
   ·rintro (h|(h|h)|h) <;>simp [h]
   ·rintro ((h|h)|h|h) <;>simp [h]
termination_by xs ys=>xs.length+ys.length
theorem uX:∀(X1 Y1 X2 Y2:List α),(∀x∈X1,∀y∈Y2,key x≤key y)→(∀y∈Y1,∀x∈X2,key y < key x)→mg key (X1++X2) (Y1++Y2)=mg key X1 Y1++mg key X2 Y2
 |[],[],X2,Y2,_,_=>by simp [aAV]
 |[],y::Y1,[],Y2,_,_=>by simp [aAV]
 |[],y::Y1,x::X2,Y2,h1,h2=>by
  have h:=h2 y (by simp) x (by simp)
  have ih:=uX [] Y1 (x::X2) Y2 (by simp) (fun y' hy=>h2 y' (by simp [hy]))
  simp only [List.nil_append,aAV] at ih ⊢
  rw [List.cons_append,vG,if_neg (by omega),ih]
  rfl
 |x::X1,[],X2,[],_,_=>by simp [aDN]
 |x::X1,[],X2,y::Y2,h1,h2=>by
  have h:=h1 x (by simp) y (by simp)
  have ih:=uX X1 [] X2 (y::Y2) (fun x' hx=>h1 x' (by simp [hx])) (by simp)
  simp only [List.nil_append,aDN] at ih ⊢
  rw [List.cons_append,vG,if_pos h,ih]
  rfl
 |x::X1,y::Y1,X2,Y2,h1,h2=>by
  rw [List.cons_append,List.cons_append,vG,vG]
  split
  ·have ih:=uX X1 (y::Y1) X2 Y2 (fun x' hx=>h1 x' (by simp [hx])) h2
   rw [←List.cons_append,ih]
   rfl
  ·have ih:=uX (x::X1) Y1 X2 Y2 h1 (fun y' hy=>h2 y' (by simp [hy]))
   rw [←List.cons_append,ih]
   rfl
termination_by X1 Y1=>X1.length+Y1.length
def Asc (l:List α):Prop:=l.Pairwise (fun a b=>key a≤key b)
theorem Asc.mg:∀{X Y:List α},Asc key X→Asc key Y→Asc key (mg key X Y)
 |[],Y,_,hY=>by simpa [aAV] using hY
 |x::X,[],hX,_=>by simpa [aDN] using hX
 |x::X,y::Y,hX,hY=>by
  have hX':=List.pairwise_cons.1 hX
  have hY':=List.pairwise_cons.1 hY
  rw [vG]
  split
  ·refine List.pairwise_cons.2 ⟨fun z hz=>?_,Asc.mg hX'.2 hY⟩
   rcases (aDS key _ _ _).1 hz with hz|hz
   ·exact hX'.1 z hz
   ·rcases List.mem_cons.1 hz with rfl|hz
    ·assumption
    ·have:=hY'.1 z hz;omega
  ·refine List.pairwise_cons.2 ⟨fun z hz=>?_,Asc.mg hX hY'.2⟩
   rcases (aDS key _ _ _).1 hz with hz|hz
   ·rcases List.mem_cons.1 hz with rfl|hz
    ·omega
    ·have:=hX'.1 z hz;omega
   ·exact hY'.1 z hz
termination_by X Y=>X.length+Y.length
def srt (l:List α):List α:=l.foldl (fun acc x=>mg key acc [x]) []
theorem aPN:srt key ([]:List α)=[]:=rfl
theorem aEC (l:List α) (x:α):srt key (l++[x])=mg key (srt key l) [x]:=by simp [srt,List.foldl_append]
theorem aBC:∀(n:Nat) (l:List α),l.length=n→Asc key (srt key l)∧(srt key l).length=l.length
 |0,l,h=>by
  have:l=[]:=List.eq_nil_of_length_eq_zero h
  subst this
  exact ⟨List.Pairwise.nil,rfl⟩
 |n+1,l,h=>by
  have hne:l≠[]:=by intro e;subst e;simp at h
  obtain ⟨B',x,rfl⟩:∃B' x,l=B'++[x]:=⟨l.dropLast,l.getLast hne,(List.dropLast_concat_getLast hne).symm⟩
  have ih:=aBC n B' (by simpa using h)
  rw [aEC]
  exact ⟨Asc.mg key ih.1 (List.pairwise_singleton _ _),by rw [aON,ih.2];simp⟩
theorem aHQ (l:List α):Asc key (srt key l):=(aBC key _ l rfl).1
theorem aAC (l:List α):(srt key l).length=l.length:=(aBC key _ l rfl).2
theorem aCR (z:α):∀(n:Nat) (l:List α),l.length=n→(z∈srt key l↔z∈l)
 |0,l,h=>by
  have:l=[]:=List.eq_nil_of_length_eq_zero h
  subst this
  simp [aPN]
 |n+1,l,h=>by
  have hne:l≠[]:=by intro e;subst e;simp at h
  obtain ⟨B',x,rfl⟩:∃B' x,l=B'++[x]:=⟨l.dropLast,l.getLast hne,(List.dropLast_concat_getLast hne).symm⟩
  rw [aEC,aDS,aCR z n B' (by simpa using h)]
  simp
theorem bDO {P1 P2:List α} {x:α} (h1:∀y∈P1,key y≤key x) (h2:∀y∈P2,key x < key y):mg key (P1++P2) [x]=P1++x::P2:=by
 have:=uX key P1 [] P2 [x] (fun a ha b hb=>by simp at hb;subst hb;exact h1 a ha) (by simp)
 simp only [List.nil_append,aDN] at this
 rw [this]
 congr 1
 have:=uX key [] [x] P2 [] (by simp) (fun y hy a ha=>by simp at hy;subst hy;exact h2 a ha)
 simpa [aAV,aDN] using this
theorem Asc.left {A B:List α} (h:Asc key (A++B)):Asc key A:=(List.pairwise_append.1 h).1
theorem Asc.right {A B:List α} (h:Asc key (A++B)):Asc key B:=(List.pairwise_append.1 h).2.1
theorem Asc.cross {A B:List α} (h:Asc key (A++B)):∀a∈A,∀b∈B,key a≤key b:=(List.pairwise_append.1 h).2.2
theorem Asc.at [Inhabited α] {l:List α} (h:Asc key l) {i j:Nat} (hij:i≤j) (hj:j < l.length):key (gt l (i:Int))≤key (gt l (j:Int)):=by
 rw [fE hj,fE (show i < l.length by omega)]
 by_cases e:i=j
 ·subst e;exact Int.le_refl _
 ·exact List.pairwise_iff_getElem.1 h i j _ _ (by omega)
/- parts -/
theorem aXK [Inhabited α] (A B:List α) (k:Nat):gt (A++B) (k:Int)=if k < A.length then gt A (k:Int) else gt B ((k - A.length:Nat):Int):=by
 rw [aIE,aIE,aIE]
 simp only [List.getD]
 split
 ·rename_i h;rw [List.getElem?_append_left h]
 ·rename_i h;rw [List.getElem?_append_right (by omega)]
theorem bCF [Inhabited α] {A B:List α} {x:α} {i:Int} (h:i=A.length):gt (A++x::B) i=x:=by
 subst h
 rw [aXK,if_neg (by omega)]
 simp [gt]
theorem bCM {A B:List α} {x y:α} {i:Int} (h:i=A.length):st (A++x::B) i y=A++y::B:=by
 subst h
 simp [st]
theorem bEA {A B:List α} {x y:α} {i j:Int} (hi:i=A.length) (hj:j=A.length+1):st (st (A++x::y::B) j x) i y=A++y::x::B:=by
 have:A++x::y::B=(A++[x])++y::B:=by simp
 rw [this,bCM (by simp;omega)]
 have:(A++[x])++x::B=A++x::x::B:=by simp
 rw [this,bCM hi]
end
end Go.Fx
namespace Go.Proofs.YtmmmfphealhapaaGreat
open Go Go.Fx
/- ---------- the stable sort of []int ---------- -/
section
variable {X:List Nat} {w0:World} {M0:List Ent} {I0:List aM}
def CmpI (g:FuncId) (fs cs':Array Value) (key:Int→Int) (Pr:Int→Prop) (X:List Nat) (w0:World) (b:Nat) (e:TypeId) (M0:List Ent) (I0:List aM):Prop:=
 ∀(cs:List Value) (x y:Int),Pr x→Pr y→CD Tryz.prog g (fs.toList++[(Value.int .i64) x,(Value.int .i64) y]++cs'.toList) X w0 (.blk b cs e::M0) I0 (fun v M I=> .blk b cs e::M0=M∧I0=I∧∃r:Int,v= .int .i64 r∧(r < 0↔key x < key y))
end
/- ---------- the stable sort of []int: merging in place ---------- -/
section
variable {X:List Nat} {w0:World} {M0:List Ent} {I0:List aM}
end
/- ---------- the stable sort of []int: whole, below 40 elements ---------- -/
section
variable {X:List Nat} {w0:World} {M0:List Ent} {I0:List aM}
end
theorem aEP {P:Program} {n:Nat} {G:Env} {ty:TypeId} {C:World→Prop} {t:TypeId} {x ix:Operand} {s:ByteArray} {k:IntKind} {i:Int} {b:UInt8} [ht:StrTy P t] (hx:ev G x=some (.string s)) (hi:ev G ix=some (.int k i)) (h0:0≤i) (hb:s[i.toNat]?=some b):
  Const P n G (.index t x ix) ty C (.int .u8 b.toNat):=by
 refine ⟨?_⟩
 intro st ha dst pos after guard w _
 simp [execOp,Instr.index,ha.ev hx,ha.ev hi,asIntOf,eU ht.und,h0,hb]
theorem aXU {P:Program} {n:Nat} {ops l:List Oper} {Q:Exit→Act→World→Prop} {m:Fx.Mode} {G:Env} {X:List Nat} {w0:World} {M:List Ent} {I:List aM} {ty:TypeId} {pos:String} {af:Array Edge} {g:Option (Nat × Bool)} {d:Nat} {t:TypeId} {x ix:Operand} {s:ByteArray} {kk:IntKind} {i:Int} [StrTy P t]
  (hx:ev G x=some (.string s)) (hi:ev G ix=some (.int kk i)) (h0:0≤i) (h1:i.toNat < s.size) (hg:oQ ops G g=some true) (hd:Nat.ble (d+1) n=true)
  (k:∀b:Int,0≤b∧b < 256→RD P n ops Q m.next l ((d, .int .u8 b)::G) X w0 M I):RD P n ops Q m (⟨some d, .index t x ix,ty,pos,af,g⟩::l) G X w0 M I:=
 aC hg (fun _=>aEP hx hi h0 (getElem?_pos s i.toNat h1)) rfl hd (k _ ⟨Int.natCast_nonneg _,by have:=UInt8.toNat_lt (s[i.toNat]'h1);omega⟩)
section
variable {X:List Nat} {w0:World} {M0:List Ent} {I0:List aM}
theorem aWQ {x:Int}:CD Tryz.prog 251 [.int .i64 x] X w0 M0 I0 (fun v M I=>M0=M∧I0=I∧v= .bool false):=by
 refine aS Tryz.func251 rfl Tryz.ntmps251 rfl ?_
 repeat refine aB ?_
 refine iA rfl rfl (⟨rfl,rfl,congrArg Value.bool (bE (fun h=>h rfl))⟩)
theorem aZB {x y:Int}:CD Tryz.prog 287 [.int .i64 x, .int .i64 y] X w0 M0 I0 (fun v M I=>M0=M∧I0=I∧v= .bool (B (x < y))):=by
 refine aN Tryz.func287 rfl Tryz.ntmps287 rfl ?_
 repeat refine aB ?_
 refine dK rfl (aWQ) ?_
 repeat refine aB ?_
 refine iA rfl rfl (⟨rfl,rfl,rfl⟩)
theorem aSI {x:Int} (h0:0≤x) (h1:x < 256):CD Tryz.prog 291 [.int .u64 x] X w0 M0 I0 (fun v M I=>M0=M∧I0=I∧∃r:Int,v= .int .i64 r):=by
 refine aS Tryz.func291 rfl Tryz.ntmps291 rfl ?_
 repeat refine aB ?_
 refine aXU rfl rfl h0 (Nat.lt_of_lt_of_eq (show x.toNat < 256 by omega) rfl) rfl rfl (fun b hb=>?_)
 repeat refine aB ?_
 refine aP (by first|exact .inl rfl|exact .inr rfl) rfl rfl _ _ aF aD (⟨rfl,rfl,_,rfl⟩)
theorem aYW {x:Int} (h0:0≤x) (h1:x < 256):CD Tryz.prog 256 [.int .u64 x] X w0 M0 I0 (fun v M I=>M0=M∧I0=I∧∃r:Int,v= .int .i64 r):=by
 refine aS Tryz.func256 rfl Tryz.ntmps256 rfl ?_
 repeat refine aB ?_
 (refine aQ rfl (aSI h0 h1) ?_;rintro _ _ _ ⟨rfl,rfl,r,rfl⟩;refine aL ?_)
 repeat refine aB ?_
 refine iA rfl rfl (⟨rfl,rfl,r,rfl⟩)
end
section
variable {X:List Nat} {w0:World} {M0:List Ent} {I0:List aM}
theorem bBP {b n c:Nat} {tl:List Value} {P B S:List Int} {a z:Int} (hn:n=(P++B++S).length)
  (ha:a=P.length) (hz:z=P.length+B.length) (hbd:(n:Int)≤1000000):
  CD Tryz.prog 281 [.slice (some ⟨b,0,none⟩) n c, .int .i64 a, .int .i64 z] X w0 (.blk b (recs (eI .i64) (P++B++S)++tl) 3::M0) I0
   (fun _ M I=> .blk b (recs (eI .i64) (P++srt id B++S)++tl) 3::M0=M∧I0=I):=by
 have hlen:(P++B++S).length=P.length+B.length+S.length:=by simp [Nat.add_assoc]
 refine dV Tryz.func281 rfl Tryz.ntmps281 rfl ?_
 repeat (refine wXn ?_)
 refine bX [0,1,2] rfl (fun k G M I=>∃(q:Nat) (i:Int) (D:List Int),i=a+1+q∧k=B.length - q∧(i≤z∨q=0)∧D=P++(srt id (B.take (q+1))++(B.drop (q+1)++S))∧G=[(6, .int .i64 i)]∧M= .blk b (recs (eI .i64) D++tl) 3::M0∧I0=I) (B.length) _ _ _ dE bQ bP (⟨0,a+1,_,by omega,by omega, .inr rfl,?_,rfl,rfl,rfl⟩) ?_
 ·cases B with
  |nil=>simp [aPN]
  |cons x r=>simp [srt,aAV]
 rintro k G M I ⟨q,i,D,hi,rfl,hq,hD,rfl,rfl,rfl⟩
 have hDl:D.length=n:=by
  rw [hD,hn];simp [aAC];omega
 repeat' (first|refine wXn ?_|refine aK rfl (fun h=>?_) (fun h=>?_)|refine aJ rfl rfl (fun h=>?_) (fun h=>?_)|fail)
 ·have hqB:q+1 < B.length:=by omega
  have hx:B.drop (q+1)=B[q+1]::B.drop (q+2):=List.drop_eq_getElem_cons hqB
  have hxB:B[q+1]∈B:=List.getElem_mem hqB
  have htk:B.take (q+2)=B.take (q+1)++[B[q+1]]:=List.take_succ_eq_append_getElem hqB
  generalize B[q+1]=x at hx hxB htk
  have hsl:=aAC id (B.take (q+1))
  have htl:(B.take (q+1)).length=q+1:=by simp;omega
  refine bX [0,1,2,6] rfl (fun k G M I=>∃(P1 P2 D:List Int) (j:Int),srt id (B.take (q+1))=P1++P2∧j=P.length+P1.length∧k=P1.length∧(∀y∈P2,x < y)∧D=(P++P1)++x::(P2++(B.drop (q+2)++S))∧G=[(7, .int .i64 j)]∧M= .blk b (recs (eI .i64) D++tl) 3::M0∧I0=I) (q+1) _ _ _ dE bQ bP (⟨srt id (B.take (q+1)),[],D,i,by simp,by omega,by omega,by simp,by rw [hD,hx];simp,rfl,rfl,rfl⟩) ?_
  rintro k G M I ⟨P1,P2,D,j,hs,hj,rfl,hP2,hD',rfl,rfl,rfl⟩
  have hDl':D.length=n:=by
   have:=congrArg List.length hs
   rw [hD',hn];simp at this ⊢;omega
  have hasc:=aHQ id (B.take (q+1))
  rw [hs] at hasc
  have done1:(∀y∈P1,y≤x)→D=P++(srt id (B.take (q+1+1))++(B.drop (q+1+1)++S)):=fun h1=>by
   rw [show q+1+1=q+2 from rfl,htk,aEC,hs,bDO id h1 hP2,hD']
   simp
  have hl2:=congrArg List.length hs
  simp only [List.length_append] at hl2
  by_cases hja:a < j
  ·have hne:P1≠[]:=by intro e;subst e;simp at hj;omega
   obtain ⟨Q1,y,rfl⟩:∃Q1 y,P1=Q1++[y]:=⟨P1.dropLast,P1.getLast hne,(List.dropLast_concat_getLast hne).symm⟩
   have hyB:y∈B:=by
    have:y∈srt id (B.take (q+1)):=by rw [hs];simp
    exact List.mem_of_mem_take ((aCR id y _ _ rfl).1 this)
   simp only [List.length_append,List.length_cons,List.length_nil] at hj hl2
   have hDe:D=(P++Q1)++y::x::(P2++(B.drop (q+2)++S)):=by rw [hD'];simp
   have gj:gt D j=x:=by rw [hD'];exact bCF (by simp;omega)
   have gj1:gt D (j - 1)=y:=by rw [hDe];exact bCF (by simp;omega)
   (repeat refine aG ?_);refine dJ [0,1,2,3,4,5,6,7,8,9,10,11,12,13,14] [1,1,1,0,1,1,1,0,1,1,1,1,0,0,0] mixed (by kernel_rfl) ?_
   repeat (refine wXn ?_)
   rw [gj,gj1]
   (refine aO rfl (aZB (x:=x) (y:=y)) rfl rfl ?_;rintro _ _ _ ⟨rfl,rfl,rfl⟩;refine ⟨okD,?_⟩)
   by_cases hxy:x < y
   ·rw [bJ hxy]
    repeat (refine wXn ?_)
    (repeat refine aG ?_);refine aRF [0,1,2,3,4,5,6,7,8,9,10,11,12,13,14,15,16,17] [0,0,1,1,1,0,0,0,0,0,1,1,1,0,0,0,0,0] mixed (by kernel_rfl) ?_
    repeat (refine wXn ?_)
    rw [gj,gj1]
    refine cB (Q1.length) _ _ _ (by simp) dE bQ bP ⟨Q1,y::P2,_,j - 1,by rw [hs];simp,by omega,rfl,fun u hu=>?_,?_,rfl,rfl,rfl⟩
    ·rcases List.mem_cons.1 hu with rfl|hu
     ·exact hxy
     ·exact hP2 u hu
    ·rw [hDe,bEA (by simp;omega) (by simp;omega)]
     simp
   ·rw [bE hxy]
    repeat (refine wXn ?_)
    refine cB (B.length - (q+1)) _ _ _ (by first|omega|(simp only [List.length_append,List.length_cons,List.length_nil];omega)) dE bQ bP (⟨q+1,i+1,D,by omega,rfl, .inl (by omega),done1 (fun u hu=>?_),rfl,rfl,rfl⟩)
    rcases List.mem_append.1 hu with hu|hu
    ·have:u≤y:=Asc.cross id (Asc.left id hasc) u hu y (by simp)
     omega
    ·simp at hu;subst hu;omega
  ·have:P1=[]:=List.eq_nil_of_length_eq_zero (by omega)
   subst this
   (repeat refine aG ?_);refine dJ [0,1,2,3,4,5,6,7,8,9,10,11,12,13,14] [1,1,1,0,1,1,1,0,1,1,1,1,0,0,0] mixed (by kernel_rfl) ?_
   repeat (refine wXn ?_)
   refine cB (B.length - (q+1)) _ _ _ (by first|omega|(simp only [List.length_append,List.length_cons,List.length_nil];omega)) dE bQ bP (⟨q+1,i+1,D,by omega,rfl, .inl (by omega),done1 (by simp),rfl,rfl,rfl⟩)
 ·have h1:B.take (q+1)=B:=List.take_of_length_le (by omega)
  have h2:B.drop (q+1)=[]:=List.drop_eq_nil_of_le (by omega)
  rw [h1,h2] at hD
  simp only [List.nil_append,←List.append_assoc] at hD
  subst hD
  refine nH (by first|exact .inl rfl|exact .inr rfl) rfl _ _ bQ bP (⟨rfl,rfl⟩)
theorem bAX {b n c:Nat} {tl:List Value} {D:List Int} (hn:n=D.length) (hb:n≤12):
  CD Tryz.prog 206 [.slice (some ⟨b,0,none⟩) n c] X w0 (.blk b (recs (eI .i64) D++tl) 3::M0) I0 (fun _ M I=> .blk b (recs (eI .i64) (srt id D)++tl) 3::M0=M∧I0=I):=by
 have h1:=bBP (X:=X) (w0:=w0) (M0:=M0) (I0:=I0) (b:=b) (c:=c) (tl:=tl) (P:=[]) (B:=D) (S:=[]) (a:=0) (z:=D.length) (n:=n) (by simp [hn]) (by simp) (by simp) (by omega)
 simp only [List.append_nil,List.nil_append] at h1
 rw [←hn] at h1
 have hp:∀r:Int,CD Tryz.prog 255 [.slice (some ⟨b,0,none⟩) n c, .int .i64 0, .int .i64 n, .int .i64 r] X w0 (.blk b (recs (eI .i64) D++tl) 3::M0) I0 (fun _ M I=> .blk b (recs (eI .i64) (srt id D)++tl) 3::M0=M∧I0=I):=fun r=>by
  refine dV Tryz.func255 rfl Tryz.ntmps255 rfl ?_
  repeat (refine wXn ?_)
  refine bX [0] rfl (fun k G M I=>k=0∧G=[(1, .int .i64 0),(2, .int .i64 n),(3, .int .i64 r),(8, .bool true),(9, .bool true)]∧M= .blk b (recs (eI .i64) D++tl) 3::M0∧I0=I) (0) _ _ _ dE bQ bP (⟨rfl,rfl,rfl,rfl⟩) ?_
  rintro k G M I ⟨rfl,rfl,rfl,rfl⟩
  repeat (refine wXn ?_)
  (refine aO rfl (h1) rfl rfl ?_;rintro _ _ _ ⟨rfl,rfl⟩;refine ⟨okD,?_⟩)
  repeat (refine wXn ?_)
  refine nH (by first|exact .inl rfl|exact .inr rfl) rfl _ _ bQ bP (⟨rfl,rfl⟩)
 refine dV Tryz.func206 rfl Tryz.ntmps206 rfl ?_
 repeat (refine wXn ?_)
 (refine aO rfl (aYW (x:=(n:Int)) (by omega) (by omega)) rfl rfl ?_;rintro _ _ _ ⟨rfl,rfl,r,rfl⟩;refine ⟨okD,?_⟩)
 repeat (refine wXn ?_)
 (refine aO rfl (hp r) rfl rfl ?_;rintro _ _ _ ⟨rfl,rfl⟩;refine ⟨okD,?_⟩)
 repeat (refine wXn ?_)
 refine nH (by first|exact .inl rfl|exact .inr rfl) rfl _ _ bQ bP (⟨rfl,rfl⟩)
end
end Go.Proofs.YtmmmfphealhapaaGreat
namespace Go.Proofs.YtmmmfphealhapaaGreat
open Go Go.Fx Go.RowKit Go.Shelf
attribute [local go_sem] Oper.semAt_some
theorem aUN (F:Fence) (n:Nat) (h:F.fn 207) (hro:F.round=none) (hn:1≤n) (l Bs n₀ b off cap:Nat) (zs:List Int) (hreach:zs.length*8≤140737488351232) (hb:b < n₀) (J Jx:List Int→World→Prop)
  (hY:∀pre x W,J pre W→pre.length < zs.length→YieldAt F (n - 1) Tryz.prog l #[.int .i64 x] W fun e W'=>
   (e= .returned (.bool true)∧J (pre++[x]) W'∧Below n₀ W W')∨(e= .returned (.bool false)∧Jx (pre++[x]) W'))
  (W:World) (hBs:W.cell? ⟨Bs,0,none⟩=some (.slice (some ⟨b,off,none⟩) zs.length cap)) (hc:∀j,j < zs.length→W.cell? ⟨b,off+j,none⟩=some (.int .i64 (zs[j]?.getD 0))) (h0:J [] W):
  CallsIn F n Tryz.prog 207 #[.func (.yield l) #[] #[], .pointer (some ⟨Bs,0,none⟩)] W fun e W'=>(∃v,e= .returned v)∧
   ((∃ys,ys=zs∧J ys W')∨(∃pre,pre <+:zs∧Jx pre W')):=by
 refine callsIn_of_wp Tryz.func207 rfl h ?_ hro
 simp only [Tryz.ntmps207,List.size_toArray,List.length_cons,List.length_nil,Nat.reduceAdd,Nat.reduceSub,Array.replicate_succ,Array.replicate_zero,List.push_toArray,List.append_toArray,List.nil_append,List.cons_append]
 gi_wp2
 gi_loopw [7] (fun i wr=>∃k:Nat,k≤zs.length∧i= .int .i64 k∧J (zs.take k) wr∧Below n₀ W wr)
  (fun i _=>zs.length - (intOf i).toNat)
 case atStart=>exact ⟨0,Nat.zero_le _,rfl,h0,Below.refl _ _⟩
 case round=>
  obtain ⟨k,hk,rfl,hJs,hnx⟩:=hrel
  have hcx:k < zs.length→wr.cell? ⟨b,off+k,none⟩=some (.int .i64 (zs[k]?.getD 0)):=fun h=>(hnx.cell (p:=⟨b,off+k,none⟩) hb).trans (hc k h)
  by_cases hlt:k < zs.length
  ·obtain ⟨fn,tmps,assign,body,hy,hR⟩:=hY _ (zs[k]?.getD 0) wr hJs (by rw [List.length_take];omega)
   have hcx':=hcx hlt
   clear hcx
   have hts:zs.take (k+1)=zs.take k++[zs[k]?.getD 0]:=by
    rw [List.take_add_one];congr 1
    simp [hlt]
   obtain ⟨g,hg⟩:∃g,zs[k]?.getD 0=g:=⟨_,rfl⟩
   rw [hg] at hy hR hcx' hts
   gi_wp2
   refine hR.mono ?_
   rintro e W3 (⟨rfl,hJ3,hk3⟩|⟨rfl,hJx3⟩)
   ·gi_wp2
    go_roundw
    case rel=>exact ⟨k+1,by omega,by simp,by rw [hts];exact hJ3,hnx.trans hk3⟩
    case measure=>simp [intOf];omega
   ·gi_wp2
    refine bodyPost_ret (results_none rfl _ _ _) rfl ?_
    exact ⟨⟨_,rfl⟩, .inr ⟨_,by rw [←hts];exact List.take_prefix _ _,hJx3⟩⟩
  ·obtain rfl:k=zs.length:=by omega
   rw [List.take_length] at hJs
   gi_wp2
   go_end0
   exact ⟨⟨_,rfl⟩, .inl ⟨_,rfl,hJs⟩⟩
theorem aII (F:Fence) (n:Nat) (h:F.fn 207) (hro:F.round=none) (l Bs c:Nat) (a:Option Addr) (J:List Int→World→Prop) (W:World) (hBs:W.cell? ⟨Bs,0,none⟩=some (.slice a 0 c)) (h0:J [] W):
  CallsIn F n Tryz.prog 207 #[.func (.yield l) #[] #[], .pointer (some ⟨Bs,0,none⟩)] W fun e W'=>(∃v,e= .returned v)∧J [] W':=by
 refine callsIn_of_wp Tryz.func207 rfl h ?_ hro
 simp only [Tryz.ntmps207,List.size_toArray,List.length_cons,List.length_nil,Nat.reduceAdd,Nat.reduceSub,Array.replicate_succ,Array.replicate_zero,List.push_toArray,List.append_toArray,List.nil_append,List.cons_append]
 gi_wp2
 gi_loopw [7] (fun i wr=>i= .int .i64 0∧J [] wr) (fun _ _=>0)
 case atStart=>exact ⟨rfl,h0⟩
 case round=>
  obtain ⟨rfl,hJs⟩:=hrel
  gi_wp2
  go_end0
  exact ⟨⟨_,rfl⟩,hJs⟩
theorem aBZ {w:World} {b off:Nat} {zs:List Int} (h:Sl [] w (some ⟨b,off,none⟩) (recs (eI .i64) zs)):∀j,j < zs.length→w.cell? ⟨b,off+j,none⟩=some (.int .i64 (zs[j]?.getD 0)):=by
 intro j hj
 have h1:(recs (eI .i64) zs)[j]?=some (.int .i64 (zs[j]?.getD 0)):=by
  rw [kQ,List.getElem?_map]
  simp [hj]
 exact (h j _ h1).2.2
theorem aNF (F:Fence) (n:Nat) (h:F.fn 207) (hro:F.round=none) (hn:1≤n) (Bs n₀:Nat) (a:Option Addr) (cap:Nat) (zs:List Int) (hreach:zs.length*8≤140737488351232) (w:World) (hBs:Bs < w.heap.size) (hn₀:n₀≤w.heap.size)
  (hc:w.cell? ⟨Bs,0,none⟩=some (.slice a zs.length cap)) (hI:Sl [] w a (recs (eI .i64) zs)) (hlt:0 < zs.length→∀b,a.map (·.block)=some b→b < n₀):
  SeqStopsK F n Tryz.prog 207 #[.pointer (some ⟨Bs,0,none⟩)] (fun x:Int=>#[Value.int .i64 x]) (Below n₀) (fun ys=>ys=zs) (fun pre=>pre <+:zs) zs.length w:=fun l J Jx W hW _ _ hY h0=>by
 have hc':=(hW.cell (p:=⟨Bs,0,none⟩) (show Bs < w.heap.size from hBs)).trans hc
 by_cases hz:zs.length=0
 ·have hnil:zs=[]:=List.length_eq_zero_iff.1 hz
  rw [hz] at hc'
  exact (aII F n h hro l Bs cap a J W hc' h0).mono fun e W' ⟨he,hj⟩=>⟨he, .inl ⟨_,by rw [hnil],hj⟩⟩
 ·obtain ⟨b,off,rfl⟩:=(Sl.ok hI (by rw [fH];omega)).cases
  have hb:b < n₀:=hlt (by omega) b rfl
  have hcs:=aBZ hI
  exact aUN F n h hro hn l Bs n₀ b off cap zs hreach hb J Jx hY W hc' (fun j hj=>(hW.cell (p:=⟨b,off+j,none⟩) (show b < w.heap.size from Nat.lt_of_lt_of_le hb hn₀)).trans (hcs j hj)) h0
theorem aXA:(Tryz.prog.info? 3).map (fun i=>(i.zero,i.size,i.bytes))=some (some (.int .i64 0),1,8):=by kernel_rfl
theorem bAP (a:Option Addr) (cap Bs:Nat) (zs:List Int) (w:World) (hlen:zs.length≤1000000) (hBs:Bs < w.heap.size) (hc:w.cell? ⟨Bs,0,none⟩=some (.slice a zs.length cap)) (hI:Sl [] w a (recs (eI .i64) zs)) (hlt:0 < zs.length→∀b,a.map (·.block)=some b→b < w.heap.size):
  CallsIn Fence.wide 5 Tryz.prog 254 #[.slice none 0 0, .func (.func 207) #[] #[.pointer (some ⟨Bs,0,none⟩)]] w fun e w'=>∃v,e= .returned v∧w'.ownsRow w.heap.size 3 1 v zs.length (zs.map (Value.int .i64))∧Below w.heap.size w w':=by
 obtain ⟨i0,hi,hz0,hz1,hz2⟩:=info_parts aXA
 refine callsIn_of_wp_marks Tryz.func254 rfl trivial ?_ rfl
 simp only [Tryz.ntmps254,List.size_toArray,List.length_cons,List.length_nil,Nat.reduceAdd,Nat.reduceSub,Array.replicate_succ,Array.replicate_zero,List.push_toArray,List.append_toArray,List.nil_append,List.cons_append]
 gi_wp2
 have bO:=Boxed.new w 31 (.slice none 0 0)
 have hB0:Below w.heap.size w (w.alloc (.cells #[.slice none 0 0] 31)):=(Below.refl _ w).alloc (Nat.le_refl _) _
 refine wpIn_rangeFunc_ownG rfl (by decide) (gf:=207) (lb:=#[.pointer (some ⟨Bs,0,none⟩)]) rfl trivial (enters_of Tryz.func207 (by kernel_rfl) rfl)
  (aNF Fence.wide (5 - 1) trivial rfl (by decide) Bs w.heap.size a cap zs (by omega) _ (by simp;omega) (by simp) ((hB0.cell (p:=⟨Bs,0,none⟩) hBs).trans hc) (Sl.mono hI (Ext.of_below hB0)) hlt) belowK_t (belowK_b (by simp)) (Below.refl _ _) (fun _=>rfl)
  (fun pre W=>(∃v,Boxed W w.heap.size 31 v∧W.ownsRow w.heap.size 3 1 v pre.length (pre.map (Value.int .i64))∧True)∧Below w.heap.size w W)
  (fun _ _ _=>False)
  (OwnFrom.and (Own.from (holdsRow_own w.heap.size w.heap.size 31 3 1 (fun pre:List Int=>pre.length) (fun pre=>pre.map (Value.int .i64)) (fun _ _=>True)) _) (ownFrom_below (Nat.le_refl _) (by simp)))
  (fun _ _ _ _ _ hs _ _=>hs)
  ⟨⟨_,bO,World.ownsRow_nil _ _ _ _,trivial⟩,hB0⟩ ?a1 ?assign ?body ?done ?stop
 case assign=>
  intro l x W K hK
  gi_wp2
  exact hK
 case body=>
  rintro l pre x W ⟨⟨v,hv,hrow,_⟩,hB⟩ hlt
  have hc:=hv.cell
  have hml : zs.length ≤ maxLen := by have : maxLen = 9223372036854775807 := by decide
                                      omega
  gi_wp2_with (gi_at_builtin;refine wpListIn_append_own _ rfl _ _ 31 rfl w.heap.size 3 i0 (.int .i64 0) 1 8 Tryz.underlying31 hi hz0 hz1 hz2 rfl (by decide) _ _ _ rfl (hrow.alloc _) ⟨W.heap.size,0,none⟩ 1 1 [.int .i64 x] rfl rfl (cell_one_new _ _ _) (by simp [Value.oneCell']) (by omega) (by omega) (by have:=hB.size;simp;omega) ?_;intro v' w1 hown' hgrow _;obtain ⟨g',cap',rfl⟩:=ownsRow_succ hown';obtain ⟨hv1,hv2,hr2,hk2,hb2⟩:=hv.appended (by decide) hrow hB.size (Nat.le_refl _) hown' hgrow;have hc1:=hv1.cell;have hf1:=hv1.frozen)
  exact ⟨hk2.from _,hb2,⟨_,hv2,by simpa using hr2,trivial⟩,hB.trans hb2⟩
 case done=>
  rintro D ys W hD rfl ⟨⟨v,hv,hrow,_⟩,hB⟩ hK
  have hc:=hv.cell
  gi_wp2
  refine ⟨by simp, .inl ⟨_,_,rfl,run_takeDeferred hK,?_⟩⟩
  exact ⟨_,results_tmp rfl _ _ _,v,rfl,ownsRow_putObj hrow _ hK rfl,hB.trans (belowK_b (w:=w) (Nat.le_refl _) W D _ _ (by simp at hD;omega) hK rfl rfl)⟩
 case stop=>
  rintro D c pre W _ _ h _
  exact h.elim
theorem bDI {w:World} {a:Option Addr} {zs:List Int} (h:Sl [] w a (recs (eI .i64) zs)):0 < zs.length→∀b,a.map (·.block)=some b→b < w.heap.size:=by
 intro hp b hb
 obtain ⟨b',off,rfl⟩:=(Sl.ok h (by rw [fH];omega)).cases
 simp at hb;subst hb
 have h3:=aBZ h 0 hp
 exact Classical.byContradiction (fun hlt=>by
  unfold World.cell? at h3
  rw [Array.getElem?_eq_none (by simpa using hlt)] at h3
  simp at h3)
section
variable {X:List Nat} {w0:World} {M0:List Ent} {I0:List aM}
theorem bBE {q:Option Addr} {zs:List Int} {c Bs:Nat} (hn:zs.length≤1000000) (hb:aH (some ⟨Bs,0,none⟩) [.slice q zs.length c]∈I0) (hq:aH q (recs (eI .i64) zs)∈I0):
  CD Tryz.prog 254 [.slice none 0 0, .func (.func 207) #[] #[.pointer (some ⟨Bs,0,none⟩)]] X w0 M0 I0 (fun v M I=>I0=I∧∃q' c',v= .slice q' zs.length c'∧M= .row q' zs.length c' (recs (eI .i64) zs) 3 1::M0):=by
 refine ⟨fun w hw=>?_⟩
 have hS:=(hw.sl hb).less (Y:=[]) (by simp)
 have h3:w.cell? ⟨Bs,0,none⟩=some (.slice q zs.length c):=(hS 0 _ rfl).2.2
 have hsq:=(hw.sl hq).less (Y:=[]) (by simp)
 have hBs:Bs < w.heap.size:=Classical.byContradiction (fun hlt=>by
  unfold World.cell? at h3
  rw [Array.getElem?_eq_none (by simpa using hlt)] at h3
  simp at h3)
 refine Calls.mono (callsIn_wide.1 (bAP q c Bs zs w hn hBs h3 hsq (bDI hsq))) ?_
 rintro e w' ⟨v,rfl,hO,hB⟩
 obtain ⟨a',c',rfl,_,hle,_⟩:=aDX hO
 refine ⟨_,rfl,_,_,⟨rfl,a',c',rfl,rfl⟩,?_⟩
 rw [kQ]
 refine hw.push (Ext.of_below hB) ?_ ?_ (aTU hO (Nat.zero_le _))
 ·intro b hb
  cases a' with
  |none=>simp [Ent.blocks] at hb
  |some a'=>
   simp [Ent.blocks] at hb;subst hb
   exact (aXE hO _ rfl).1
 ·cases a' <;>simp [Ent.blocks]
end
end Go.Proofs.YtmmmfphealhapaaGreat
namespace Go.Proofs.YtmmmfphealhapaaGreat
open Go Go.Fx
section
variable {X:List Nat} {w0:World} {M0:List Ent} {I0:List aM}
theorem aFZ {q:Option Addr} {n c:Nat}:CD Tryz.prog 133 [.slice q n c] X w0 M0 I0 (fun v M I=>M0=M∧∃b,v= .func (.func 207) #[] #[.pointer (some ⟨b,0,none⟩)]∧I=aH (some ⟨b,0,none⟩) [.slice q n c]::I0):=by
 refine aS Tryz.func133 rfl Tryz.ntmps133 rfl ?_
 refine iH ?_
 (refine pX rfl rfl rfl ?_;intro b1;refine aL ?_)
 repeat refine aB ?_
 refine iA rfl rfl (⟨rfl,b1,rfl,rfl⟩)
end
section
variable {X:List Nat} {w0:World} {M0:List Ent} {I0:List aM}
theorem aDO {q:Option Addr} {zs:List Int} {c b n:Nat} (hl:zs.length=n) (hn:1≤n∧n≤12) (hb:aH (some ⟨b,0,none⟩) [.slice q n c]∈I0) (hq:aH q (recs eZ zs)∈I0):
  CD Tryz.prog 132 [.func (.func 207) #[] #[.pointer (some ⟨b,0,none⟩)]] X w0 M0 I0 (fun v M I=>I0=I∧∃(b2 c2:Nat) (tl:List Value),v= .slice (some ⟨b2,0,none⟩) n c2∧n≤c2∧M= .blk b2 (recs eZ (srt id zs)++tl) 3::M0):=by
 subst hl
 have hA:=fun M0 I0 hb hq=>bBE (X:=X) (w0:=w0) (M0:=M0) (I0:=I0) (q:=q) (zs:=zs) (c:=c) (Bs:=b) (by omega) hb hq
 have hC:∀M0 I0,aH (some ⟨b,0,none⟩) [.slice q zs.length c]∈I0→aH q (recs eZ zs)∈I0→CD Tryz.prog 205 [.func (.func 207) #[] #[.pointer (some ⟨b,0,none⟩)]] X w0 M0 I0 (fun v M I=>I0=I∧∃q' c',v= .slice q' zs.length c'∧M= .row q' zs.length c' (recs eZ zs) 3 1::M0):=fun M0 I0 h1 h2=>by
  refine aS Tryz.func205 rfl Tryz.ntmps205 rfl ?_
  repeat refine aB ?_
  (refine aQ rfl (hA _ _ aA aA) ?_;rintro _ _ _ ⟨rfl,q',c',rfl,rfl⟩;refine aL ?_)
  repeat refine aB ?_
  refine iA rfl rfl (⟨rfl,q',c',rfl,rfl⟩)
 refine aS Tryz.func132 rfl Tryz.ntmps132 rfl ?_
 repeat refine aB ?_
 (refine aQ rfl (hC _ _ aA aA) ?_;rintro _ _ _ ⟨rfl,q1,c1,rfl,rfl⟩;refine aL ?_)
 refine aBI (fun h1 h2 h3=>?_) (fun bq tl e hle=>?_)
 ·omega
 ·subst e
  repeat refine aB ?_
  (refine aQ rfl (bAX (b:=bq) (tl:=tl) (D:=zs) rfl hn.2) ?_;rintro _ _ _ ⟨rfl,rfl⟩;refine aL ?_)
  repeat refine aB ?_
  refine iA rfl rfl (⟨rfl,bq,c1,tl,rfl,hle,rfl⟩)
end
end Go.Proofs.YtmmmfphealhapaaGreat
