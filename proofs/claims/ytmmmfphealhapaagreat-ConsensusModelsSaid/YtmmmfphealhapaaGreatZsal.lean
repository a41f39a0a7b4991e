/- integer: Divide, Of at negative numbers integer: Of at all numbers fraction: reduced, Vali -/
import Derived.Test.YtmmmfphealhapaaGreatZsaj
import Derived.Test.YtmmmfphealhapaaGreatZsae
import Derived.Test.YtmmmfphealhapaaGreatZsak
import Derived.Test.YtmmmfphealhapaaGreatZsag
import Derived.Test.YtmmmfphealhapaaGreatZsaf
set_option linter.unusedSimpArgs false
set_option linter.unusedVariables false
set_option maxRecDepth 100000
set_option maxHeartbeats 4000000
namespace Go.Proofs.YtmmmfphealhapaaGreat
open Go Go.Fx
theorem yE {a b k:Nat} (h:a≤2 ^ k):a / b≤2 ^ k:=Nat.le_trans (Nat.div_le_self _ _) h
section
variable {X:List Nat} {w0:World} {M0:List Ent} {I0:List aM}
def DvP (s t:Int) (k m:Nat) (M0:List Ent) (I0:List aM) (v:Value) (M:List Ent) (I:List aM):Prop:=M0=M∧∃v1 v2,v= .tuple #[v1,v2, .int .i64 0]∧I=gW v2 t m::gW v1 s k::I0
theorem aUK {y z s t:Int} {q q':Option Addr} {a b Q R k m cq cq':Nat} (hb0:¬(gr b).length=0) (hA1:¬(gr R).length=0) (hA2:¬(y < 0↔z < 0)) (hg1:gr 1=[1])
  (h1:∀M0 I0,aH q (recs eG (gr a))∈I0→CD Tryz.prog 126 [.agg #[.bool (B (y < 0)), .slice q (gr a).length cq]] X w0 M0 I0 (fun v M I=>M0=M∧I0=I∧v= .slice q (gr a).length cq))
  (h2:∀M0 I0,aH q' (recs eG (gr b))∈I0→CD Tryz.prog 126 [.agg #[.bool (B (z < 0)), .slice q' (gr b).length cq']] X w0 M0 I0 (fun v M I=>M0=M∧I0=I∧v= .slice q' (gr b).length cq'))
  (hO:∀M0 I0,aH q (recs eG (gr a))∈I0→aH q' (recs eG (gr b))∈I0→CD Tryz.prog 127 [.slice q (gr a).length cq, .slice q' (gr b).length cq'] X w0 M0 I0 (QrP Q R M0 I0))
  (hC:∀p2 c2,sF p2 R c2→∀M0 I0,aH p2 (recs eG (gr R))∈I0→CD Tryz.prog 128 [.slice p2 (gr R).length c2] X w0 M0 I0 (fun v M I=>I0=I∧∃q' c',v= .slice q' (gr R).length c'∧M= .row q' (gr R).length c' (recs eG (gr R)) 121 1::M0))
  (hP:∀p1 c1 p2 M0 I0,aH p1 (recs eG (gr Q))∈I0→aH p2 (recs eG [1])∈I0→CD Tryz.prog 129 [.slice p1 (gr Q).length c1, .slice p2 1 1] X w0 M0 I0 (GrP (Q+1) M0 I0))
  (hMi:∀p3 c3 M0 I0,aH q' (recs eG (gr b))∈I0→aH p3 (recs eG (gr R))∈I0→CD Tryz.prog 130 [.slice q' (gr b).length cq', .slice p3 (gr R).length c3] X w0 M0 I0 (GrP (b - R) M0 I0))
  (hM1:∀p4 c4,sF p4 (Q+1) c4→∀M0 I0,aH p4 (recs eG (gr (Q+1)))∈I0→CD Tryz.prog 123 [.bool (B (¬(y < 0↔z < 0))), .slice p4 (gr (Q+1)).length c4] X w0 M0 I0 (fun v M I=>M0=M∧I=gW v s k::I0))
  (hM2:∀p4 c4,sF p4 (b - R) c4→∀M0 I0,aH p4 (recs eG (gr (b - R)))∈I0→CD Tryz.prog 123 [.bool (B (z < 0)), .slice p4 (gr (b - R)).length c4] X w0 M0 I0 (fun v M I=>M0=M∧I=gW v t m::I0))
  (hq:aH q (recs eG (gr a))∈I0) (hq':aH q' (recs eG (gr b))∈I0):
  CD Tryz.prog 60 [.agg #[.bool (B (y < 0)), .slice q (gr a).length cq], .agg #[.bool (B (z < 0)), .slice q' (gr b).length cq']] X w0 M0 I0 (DvP s t k m M0 I0):=by
 refine aN Tryz.func60 rfl Tryz.ntmps60 rfl ?_
 refine iH ?_
 refine gU rfl (fun b1=>?_)
 refine gU rfl (fun b2=>?_)
 refine dS (fun b3=>?_)
 refine dS (fun b4=>?_)
 repeat refine aR ?_
 (repeat refine aG ?_);refine bA 4 [0,2,1,3,4,5] [1,1,0,0,0,0] mixed (by kernel_rfl) ?_
 repeat' (first|refine aR ?_|refine aK rfl (fun h=>?_) (fun h=>?_)|refine aJ rfl rfl (fun h=>?_) (fun h=>?_)|fail)
 refine dK rfl (h1 _ _ aA) ?_
 repeat' (first|refine aR ?_|refine aK rfl (fun h=>?_) (fun h=>?_)|refine aJ rfl rfl (fun h=>?_) (fun h=>?_)|fail)
 refine dK rfl (h2 _ _ aA) ?_
 repeat' (first|refine aR ?_|refine aK rfl (fun h=>?_) (fun h=>?_)|refine aJ rfl rfl (fun h=>?_) (fun h=>?_)|fail)
 (refine aQ rfl (hO _ _ aA aA) ?_;rintro _ _ _ ⟨rfl,p1,c1,p2,c2,ho1,ho2,rfl,rfl⟩;refine aL ?_)
 repeat' (first|refine aR ?_|refine aK rfl (fun h=>?_) (fun h=>?_)|refine aJ rfl rfl (fun h=>?_) (fun h=>?_)|fail)
 (refine aQ rfl (hC p2 c2 ho2 _ _ aA) ?_;rintro _ _ _ ⟨rfl,p3,c3,rfl,rfl⟩;refine aL ?_)
 refine eX xW ?_
 repeat' (first|refine aR ?_|refine aK rfl (fun h=>?_) (fun h=>?_)|refine aJ rfl rfl (fun h=>?_) (fun h=>?_)|fail)
 refine gX (cs:=recs eG [1]) ([.int .u32 1]) rfl (fun b5=>?_)
 refine aI xW ?_
 (refine aQ rfl (hP p1 c1 (some ⟨b5,0,none⟩) _ _ aA aA) ?_;rintro _ _ _ ⟨rfl,p4,c4,rfl,hc4,rfl⟩;refine aL ?_)
 repeat' (first|refine aR ?_|refine aK rfl (fun h=>?_) (fun h=>?_)|refine aJ rfl rfl (fun h=>?_) (fun h=>?_)|fail)
 (refine aQ rfl (hMi p3 c3 _ _ aA aA) ?_;rintro _ _ _ ⟨rfl,p5,c5,rfl,hc5,rfl⟩;refine aL ?_)
 repeat refine aR ?_
 (repeat refine aG ?_);refine qQ (.blk b2 [.bool (B (z < 0)), .slice q' (gr b).length cq'] 42:: .blk b1 [.bool (B (y < 0)), .slice q (gr a).length cq] 42::M0) (I0) [0,1,2,3,4,5,7,8,9,6,10,11,12,13] [2,2,2,2,1,1,3,2,2,0,0,0,0,0] mixed ?_
 repeat' (first|refine aR ?_|refine aK rfl (fun h=>?_) (fun h=>?_)|refine aJ rfl rfl (fun h=>?_) (fun h=>?_)|fail)
 (refine aQ rfl (hM1 p4 c4 hc4 _ _ aA) ?_;rintro _ _ _ ⟨rfl,rfl⟩;refine aL ?_;refine aW (List.Mem.head _) (fun q6 c6 e__ hc6 hz6=>?_);subst e__)
 repeat' (first|refine aR ?_|refine aK rfl (fun h=>?_) (fun h=>?_)|refine aJ rfl rfl (fun h=>?_) (fun h=>?_)|fail)
 (refine aQ rfl (hM2 p5 c5 hc5 _ _ aA) ?_;rintro _ _ _ ⟨rfl,rfl⟩;refine aL ?_;refine aW (List.Mem.head _) (fun q7 c7 e__ hc7 hz7=>?_);subst e__)
 unfold iv
 repeat' (first|refine aR ?_|refine aK rfl (fun h=>?_) (fun h=>?_)|refine aJ rfl rfl (fun h=>?_) (fun h=>?_)|fail)
 refine fF (rs:=[.cell 4 42, .cell 5 42, .tmp 6]) (.inl rfl) rfl (.cellN inferInstance rfl aA rfl (.cellN inferInstance rfl aA rfl (.tmp rfl .nil))) rfl M0 (gW (.agg #[.bool (B (t < 0)), .slice q7 (gr t.natAbs).length c7]) t m::gW (.agg #[.bool (B (s < 0)), .slice q6 (gr s.natAbs).length c6]) s k::I0) aF aD ⟨rfl,_,_,rfl,rfl⟩
theorem aXF {y z s t:Int} {q q':Option Addr} {a b Q R k m cq cq':Nat} (hb0:¬(gr b).length=0) (hA:(gr R).length=0∨(y < 0↔z < 0))
  (h1:∀M0 I0,aH q (recs eG (gr a))∈I0→CD Tryz.prog 126 [.agg #[.bool (B (y < 0)), .slice q (gr a).length cq]] X w0 M0 I0 (fun v M I=>M0=M∧I0=I∧v= .slice q (gr a).length cq))
  (h2:∀M0 I0,aH q' (recs eG (gr b))∈I0→CD Tryz.prog 126 [.agg #[.bool (B (z < 0)), .slice q' (gr b).length cq']] X w0 M0 I0 (fun v M I=>M0=M∧I0=I∧v= .slice q' (gr b).length cq'))
  (hO:∀M0 I0,aH q (recs eG (gr a))∈I0→aH q' (recs eG (gr b))∈I0→CD Tryz.prog 127 [.slice q (gr a).length cq, .slice q' (gr b).length cq'] X w0 M0 I0 (QrP Q R M0 I0))
  (hC:∀p2 c2,sF p2 R c2→∀M0 I0,aH p2 (recs eG (gr R))∈I0→CD Tryz.prog 128 [.slice p2 (gr R).length c2] X w0 M0 I0 (fun v M I=>I0=I∧∃q' c',v= .slice q' (gr R).length c'∧M= .row q' (gr R).length c' (recs eG (gr R)) 121 1::M0))
  (hM1:∀p4 c4,sF p4 Q c4→∀M0 I0,aH p4 (recs eG (gr Q))∈I0→CD Tryz.prog 123 [.bool (B (¬(y < 0↔z < 0))), .slice p4 (gr Q).length c4] X w0 M0 I0 (fun v M I=>M0=M∧I=gW v s k::I0))
  (hM2:∀p4 c4,sF p4 R c4→∀M0 I0,aH p4 (recs eG (gr R))∈I0→CD Tryz.prog 123 [.bool (B (z < 0)), .slice p4 (gr R).length c4] X w0 M0 I0 (fun v M I=>M0=M∧I=gW v t m::I0))
  (hq:aH q (recs eG (gr a))∈I0) (hq':aH q' (recs eG (gr b))∈I0):
  CD Tryz.prog 60 [.agg #[.bool (B (y < 0)), .slice q (gr a).length cq], .agg #[.bool (B (z < 0)), .slice q' (gr b).length cq']] X w0 M0 I0 (DvP s t k m M0 I0):=by
 refine aN Tryz.func60 rfl Tryz.ntmps60 rfl ?_
 refine iH ?_
 refine gU rfl (fun b1=>?_)
 refine gU rfl (fun b2=>?_)
 refine dS (fun b3=>?_)
 refine dS (fun b4=>?_)
 repeat refine aR ?_
 (repeat refine aG ?_);refine bA 4 [0,2,1,3,4,5] [1,1,0,0,0,0] mixed (by kernel_rfl) ?_
 repeat' (first|refine aR ?_|refine aK rfl (fun h=>?_) (fun h=>?_)|refine aJ rfl rfl (fun h=>?_) (fun h=>?_)|fail)
 refine dK rfl (h1 _ _ aA) ?_
 repeat' (first|refine aR ?_|refine aK rfl (fun h=>?_) (fun h=>?_)|refine aJ rfl rfl (fun h=>?_) (fun h=>?_)|fail)
 refine dK rfl (h2 _ _ aA) ?_
 repeat' (first|refine aR ?_|refine aK rfl (fun h=>?_) (fun h=>?_)|refine aJ rfl rfl (fun h=>?_) (fun h=>?_)|fail)
 (refine aQ rfl (hO _ _ aA aA) ?_;rintro _ _ _ ⟨rfl,p1,c1,p2,c2,ho1,ho2,rfl,rfl⟩;refine aL ?_)
 repeat' (first|refine aR ?_|refine aK rfl (fun h=>?_) (fun h=>?_)|refine aJ rfl rfl (fun h=>?_) (fun h=>?_)|fail)
 (refine aQ rfl (hC p2 c2 ho2 _ _ aA) ?_;rintro _ _ _ ⟨rfl,p3,c3,rfl,rfl⟩;refine aL ?_)
 refine nG (fun w hw=>And.intro (hw.rowLe (List.Mem.head _)) ((hw.rowS (List.Mem.head _)).2.imp id And.right)) (fun ho3=>?_)
 refine eX xW ?_
 repeat' (first|refine aR ?_|refine aK rfl (fun h=>?_) (fun h=>?_)|refine aJ rfl rfl (fun h=>?_) (fun h=>?_)|fail)
 all_goals
  ((repeat refine aG ?_);refine qQ (.blk b2 [.bool (B (z < 0)), .slice q' (gr b).length cq'] 42:: .blk b1 [.bool (B (y < 0)), .slice q (gr a).length cq] 42::M0) (I0) [0,1,2,3,4,5,7,8,9,6,10,11,12,13] [2,2,2,2,1,1,3,2,2,0,0,0,0,0] mixed ?_)
  repeat' (first|refine aR ?_|refine aK rfl (fun h=>?_) (fun h=>?_)|refine aJ rfl rfl (fun h=>?_) (fun h=>?_)|fail)
  (refine aQ rfl (hM1 p1 c1 ho1 _ _ aA) ?_;rintro _ _ _ ⟨rfl,rfl⟩;refine aL ?_;refine aW (List.Mem.head _) (fun q6 c6 e__ hc6 hz6=>?_);subst e__)
  repeat' (first|refine aR ?_|refine aK rfl (fun h=>?_) (fun h=>?_)|refine aJ rfl rfl (fun h=>?_) (fun h=>?_)|fail)
  (refine aQ rfl (hM2 p3 c3 ho3 _ _ aA) ?_;rintro _ _ _ ⟨rfl,rfl⟩;refine aL ?_;refine aW (List.Mem.head _) (fun q7 c7 e__ hc7 hz7=>?_);subst e__)
  unfold iv
  repeat' (first|refine aR ?_|refine aK rfl (fun h=>?_) (fun h=>?_)|refine aJ rfl rfl (fun h=>?_) (fun h=>?_)|fail)
  refine fF (rs:=[.cell 4 42, .cell 5 42, .tmp 6]) (.inl rfl) rfl (.cellN inferInstance rfl aA rfl (.cellN inferInstance rfl aA rfl (.tmp rfl .nil))) rfl M0 (gW (.agg #[.bool (B (t < 0)), .slice q7 (gr t.natAbs).length c7]) t m::gW (.agg #[.bool (B (s < 0)), .slice q6 (gr s.natAbs).length c6]) s k::I0) aF aD ⟨rfl,_,_,rfl,rfl⟩
theorem aAX {u v:Value} {y z:Int} {k m:Nat} (hk:k≤1000000000000) (hm:m≤1000000000000) (hz0:z≠0) (hu:gW u y k∈I0) (hv:gW v z m∈I0):
  CD Tryz.prog 60 [u,v] X w0 M0 I0 (DvP (y.fdiv z) (y.fmod z) k m M0 I0):=by
 refine bZ hu (fun q cq e hc hy=>?_)
 subst e
 refine bZ (List.Mem.tail _ hv) (fun q' cq' e hc' hz=>?_)
 subst e
 have hly:=fA hy
 have hlz:=fA hz
 have hfd:=aAN (y:=y) hz0
 have hz1:0 < z.natAbs:=by omega
 have hmod:=Nat.mod_lt y.natAbs hz1
 have hqb:y.natAbs / z.natAbs≤2 ^ k:=yE hy
 have hrb:y.natAbs % z.natAbs≤2 ^ m:=by omega
 have hlq:=fA hqb
 have hlr:=fA hrb
 have hlz1:¬(gr z.natAbs).length=0:=fun e=>by have:=oO.1 (List.eq_nil_of_length_eq_zero e);omega
 have hg1:gr 1=[1]:=wM (f:=1) (by decide) (by decide)
 have hr0:(gr (y.natAbs % z.natAbs)).length=0↔y.natAbs % z.natAbs=0:=by rw [List.length_eq_zero_iff,oO]
 refine CD.post (K:=DvP (y.fdiv z) (y.fmod z) k m M0 (aH q' (recs eG (gr z.natAbs))::aH q (recs eG (gr y.natAbs))::I0)) ?_ (fun v M I w h hw=>?_)
 case refine_2=>
  obtain ⟨e1,v1,v2,e2,e3⟩:=h
  subst e1;subst e3
  exact ⟨_,_,⟨rfl,v1,v2,e2,rfl⟩,hw.inc (Inc.cons (by simp) (Inc.cons (by simp) (Inc.wk (Inc.wk (Inc.wk (Inc.wk Inc.refl))))))⟩
 have hG1:=fun M0 I0 h=>iP (X:=X) (w0:=w0) (M0:=M0) (I0:=I0) (c:=cq) (q:=q) (z:=y) hy (by omega) h
 have hG2:=fun M0 I0 h=>iP (X:=X) (w0:=w0) (M0:=M0) (I0:=I0) (c:=cq') (q:=q') (z:=z) hz (by omega) h
 have hO:=fun M0 I0=>aPL (X:=X) (w0:=w0) (M0:=M0) (I0:=I0) (p:=q) (q:=q') (m:=y.natAbs) (n:=z.natAbs) (cp:=cq) (cq:=cq') (by omega) (by omega) hz1 hc
 have hCl:=fun p2 c2 (ho2:sF p2 (y.natAbs % z.natAbs) c2) M0 I0 h=>aAP (X:=X) (w0:=w0) (M0:=M0) (I0:=I0) (q:=p2) (a:=gr (y.natAbs % z.natAbs)) (c:=c2) (by omega) ho2.2 h
 unfold iv at hG1 hG2 ⊢
 by_cases hA:(gr (y.natAbs % z.natAbs)).length=0∨(y < 0↔z < 0)
 ·obtain ⟨e1,e2⟩:=hfd.2 (hA.elim (fun h=> .inr (hr0.1 h)) .inl)
  have s1:sg (¬(y < 0↔z < 0)) (y.natAbs / z.natAbs)=y.fdiv z:=by rw [e1];rfl
  have s2:sg (z < 0) (y.natAbs % z.natAbs)=y.fmod z:=by rw [e2];rfl
  have hM1:=fun p4 c4 (h4:sF p4 (y.natAbs / z.natAbs) c4) M0 I0 h=>mD (X:=X) (w0:=w0) (M0:=M0) (I0:=I0) (p:=¬(y < 0↔z < 0)) (k:=k) (by omega) h4 hqb h
  have hM2:=fun p4 c4 (h4:sF p4 (y.natAbs % z.natAbs) c4) M0 I0 h=>mD (X:=X) (w0:=w0) (M0:=M0) (I0:=I0) (p:=z < 0) (k:=m) (by omega) h4 hrb h
  rw [s1] at hM1
  rw [s2] at hM2
  exact aXF hlz1 hA hG1 hG2 hO hCl hM1 hM2 (by simp) (by simp)
 ·have hA1:¬(gr (y.natAbs % z.natAbs)).length=0:=fun h=>hA (.inl h)
  have hA2:¬(y < 0↔z < 0):=fun h=>hA (.inr h)
  have hAr:y.natAbs % z.natAbs≠0:=fun h=>hA1 (hr0.2 h)
  obtain ⟨e1,e2⟩:=hfd.1 hA2 hAr
  have hab:=Nat.div_add_mod y.natAbs z.natAbs
  have hbQ:y.natAbs / z.natAbs≤z.natAbs*(y.natAbs / z.natAbs):=Nat.le_mul_of_pos_left _ hz1
  have hQ1:y.natAbs / z.natAbs+1≤2 ^ k:=by omega
  have hR1:z.natAbs - y.natAbs % z.natAbs≤2 ^ m:=by omega
  have hlQ1:=fA hQ1
  have hlR1:=fA hR1
  have s1:sg (¬(y < 0↔z < 0)) (y.natAbs / z.natAbs+1)=y.fdiv z:=by rw [e1];unfold sg;rw [if_pos hA2]
  have s2:sg (z < 0) (z.natAbs - y.natAbs % z.natAbs)=y.fmod z:=by rw [e2];rfl
  have hM1:=fun p4 c4 (h4:sF p4 (y.natAbs / z.natAbs+1) c4) M0 I0 h=>mD (X:=X) (w0:=w0) (M0:=M0) (I0:=I0) (p:=¬(y < 0↔z < 0)) (k:=k) (by omega) h4 hQ1 h
  have hM2:=fun p4 c4 (h4:sF p4 (z.natAbs - y.natAbs % z.natAbs) c4) M0 I0 h=>mD (X:=X) (w0:=w0) (M0:=M0) (I0:=I0) (p:=z < 0) (k:=m) (by omega) h4 hR1 h
  rw [s1] at hM1
  rw [s2] at hM2
  have hP:=fun p1 c1 p2 M0 I0=>aOU (X:=X) (w0:=w0) (M0:=M0) (I0:=I0) (p:=p1) (q:=p2) (m:=y.natAbs / z.natAbs) (n:=1) (cp:=c1) (cq:=1) (by omega) (by rw [hg1];simp)
  simp only [hg1] at hP
  have hMi:=fun p3 c3 M0 I0=>aDY (X:=X) (w0:=w0) (M0:=M0) (I0:=I0) (p:=q') (q:=p3) (m:=z.natAbs) (n:=y.natAbs % z.natAbs) (cp:=cq') (cq:=c3) (by omega) (by omega)
  exact aUK hlz1 hA1 hA2 hg1 hG1 hG2 hO hCl hP hMi hM1 hM2 (by simp) (by simp)
end
theorem aTL {n:Nat} (h:0 < n∧n≤9223372036854775808):IntKind.u64.wrap (0 - (-(n:Int)+18446744073709551616))=n:=by
 simp [IntKind.wrap,IntKind.bits,IntKind.signed];omega
section
variable {X:List Nat} {w0:World} {M0:List Ent} {I0:List aM}
theorem bCZ {n:Nat} (hx:0 < n∧n≤9223372036854775808):CD Tryz.prog 58 [.int .i64 (-(n:Int))] X w0 M0 I0 (fun v M I=>M0=M∧I=gW v (-(n:Int)) 63::I0):=by
 have hn:n≤2 ^ 63:=by omega
 have hlt:(-(n:Int)) < 0:=by omega
 have hMd:=fun (q':Option Addr) (c':Nat) (hc':sF q' n c') M0 I0=>mD (X:=X) (w0:=w0) (M0:=M0) (I0:=I0) (p:=(-(n:Int)) < 0) (q:=q') (c:=c') (k:=63) (by have:=fA hn;omega) hc' hn
 have hs2:sg ((-(n:Int)) < 0) n= -(n:Int):=by unfold sg;rw [if_pos hlt]
 rw [hs2] at hMd
 refine aS Tryz.func58 rfl Tryz.ntmps58 rfl ?_
 refine iH ?_
 refine dS (fun b=>?_)
 repeat refine aR ?_
 refine aC rfl (fun _=>fD rfl (aLK (by omega))) rfl rfl ?_
 repeat refine aR ?_
 refine aC rfl (fun _=>gD rfl (aTL hx)) rfl rfl ?_
 repeat refine aR ?_
 (refine aQ rfl (uK (n:=n) (by omega)) ?_;rintro _ _ _ ⟨rfl,q',c',rfl,hc',rfl⟩;refine aL ?_)
 (refine aQ rfl (hMd q' c' hc' _ _ aA) ?_;rintro _ _ _ ⟨rfl,rfl⟩;refine aL ?_;refine aW (List.Mem.head _) (fun q2 c2 e__ hc2 hz2=>?_);subst e__)
 unfold iv
 repeat refine aR ?_
 refine aT (cs:=[.bool (B (-(n:Int) < 0)), .slice q2 (gr (-(n:Int)).natAbs).length c2]) (.inl rfl) rfl rfl aA rfl _ _ aF aD ⟨rfl,rfl⟩
theorem aFA {x:Int} (hx: -9223372036854775808≤x∧x≤9223372036854775807):CD Tryz.prog 58 [.int .i64 x] X w0 M0 I0 (fun v M I=>M0=M∧I=gW v x 63::I0):=by
 by_cases h:x < 0
 ·obtain ⟨n,rfl⟩:∃n:Nat,x= -(n:Int):=⟨x.natAbs,by omega⟩
  exact bCZ (by omega)
 ·exact Of_ok (by omega)
end
section
variable {X:List Nat} {w0:World} {M0:List Ent} {I0:List aM}
theorem rO {u:Value} {z:Int} {k:Nat} (hk:k≤1000000000000) (hu:gW u z k∈I0):
  CD Tryz.prog 120 [u] X w0 M0 I0 (fun v M I=>M0=M∧I0=I∧v= .bool true):=by
 refine CD.post (K:=fun v M I=>M0=M∧(∃q,aH q (recs eG (gr z.natAbs))::I0=I)∧v= .bool true) (bZ hu (fun q c e hc hz=>?_)) (fun v M I w h hw=>?_)
 case refine_2=>
  obtain ⟨e1,⟨q,e2⟩,e3⟩:=h
  subst e1;subst e2
  exact ⟨_,_,⟨rfl,rfl,e3⟩,hw.inc (Inc.wk Inc.refl)⟩
 subst e
 have hl:=fT hz hk
 refine (wP (neg:=B (z < 0)) (gs:=gr z.natAbs) (by omega) (List.Mem.head _)).mono (fun v M I h=>⟨h.1,⟨q,h.2.1⟩,?_⟩)
 rw [h.2.2]
 exact congrArg Value.bool (bJ (aBE z))
theorem vF {u v:Value} {n d:Int} {k:Nat} (hk:k≤500000000000) (hd0:d≠0) (hu:gW u n k∈I0) (hv:gW v d k∈I0):
  CD Tryz.prog 167 [u,v] X w0 M0 I0 (RQ (Rat.divInt n d) k M0 I0):=by
 have hS:=fun M0 I0=>qB (X:=X) (w0:=w0) (M0:=M0) (I0:=I0) (u:=v) (z:=d) (k:=k) (by omega)
 refine bZ hu (fun q cq e hc hy=>?_)
 subst e
 refine bZ (List.Mem.tail _ hv) (fun q' cq' e hc' hz=>?_)
 subst e
 obtain ⟨r,hr⟩:∃r,r=Rat.divInt n d:=⟨_,rfl⟩
 have key:∀n' d':Int,0 < d'→Rat.divInt n' d'=Rat.divInt n d→(∀u v M0 I0,gW u n' k∈I0→gW v (Int.gcd n' d':Int) (k+k)∈I0→CD Tryz.prog 60 [u,v] X w0 M0 I0 (DvP r.num (n'.fmod (Int.gcd n' d')) k (k+k) M0 I0))∧(∀u v M0 I0,gW u d' k∈I0→gW v (Int.gcd n' d':Int) (k+k)∈I0→CD Tryz.prog 60 [u,v] X w0 M0 I0 (DvP r.den (d'.fmod (Int.gcd n' d')) k (k+k) M0 I0)):=by
  intro n' d' hd' he
  obtain ⟨e1,e2,e3⟩:=aQK (n:=n') (d:=d') (g:=(Int.gcd n' d':Int)) (by omega) (by rw [if_neg (by omega)])
  rw [he,←hr] at e1 e2
  refine ⟨fun u v M0 I0 h1 h2=>?_,fun u v M0 I0 h1 h2=>?_⟩
  ·have:=aAX (X:=X) (w0:=w0) (M0:=M0) (I0:=I0) (k:=k) (m:=k+k) (by omega) (by omega) e3 h1 h2
   rwa [e1] at this
  ·have:=aAX (X:=X) (w0:=w0) (M0:=M0) (I0:=I0) (k:=k) (m:=k+k) (by omega) (by omega) e3 h1 h2
   rwa [e2] at this
 rw [←hr]
 have hN:=fun u z M0 I0=>aIA (X:=X) (w0:=w0) (M0:=M0) (I0:=I0) (u:=u) (z:=z) (k:=k) (by omega)
 have hG:=fun u v n' d' M0 I0=>aIW (X:=X) (w0:=w0) (M0:=M0) (I0:=I0) (u:=u) (v:=v) (y:=n') (z:=d') (k0:=k) (m:=k) (by omega) (by omega)
 by_cases hneg:d < 0
 ·have hs:d.sign= -1:=Int.sign_eq_neg_one_of_neg hneg
  obtain ⟨hD1,hD2⟩:=key (-n) (-d) (by omega) aFE
  rw [hs] at hS
  clear key
  obtain ⟨g,hg⟩:∃g:Int,g=(Int.gcd (-n) (-d):Int):=⟨_,rfl⟩
  rw [←hg] at hD1 hD2
  have hG:=fun u v=>hG u v (-n) (-d)
  rw [←hg] at hG
  obtain ⟨n1,hn1⟩:∃g:Int,g= -n:=⟨_,rfl⟩
  obtain ⟨d1,hd1⟩:∃g:Int,g= -d:=⟨_,rfl⟩
  have hN1:=fun u=>hN u n
  have hN2:=fun u=>hN u d
  rw [←hn1] at hN1 hD1 hG
  rw [←hd1] at hN2 hD2 hG
  unfold iv at*
  refine aN Tryz.func167 rfl Tryz.ntmps167 rfl ?_
  refine iH ?_
  refine gU rfl (fun b=>?_)
  refine gU rfl (fun b2=>?_)
  refine dS (fun b4=>?_)
  repeat refine aR ?_
  refine dK rfl (hS _ _ aA) ?_
  repeat refine aR ?_
  (repeat refine aG ?_);refine bA 2 [0,2,1,3,4,5] [1,2,0,0,0,0] mixed (by kernel_rfl) ?_
  repeat refine aR ?_
  (refine aQ rfl (hN1 _ _ _ aA) ?_;rintro _ _ _ ⟨rfl,rfl⟩;refine aL ?_;refine aW (List.Mem.head _) (fun q1 c1 e__ hc1 hz1=>?_);subst e__)
  repeat refine aR ?_
  (refine aQ rfl (hN2 _ _ _ aA) ?_;rintro _ _ _ ⟨rfl,rfl⟩;refine aL ?_;refine aW (List.Mem.head _) (fun q2 c2 e__ hc2 hz2=>?_);subst e__)
  unfold iv
  repeat refine aR ?_
  (refine aQ rfl (hG _ _ _ _ aA aA) ?_;rintro _ _ _ ⟨rfl,rfl⟩;refine aL ?_;refine aW (List.Mem.head _) (fun q3 c3 e__ hc3 hz3=>?_);subst e__)
  unfold iv
  repeat refine aR ?_
  refine dS (fun b5=>?_)
  repeat refine aR ?_
  (refine aQ rfl (hD1 _ _ _ _ aA aA) ?_;rintro _ _ _ ⟨rfl,v1,v2,rfl,rfl⟩;refine aL ?_)
  refine aW (u:=v1) aA (fun q4 c4 e4 hc4 hz4=>?_)
  subst e4
  unfold iv
  repeat refine aR ?_
  (refine aQ rfl (hD2 _ _ _ _ aA aA) ?_;rintro _ _ _ ⟨rfl,v3,v4,rfl,rfl⟩;refine aL ?_)
  refine aW (u:=v3) aA (fun q5 c5 e5 hc5 hz5=>?_)
  subst e5
  unfold iv
  repeat refine aR ?_
  (refine aC rfl (fun _=>bF (pvs:=([vI q4 c4 r.num,vI q5 c5 r.den]).zipIdx.map (fun p=>(p.2,p.1))) (cells:=eR ⟨r,q4,c4,q5,c5⟩) rfl rfl) rfl rfl ?_)
  repeat refine aR ?_
  refine mG (q:=r) (k:=k) (p1:=q4) (c1:=c4) (p2:=q5) (c2:=c5) aA aA (Nat.le_refl _) (Nat.le_refl _) ?_
  refine aT (cs:=eR ⟨r,q4,c4,q5,c5⟩) (.inl rfl) rfl rfl aA rfl M0 (bW ⟨r,q4,c4,q5,c5⟩ k::I0) aF aD ⟨rfl,⟨r,q4,c4,q5,c5⟩,rfl,rfl,rfl⟩
 ·have hs:d.sign=1:=Int.sign_eq_one_of_pos (by omega)
  obtain ⟨hD1,hD2⟩:=key n d (by omega) rfl
  rw [hs] at hS
  clear key hN
  obtain ⟨g,hg⟩:∃g:Int,g=(Int.gcd n d:Int):=⟨_,rfl⟩
  rw [←hg] at hD1 hD2
  have hG:=fun u v=>hG u v n d
  rw [←hg] at hG
  unfold iv at*
  refine aN Tryz.func167 rfl Tryz.ntmps167 rfl ?_
  refine iH ?_
  refine gU rfl (fun b=>?_)
  refine gU rfl (fun b2=>?_)
  refine dS (fun b4=>?_)
  repeat refine aR ?_
  refine dK rfl (hS _ _ aA) ?_
  repeat refine aR ?_
  (refine aQ rfl (hG _ _ _ _ aA aA) ?_;rintro _ _ _ ⟨rfl,rfl⟩;refine aL ?_;refine aW (List.Mem.head _) (fun q3 c3 e__ hc3 hz3=>?_);subst e__)
  unfold iv
  repeat refine aR ?_
  refine dS (fun b5=>?_)
  repeat refine aR ?_
  (refine aQ rfl (hD1 _ _ _ _ aA aA) ?_;rintro _ _ _ ⟨rfl,v1,v2,rfl,rfl⟩;refine aL ?_)
  refine aW (u:=v1) aA (fun q4 c4 e4 hc4 hz4=>?_)
  subst e4
  unfold iv
  repeat refine aR ?_
  (refine aQ rfl (hD2 _ _ _ _ aA aA) ?_;rintro _ _ _ ⟨rfl,v3,v4,rfl,rfl⟩;refine aL ?_)
  refine aW (u:=v3) aA (fun q5 c5 e5 hc5 hz5=>?_)
  subst e5
  unfold iv
  repeat refine aR ?_
  (refine aC rfl (fun _=>bF (pvs:=([vI q4 c4 r.num,vI q5 c5 r.den]).zipIdx.map (fun p=>(p.2,p.1))) (cells:=eR ⟨r,q4,c4,q5,c5⟩) rfl rfl) rfl rfl ?_)
  repeat refine aR ?_
  refine mG (q:=r) (k:=k) (p1:=q4) (c1:=c4) (p2:=q5) (c2:=c5) aA aA (Nat.le_refl _) (Nat.le_refl _) ?_
  refine aT (cs:=eR ⟨r,q4,c4,q5,c5⟩) (.inl rfl) rfl rfl aA rfl M0 (bW ⟨r,q4,c4,q5,c5⟩ k::I0) aF aD ⟨rfl,⟨r,q4,c4,q5,c5⟩,rfl,rfl,rfl⟩
theorem aRH {e:RE} {k:Nat} (hk:k≤500000000000) (he:Hv I0 (bW e k)):
  CD Tryz.prog 57 [rv e] X w0 M0 I0 (fun v M I=>M0=M∧I0=I∧v= .bool true):=by
 refine CD.post (K:=fun v M I=>M0=M∧gW (vI e.p1 e.c1 e.q.num) e.q.num k::gW (vI e.p2 e.c2 e.q.den) e.q.den k::I0=I∧v= .bool true) (aEX he ?_) (fun v M I w h hw=>?_)
 case refine_2=>
  obtain ⟨e1,e2,e3⟩:=h
  subst e1;subst e2
  exact ⟨_,_,⟨rfl,rfl,e3⟩,hw.inc (Inc.wk (Inc.wk Inc.refl))⟩
 have hV1:=fun M0 I0 h=>rO (X:=X) (w0:=w0) (M0:=M0) (I0:=I0) (u:=vI e.p1 e.c1 e.q.num) (z:=e.q.num) (k:=k) (by omega) h
 have hV2:=fun M0 I0 h=>rO (X:=X) (w0:=w0) (M0:=M0) (I0:=I0) (u:=vI e.p2 e.c2 e.q.den) (z:=e.q.den) (k:=k) (by omega) h
 have hS:=fun M0 I0=>qB (X:=X) (w0:=w0) (M0:=M0) (I0:=I0) (u:=vI e.p2 e.c2 e.q.den) (z:=e.q.den) (k:=k) (by omega)
 have hs:((e.q.den:Int)).sign=1:=Int.sign_eq_one_of_pos (by have:=e.q.den_nz;omega)
 rw [hs] at hS
 have hG:=fun M0 I0=>aIW (X:=X) (w0:=w0) (M0:=M0) (I0:=I0) (u:=vI e.p1 e.c1 e.q.num) (v:=vI e.p2 e.c2 e.q.den) (y:=e.q.num) (z:=e.q.den) (k0:=k) (m:=k) (by omega) (by omega)
 rw [aPU] at hG
 have hC:=fun u v M0 I0=>yI (X:=X) (w0:=w0) (M0:=M0) (I0:=I0) (u:=u) (v:=v) (y:=1) (z:=1) (k:=k+k) (m:=63) (by omega) (by omega)
 have hc:fV 1 1=0:=by decide
 rw [hc] at hC
 refine aS Tryz.func57 rfl Tryz.ntmps57 rfl ?_
 refine iH ?_
 refine gU rfl (fun b=>?_)
 repeat refine aR ?_
 refine dK rfl (hV1 _ _ aA) ?_
 repeat refine aR ?_
 refine dK rfl (hV2 _ _ aA) ?_
 repeat refine aR ?_
 refine dK rfl (hS _ _ aA) ?_
 repeat refine aR ?_
 (refine aQ rfl (hG _ _ aA aA) ?_;rintro _ _ _ ⟨rfl,rfl⟩;refine aL ?_)
 repeat refine aR ?_
 (refine aQ rfl (aFA (x:=1) (by decide)) ?_;rintro _ _ _ ⟨rfl,rfl⟩;refine aL ?_)
 refine dK rfl (hC _ _ _ _ aA aA) ?_
 repeat refine aR ?_
 refine aP (by first|exact .inl rfl|exact .inr rfl) rfl rfl _ _ aF aD (⟨rfl,rfl,congrArg Value.bool (bJ (by decide))⟩)
end
section
variable {X:List Nat} {w0:World} {M0:List Ent} {I0:List aM}
theorem aTE {f:FuncId} {vs:List Value} {e:RE} {k m:Nat} {q:Rat} {P:Program} (h:Hv I0 (bW e k)) (c:CD P f vs X w0 M0 (gW (vI e.p1 e.c1 e.q.num) e.q.num k::gW (vI e.p2 e.c2 e.q.den) e.q.den k::I0) (RQ q m M0 (gW (vI e.p1 e.c1 e.q.num) e.q.num k::gW (vI e.p2 e.c2 e.q.den) e.q.den k::I0))):CD P f vs X w0 M0 I0 (RQ q m M0 I0):=
 CD.post (aEX h c) (fun v M I w ⟨e1,e2,h2,h3,h4⟩ hw=>by
  subst e1;subst h4
  exact ⟨_,_,⟨rfl,e2,h2,h3,rfl⟩,hw.inc (Inc.cons (List.Mem.head _) (Inc.wk (Inc.wk (Inc.wk Inc.refl))))⟩)
theorem aRU {e:RE} {k:Nat} (hk:k≤500000000000) (he:Hv I0 (bW e k)):
  CD Tryz.prog 227 [rv e] X w0 M0 I0 (RQ e.q k M0 I0):=by
 refine aTE he ?_
 have hN:=fun z u M0 I0=>aIA (X:=X) (w0:=w0) (M0:=M0) (I0:=I0) (u:=u) (z:=z) (k:=k) (by omega)
 have h1:=hN (-e.q.num)
 have h2:=hN (-(e.q.den:Int))
 rw [Int.neg_neg] at h1 h2
 refine aS Tryz.func227 rfl Tryz.ntmps227 rfl ?_
 refine iH ?_
 refine gU rfl (fun b=>?_)
 refine dS (fun b2=>?_)
 repeat refine aR ?_
 (repeat refine aG ?_);refine bA 3 [0,1,4,5,2,3,6,7,8,9] [4,3,4,3,0,0,0,0,0,0] mixed (by kernel_rfl) ?_
 repeat refine aR ?_
 (refine aQ rfl (hN e.q.num _ _ _ aA) ?_;rintro _ _ _ ⟨rfl,rfl⟩;refine aL ?_)
 (refine aQ rfl (h1 _ _ _ aA) ?_;rintro _ _ _ ⟨rfl,rfl⟩;refine aL ?_)
 refine aW (z:=e.q.num) (List.Mem.head _) (fun q3 c3 e3 hc3 hz3=>?_)
 subst e3
 unfold iv
 repeat refine aR ?_
 (refine aQ rfl (hN e.q.den _ _ _ aA) ?_;rintro _ _ _ ⟨rfl,rfl⟩;refine aL ?_)
 (refine aQ rfl (h2 _ _ _ aA) ?_;rintro _ _ _ ⟨rfl,rfl⟩;refine aL ?_)
 refine aW (z:=(e.q.den:Int)) (List.Mem.head _) (fun q4 c4 e4 hc4 hz4=>?_)
 subst e4
 unfold iv
 (refine aC rfl (fun _=>bF (pvs:=([vI q3 c3 e.q.num,vI q4 c4 e.q.den]).zipIdx.map (fun p=>(p.2,p.1))) (cells:=eR ⟨e.q,q3,c3,q4,c4⟩) rfl rfl) rfl rfl ?_)
 repeat refine aR ?_
 refine mG (q:=e.q) (k:=k) (p1:=q3) (c1:=c3) (p2:=q4) (c2:=c4) aA aA (Nat.le_refl _) (Nat.le_refl _) ?_
 refine aT (cs:=eR ⟨e.q,q3,c3,q4,c4⟩) (.inl rfl) rfl rfl aA rfl M0 (bW ⟨e.q,q3,c3,q4,c4⟩ k::_) aF aD ⟨rfl,⟨e.q,q3,c3,q4,c4⟩,rfl,rfl,rfl⟩
theorem nC {e:RE} {k:Nat} (hk:k≤500000000000) (he:Hv I0 (bW e k)):
  CD Tryz.prog 165 [rv e] X w0 M0 I0 (RQ e.q k M0 I0):=by
 refine aS Tryz.func165 rfl Tryz.ntmps165 rfl ?_
 refine iH ?_
 refine gU rfl (fun b=>?_)
 refine dS (fun b2=>?_)
 repeat refine aR ?_
 refine dK rfl (aRH hk he) ?_
 repeat refine aR ?_
 (refine aQ rfl (aRU hk he) ?_;rintro _ _ _ ⟨rfl,e2,rfl,he2,rfl⟩;refine aL ?_)
 repeat refine aR ?_
 refine aT (cs:=eR e2) (.inl rfl) rfl rfl aA rfl M0 (bW e2 k::I0) aF aD ⟨rfl,e2,rfl,he2,rfl⟩
theorem tZ {x:Int} (hx: -9223372036854775808≤x∧x≤9223372036854775807) {k:Nat} (hk:x.natAbs≤2 ^ k):
  CD Tryz.prog 101 [.int .i64 x] X w0 M0 I0 (RQ (x:Rat) k M0 I0):=by
 have hn:((x:Rat)).num=x:=Rat.num_intCast x
 have hd:(((x:Rat)).den:Int)=1:=by rw [Rat.den_intCast];rfl
 have h1:(1:Int).natAbs≤2 ^ k:=Nat.one_le_two_pow
 obtain ⟨q,hq⟩:∃q:Rat,q=(x:Rat):=⟨_,rfl⟩
 rw [←hq] at hn hd ⊢
 refine aS Tryz.func101 rfl Tryz.ntmps101 rfl ?_
 refine iH ?_
 refine dS (fun b2=>?_)
 repeat refine aR ?_
 (refine aQ rfl (aFA hx) ?_;rintro _ _ _ ⟨rfl,rfl⟩;refine aL ?_;refine aW (List.Mem.head _) (fun q3 c3 e__ hc3 hz3=>?_);subst e__)
 unfold iv
 refine nP (k2:=k) (z:=x) (List.Mem.tail _ (List.Mem.head _)) hk ?_
 (refine aQ rfl (aFA (x:=1) (by decide)) ?_;rintro _ _ _ ⟨rfl,rfl⟩;refine aL ?_;refine aW (List.Mem.head _) (fun q4 c4 e__ hc4 hz4=>?_);subst e__)
 unfold iv
 refine nP (k2:=k) (z:=1) (List.Mem.tail _ (List.Mem.head _)) h1 ?_
 rw [←hn,←hd]
 (refine aC rfl (fun _=>bF (pvs:=([vI q3 c3 q.num,vI q4 c4 q.den]).zipIdx.map (fun p=>(p.2,p.1))) (cells:=eR ⟨q,q3,c3,q4,c4⟩) rfl rfl) rfl rfl ?_)
 repeat refine aR ?_
 refine mG (q:=q) (k:=k) (p1:=q3) (c1:=c3) (p2:=q4) (c2:=c4) aA aA (Nat.le_refl _) (Nat.le_refl _) ?_
 refine aT (cs:=eR ⟨q,q3,c3,q4,c4⟩) (.inl rfl) rfl rfl aA rfl M0 (bW ⟨q,q3,c3,q4,c4⟩ k::I0) aF aD ⟨rfl,⟨q,q3,c3,q4,c4⟩,rfl,rfl,rfl⟩
theorem nD {e:RE} {k:Nat} (hk:k≤500000000000) (he:Hv I0 (bW e k)):
  CD Tryz.prog 86 [rv e] X w0 M0 I0 (fun v M I=>M0=M∧I0=I∧v= .int .i64 e.q.num.sign):=by
 refine aS Tryz.func86 rfl Tryz.ntmps86 rfl ?_
 refine iH ?_
 refine gU rfl (fun b=>?_)
 repeat refine aR ?_
 (refine aQ rfl (nC hk he) ?_;rintro _ _ _ ⟨rfl,e2,rfl,he2,rfl⟩;refine aL ?_)
 refine aC rfl (fun _=>dG rfl) rfl rfl ?_
 refine gY (e:=e2) (k:=k) (Hv.mem (List.Mem.head _)) ?_
 refine dK rfl (qB (z:=e2.q.num) (k:=k) (by omega) aA) ?_
 rw [he2]
 repeat refine aR ?_
 refine iA rfl rfl (⟨rfl,rfl,rfl⟩)
theorem aHT {e:RE} {k:Nat} (hk:k≤500000000000) (he:Hv I0 (bW e k)):
  CD Tryz.prog 194 [rv e] X w0 M0 I0 (RQ (-e.q) k M0 I0):=by
 refine aS Tryz.func194 rfl Tryz.ntmps194 rfl ?_
 refine iH ?_
 refine gU rfl (fun b=>?_)
 refine dS (fun b2=>?_)
 repeat refine aR ?_
 (refine aQ rfl (nC hk he) ?_;rintro _ _ _ ⟨rfl,e2,rfl,he2,rfl⟩;refine aL ?_)
 refine gY (e:=e2) (k:=k) (Hv.mem (List.Mem.head _)) ?_
 rw [←he2]
 have hN:=fun M0 I0=>aIA (X:=X) (w0:=w0) (M0:=M0) (I0:=I0) (u:=vI e2.p1 e2.c1 e2.q.num) (z:=e2.q.num) (k:=k) (by omega)
 rw [←Rat.neg_num] at hN
 have hd:((e2.q.den:Int))=((-e2.q).den:Int):=by rw [Rat.neg_den]
 repeat refine aR ?_
 (repeat refine aG ?_);refine bA 1 [0,1,3,4,2,5,6] [1,0,1,1,0,0,0] mixed (by kernel_rfl) ?_
 repeat refine aR ?_
 (refine aQ rfl (hN _ _ aA) ?_;rintro _ _ _ ⟨rfl,rfl⟩;refine aL ?_;refine aW (List.Mem.head _) (fun q3 c3 e__ hc3 hz3=>?_);subst e__)
 unfold iv
 rw [hd]
 (refine aC rfl (fun _=>bF (pvs:=([vI q3 c3 (-e2.q).num,vI e2.p2 e2.c2 (-e2.q).den]).zipIdx.map (fun p=>(p.2,p.1))) (cells:=eR ⟨-e2.q,q3,c3,e2.p2,e2.c2⟩) rfl rfl) rfl rfl ?_)
 repeat refine aR ?_
 refine mG (q:= -e2.q) (k:=k) (p1:=q3) (c1:=c3) (p2:=e2.p2) (c2:=e2.c2) aA aA (Nat.le_refl _) (Nat.le_refl _) ?_
 refine aT (cs:=eR ⟨-e2.q,q3,c3,e2.p2,e2.c2⟩) (.inl rfl) rfl rfl aA rfl M0 (bW ⟨-e2.q,q3,c3,e2.p2,e2.c2⟩ k::I0) aF aD ⟨rfl,⟨-e2.q,q3,c3,e2.p2,e2.c2⟩,rfl,rfl,rfl⟩
end
theorem aPJ (k m:Nat):2 ^ (k+m)+2 ^ (m+k)≤2 ^ (k+m+1):=by
 rw [Nat.add_comm m k,Nat.pow_succ];omega
theorem aAK (q:Rat):(0:Int) < q.den:=by have:=q.den_nz;omega
theorem vH (p q:Rat):((p.den:Int)*q.den)≠0:=by
 have:=Int.mul_pos (aAK p) (aAK q);omega
theorem aEJ {p q:Rat} (h:q≠0):((p.den:Int)*q.num)≠0:=fun h0=>by
 rcases Int.mul_eq_zero.1 h0 with h1|h1
 ·exact absurd h1 (by have:=aAK p;omega)
 ·exact h (Rat.num_eq_zero.1 h1)
section
variable {X:List Nat} {w0:World} {M0:List Ent} {I0:List aM}
theorem vV {a b:RE} {k m:Nat} (hk:k+m+1≤500000000000) (ha:Hv I0 (bW a k)) (hb:Hv I0 (bW b m)):
  CD Tryz.prog 93 [rv a,rv b] X w0 M0 I0 (RQ (a.q+b.q) (k+m+1) M0 I0):=by
 refine aN Tryz.func93 rfl Tryz.ntmps93 rfl ?_
 refine iH ?_
 refine gU rfl (fun b1=>?_)
 refine gU rfl (fun b2=>?_)
 refine dS (fun b3=>?_)
 repeat refine aR ?_
 (repeat refine aG ?_);refine bA 2 [0,2,1,3,4,5] [1,2,0,0,0,0] mixed (by kernel_rfl) ?_
 repeat refine aR ?_
 (refine aQ rfl (nC (k:=k) (by omega) ha) ?_;rintro _ _ _ ⟨rfl,x,rfl,hx,rfl⟩;refine aL ?_)
 repeat refine aR ?_
 (refine aQ rfl (nC (k:=m) (by omega) hb.cons) ?_;rintro _ _ _ ⟨rfl,y,rfl,hy,rfl⟩;refine aL ?_)
 refine gY (e:=x) (k:=k) (Hv.mem (List.Mem.tail _ (List.Mem.head _))) ?_
 refine gY (e:=y) (k:=m) (Hv.mem (List.Mem.tail _ (List.Mem.tail _ (List.Mem.head _)))) ?_
 rw [←hx,←hy]
 have hM1:=fun u v M0 I0=>tL (X:=X) (w0:=w0) (M0:=M0) (I0:=I0) (u:=u) (v:=v) (y:=x.q.num) (z:=y.q.den) (k:=k) (m:=m) (by omega)
 have hM2:=fun u v M0 I0=>tL (X:=X) (w0:=w0) (M0:=M0) (I0:=I0) (u:=u) (v:=v) (y:=y.q.num) (z:=x.q.den) (k:=m) (m:=k) (by omega)
 have hM3:=fun u v M0 I0=>tL (X:=X) (w0:=w0) (M0:=M0) (I0:=I0) (u:=u) (v:=v) (y:=x.q.den) (z:=y.q.den) (k:=k) (m:=m) (by omega)
 have hA:=fun u v M0 I0=>aVB (X:=X) (w0:=w0) (M0:=M0) (I0:=I0) (u:=u) (v:=v) (y:=x.q.num*y.q.den) (z:=y.q.num*x.q.den) (k:=k+m) (m:=m+k) (c:=k+m+1) (by omega) (by omega) (by omega) (aPJ k m)
 have hR:=fun u v M0 I0=>vF (X:=X) (w0:=w0) (M0:=M0) (I0:=I0) (u:=u) (v:=v) (n:=x.q.num*y.q.den+y.q.num*x.q.den) (d:=x.q.den*y.q.den) (k:=k+m+1) (by omega) (vH _ _)
 rw [←yU] at hR
 repeat refine aR ?_
 (repeat refine aG ?_);refine qQ (.blk b2 (eR y) 77:: .blk b1 (eR x) 77::M0) (I0) [0,1,2,3,5,6,7,8,11,12,13,14,4,9,10,15,16,17] [5,4,5,4,5,4,5,4,5,4,5,4,0,0,0,0,0,0] mixed ?_
 repeat refine aR ?_
 (refine aQ rfl (hM1 _ _ _ _ aA aA) ?_;rintro _ _ _ ⟨rfl,rfl⟩;refine aL ?_)
 (refine aQ rfl (hM2 _ _ _ _ aA aA) ?_;rintro _ _ _ ⟨rfl,rfl⟩;refine aL ?_)
 (refine aQ rfl (hA _ _ _ _ aA aA) ?_;rintro _ _ _ ⟨rfl,rfl⟩;refine aL ?_)
 (refine aQ rfl (hM3 _ _ _ _ aA aA) ?_;rintro _ _ _ ⟨rfl,rfl⟩;refine aL ?_)
 refine aJP (k2:=k+m+1) (List.Mem.head _) (by omega) ?_
 (refine aQ rfl (hR _ _ _ _ aA aA) ?_;rintro _ _ _ ⟨rfl,e,rfl,he,rfl⟩;refine aL ?_)
 repeat refine aR ?_
 refine aT (cs:=eR e) (.inl rfl) rfl rfl aA rfl M0 (bW e (k+m+1)::I0) aF aD ⟨rfl,e,rfl,he,rfl⟩
theorem aQM {a b:RE} {k m:Nat} (hk:k+m+1≤500000000000) (ha:Hv I0 (bW a k)) (hb:Hv I0 (bW b m)):
  CD Tryz.prog 118 [rv a,rv b] X w0 M0 I0 (RQ (a.q - b.q) (k+m+1) M0 I0):=by
 refine aN Tryz.func118 rfl Tryz.ntmps118 rfl ?_
 refine iH ?_
 refine gU rfl (fun b1=>?_)
 refine gU rfl (fun b2=>?_)
 refine dS (fun b3=>?_)
 repeat refine aR ?_
 (repeat refine aG ?_);refine bA 1 [0,1,2,3,4] [1,1,0,0,0] mixed (by kernel_rfl) ?_
 repeat refine aR ?_
 (refine aQ rfl (aHT (k:=m) (by omega) hb) ?_;rintro _ _ _ ⟨rfl,y,rfl,hy,rfl⟩;refine aL ?_)
 rw [Rat.sub_eq_add_neg,←hy]
 (refine aQ rfl (vV hk ha.cons (Hv.mem (List.Mem.head _))) ?_;rintro _ _ _ ⟨rfl,e,rfl,he,rfl⟩;refine aL ?_)
 repeat refine aR ?_
 refine aT (cs:=eR e) (.inl rfl) rfl rfl aA rfl M0 (bW e (k+m+1)::I0) aF aD ⟨rfl,e,rfl,he,rfl⟩
theorem sQ {a b:RE} {k m:Nat} (hk:k+m≤500000000000) (ha:Hv I0 (bW a k)) (hb:Hv I0 (bW b m)):
  CD Tryz.prog 94 [rv a,rv b] X w0 M0 I0 (RQ (a.q*b.q) (k+m) M0 I0):=by
 refine aN Tryz.func94 rfl Tryz.ntmps94 rfl ?_
 refine iH ?_
 refine gU rfl (fun b1=>?_)
 refine gU rfl (fun b2=>?_)
 refine dS (fun b3=>?_)
 repeat refine aR ?_
 (repeat refine aG ?_);refine bA 2 [0,2,1,3,4,5] [1,2,0,0,0,0] mixed (by kernel_rfl) ?_
 repeat refine aR ?_
 (refine aQ rfl (nC (k:=k) (by omega) ha) ?_;rintro _ _ _ ⟨rfl,x,rfl,hx,rfl⟩;refine aL ?_)
 repeat refine aR ?_
 (refine aQ rfl (nC (k:=m) (by omega) hb.cons) ?_;rintro _ _ _ ⟨rfl,y,rfl,hy,rfl⟩;refine aL ?_)
 refine gY (e:=x) (k:=k) (Hv.mem (List.Mem.tail _ (List.Mem.head _))) ?_
 refine gY (e:=y) (k:=m) (Hv.mem (List.Mem.tail _ (List.Mem.tail _ (List.Mem.head _)))) ?_
 rw [←hx,←hy]
 have hM1:=fun u v M0 I0=>tL (X:=X) (w0:=w0) (M0:=M0) (I0:=I0) (u:=u) (v:=v) (y:=x.q.num) (z:=y.q.num) (k:=k) (m:=m) (by omega)
 have hM3:=fun u v M0 I0=>tL (X:=X) (w0:=w0) (M0:=M0) (I0:=I0) (u:=u) (v:=v) (y:=x.q.den) (z:=y.q.den) (k:=k) (m:=m) (by omega)
 have hR:=fun u v M0 I0=>vF (X:=X) (w0:=w0) (M0:=M0) (I0:=I0) (u:=u) (v:=v) (n:=x.q.num*y.q.num) (d:=x.q.den*y.q.den) (k:=k+m) (by omega) (vH _ _)
 rw [←aFB] at hR
 repeat refine aR ?_
 (repeat refine aG ?_);refine qQ (.blk b2 (eR y) 77:: .blk b1 (eR x) 77::M0) (I0) [0,1,2,3,5,6,7,8,4,9,10,11] [3,2,3,2,3,2,3,2,0,0,0,0] mixed ?_
 repeat refine aR ?_
 (refine aQ rfl (hM1 _ _ _ _ aA aA) ?_;rintro _ _ _ ⟨rfl,rfl⟩;refine aL ?_)
 (refine aQ rfl (hM3 _ _ _ _ aA aA) ?_;rintro _ _ _ ⟨rfl,rfl⟩;refine aL ?_)
 (refine aQ rfl (hR _ _ _ _ aA aA) ?_;rintro _ _ _ ⟨rfl,e,rfl,he,rfl⟩;refine aL ?_)
 repeat refine aR ?_
 refine aT (cs:=eR e) (.inl rfl) rfl rfl aA rfl M0 (bW e (k+m)::I0) aF aD ⟨rfl,e,rfl,he,rfl⟩
abbrev zR:Value:= .agg #[.bool false, .slice none 0 0, .bool false, .slice none 0 0]
theorem aET {a b:RE} {k m:Nat} (hk:k+m≤500000000000) (hb0:b.q≠0) (ha:Hv I0 (bW a k)) (hb:Hv I0 (bW b m)):
  CD Tryz.prog 96 [rv a,rv b] X w0 M0 I0 (RQc (a.q / b.q) (k+m) M0 I0):=by
 refine aN Tryz.func96 rfl Tryz.ntmps96 rfl ?_
 refine iH ?_
 refine gU rfl (fun b1=>?_)
 refine gU rfl (fun b2=>?_)
 refine dS (fun b3=>?_)
 repeat refine aR ?_
 (repeat refine aG ?_);refine bA 2 [0,2,1,3,4,5] [1,2,0,0,0,0] mixed (by kernel_rfl) ?_
 repeat refine aR ?_
 (refine aQ rfl (nC (k:=k) (by omega) ha) ?_;rintro _ _ _ ⟨rfl,x,rfl,hx,rfl⟩;refine aL ?_)
 repeat refine aR ?_
 (refine aQ rfl (nC (k:=m) (by omega) hb.cons) ?_;rintro _ _ _ ⟨rfl,y,rfl,hy,rfl⟩;refine aL ?_)
 refine gY (e:=x) (k:=k) (Hv.mem (List.Mem.tail _ (List.Mem.head _))) ?_
 refine gY (e:=y) (k:=m) (Hv.mem (List.Mem.tail _ (List.Mem.tail _ (List.Mem.head _)))) ?_
 rw [←hx,←hy]
 rw [←hy] at hb0
 have hs0:¬y.q.num.sign=0:=fun h=>hb0 (Rat.num_eq_zero.1 (Int.sign_eq_zero_iff_zero.1 h))
 have hS:=fun M0 I0=>qB (X:=X) (w0:=w0) (M0:=M0) (I0:=I0) (u:=vI y.p1 y.c1 y.q.num) (z:=y.q.num) (k:=m) (by omega)
 have hM1:=fun u v M0 I0=>tL (X:=X) (w0:=w0) (M0:=M0) (I0:=I0) (u:=u) (v:=v) (y:=x.q.num) (z:=y.q.den) (k:=k) (m:=m) (by omega)
 have hM3:=fun u v M0 I0=>tL (X:=X) (w0:=w0) (M0:=M0) (I0:=I0) (u:=u) (v:=v) (y:=x.q.den) (z:=y.q.num) (k:=k) (m:=m) (by omega)
 have hR:=fun u v M0 I0=>vF (X:=X) (w0:=w0) (M0:=M0) (I0:=I0) (u:=u) (v:=v) (n:=x.q.num*y.q.den) (d:=x.q.den*y.q.num) (k:=k+m) (by omega) (aEJ hb0)
 rw [←aDJ] at hR
 generalize y.q.num.sign=sy at*
 repeat refine aR ?_
 refine dK rfl (hS _ _ aA) ?_
 repeat refine aR ?_
 (repeat refine aG ?_);refine qQ (.blk b2 (eR y) 77:: .blk b1 (eR x) 77::M0) (I0) [0,1,2,3,5,6,7,8,4,9,10,11,12] [3,2,3,2,3,2,3,2,0,0,0,0,0] mixed ?_
 repeat refine aR ?_
 (refine aQ rfl (hM1 _ _ _ _ aA aA) ?_;rintro _ _ _ ⟨rfl,rfl⟩;refine aL ?_)
 (refine aQ rfl (hM3 _ _ _ _ aA aA) ?_;rintro _ _ _ ⟨rfl,rfl⟩;refine aL ?_)
 (refine aQ rfl (hR _ _ _ _ aA aA) ?_;rintro _ _ _ ⟨rfl,e,rfl,he,rfl⟩;refine aL ?_)
 repeat refine aR ?_
 refine fF (rs:=[.cell 4 77, .tmp 5]) (vs:=[rv e, .int .i64 0]) (.inl rfl) rfl (.cellN (cs:=eR e) inferInstance rfl aA rfl (.tmp rfl .nil)) rfl M0 (bW e (k+m)::I0) aF aD ⟨rfl,e,rfl,he,rfl⟩
def aFI (p q:Rat):Int:=fV (p.num*q.den) (q.num*p.den)
theorem bAR {p q:Rat}:0 < aFI p q↔q < p:=by
 unfold aFI fV;rw [bCY];split <;>(try split) <;>omega
theorem bBL {p q:Rat}:aFI p q=0↔p=q:=by
 unfold aFI fV;rw [bDH];split <;>(try split) <;>omega
theorem aZJ {p q:Rat}:aFI p q≤0↔p≤q:=by rw [←Rat.not_lt,←bAR];omega
theorem aME {a b:RE} {k m:Nat} (hk:k+m≤400000000000) (ha:Hv I0 (bW a k)) (hb:Hv I0 (bW b m)):
  CD Tryz.prog 92 [rv a,rv b] X w0 M0 I0 (fun v M I=>M0=M∧I0=I∧v= .int .i64 (aFI a.q b.q)):=by
 refine aN Tryz.func92 rfl Tryz.ntmps92 rfl ?_
 refine iH ?_
 refine gU rfl (fun b1=>?_)
 refine gU rfl (fun b2=>?_)
 repeat refine aR ?_
 (repeat refine aG ?_);refine bA 2 [0,2,1,3,4,5] [1,2,0,0,0,0] mixed (by kernel_rfl) ?_
 repeat refine aR ?_
 (refine aQ rfl (nC (k:=k) (by omega) ha) ?_;rintro _ _ _ ⟨rfl,x,rfl,hx,rfl⟩;refine aL ?_)
 repeat refine aR ?_
 (refine aQ rfl (nC (k:=m) (by omega) hb.cons) ?_;rintro _ _ _ ⟨rfl,y,rfl,hy,rfl⟩;refine aL ?_)
 refine gY (e:=x) (k:=k) (Hv.mem (List.Mem.tail _ (List.Mem.head _))) ?_
 refine gY (e:=y) (k:=m) (Hv.mem (List.Mem.tail _ (List.Mem.tail _ (List.Mem.head _)))) ?_
 rw [←hx,←hy]
 have hM1:=fun u v M0 I0=>tL (X:=X) (w0:=w0) (M0:=M0) (I0:=I0) (u:=u) (v:=v) (y:=x.q.num) (z:=y.q.den) (k:=k) (m:=m) (by omega)
 have hM2:=fun u v M0 I0=>tL (X:=X) (w0:=w0) (M0:=M0) (I0:=I0) (u:=u) (v:=v) (y:=y.q.num) (z:=x.q.den) (k:=m) (m:=k) (by omega)
 have hC:=fun u v M0 I0=>yI (X:=X) (w0:=w0) (M0:=M0) (I0:=I0) (u:=u) (v:=v) (y:=x.q.num*y.q.den) (z:=y.q.num*x.q.den) (k:=k+m) (m:=m+k) (by omega) (by omega)
 repeat refine aR ?_
 (repeat refine aG ?_);refine qQ (.blk b2 (eR y) 77:: .blk b1 (eR x) 77::M0) (I0) [0,1,2,3,5,6,7,8,4,9,10,11] [3,2,3,2,3,2,3,2,0,0,0,0] mixed ?_
 repeat refine aR ?_
 (refine aQ rfl (hM1 _ _ _ _ aA aA) ?_;rintro _ _ _ ⟨rfl,rfl⟩;refine aL ?_)
 (refine aQ rfl (hM2 _ _ _ _ aA aA) ?_;rintro _ _ _ ⟨rfl,rfl⟩;refine aL ?_)
 refine dK rfl (hC _ _ _ _ aA aA) ?_
 repeat refine aR ?_
 refine iA rfl rfl (⟨rfl,rfl,rfl⟩)
end
section
variable {P:Program} {n:Nat} {G:Env}
theorem aFO {C:World→Prop} {ty t e:TypeId} {sz:Nat} {x y:Operand} {k:IntKind} {i:Int} {q:Option Addr} [ht:SliceTy P t e sz] (hx:ev G x=some (.slice q 0 0)) (hy:ev G y=some (.int k i)) (hi:i=0):
  Const P n G (.slice t x none (some y) none) ty C (.slice q 0 0):=by
 subst hi
 refine ⟨?_⟩
 intro st ha dst pos after guard w _
 cases q with
 |none=>simp [execOp,Instr.sliceAt,Instr.slice,ha.ev hx,eU ht.und,Fx.run_sizeOf ht.size,Instr.sliceBounds,Instr.sliceBound,asIntOf,ha.ev hy]
 |some ad=>simp [execOp,Instr.sliceAt,Instr.slice,ha.ev hx,eU ht.und,Fx.run_sizeOf ht.size,Instr.sliceBounds,Instr.sliceBound,asIntOf,ha.ev hy,Addr.add]
end
section
variable {X:List Nat} {w0:World} {M0:List Ent} {I0:List aM}
theorem qK {q:Option Addr} {l:List Int} {n c:Nat} {i:Int} (hn:n=l.length) (hi:0≤i) (hl:aH q (recs eG l)∈I0) (hd:Dig l):
  CD Tryz.prog 278 [.slice q n c, .int .i64 i] X w0 M0 I0 (fun v M I=>M0=M∧I0=I∧v= .int .u64 (gt l i)):=by
 subst hn
 have d:=hd.gt i
 refine dV Tryz.func278 rfl Tryz.ntmps278 rfl ?_
 repeat' (first|refine lK ?_|refine aK rfl (fun h=>?_) (fun h=>?_)|refine aJ rfl rfl (fun h=>?_) (fun h=>?_)|fail)
 ·refine aP (by first|exact .inl rfl|exact .inr rfl) rfl rfl _ _ bQ bP (⟨rfl,rfl,rfl⟩)
 ·refine aP (by first|exact .inl rfl|exact .inr rfl) rfl rfl _ _ bQ bP (⟨rfl,rfl,by rw [aPY (by omega)]⟩)
theorem aHJ {p:Prop} [Decidable p] {q:Option Addr} {l:List Int} {n c:Nat} (h63:l.length≤1000000000000) (hc:l.length≤c) (hok:Ok q∨(l.length=0∧c=0)) (hd:Dig l) (hv:val l=n) (hl:aH q (recs eG l)∈I0):
  CD Tryz.prog 228 [.bool (B p), .slice q l.length c] X w0 M0 I0 (fun v M I=>M0=M∧∃q' c',v= .agg #[.bool (B (p∧n≠0)), .slice q' (gr n).length c']∧sF q' n c'∧I=aH q' (recs eG (gr n))::I0):=by
 have hg:fZ l=gr n:=nW hd hv
 refine dV Tryz.func228 rfl Tryz.ntmps228 rfl ?_
 refine aG ?_
 refine dB ?_
 (refine aV rfl rfl ?_;intro b;refine ⟨qL,?_⟩)
 repeat (refine lK ?_)
 refine bX [0,1,4] rfl (fun k G M I=>∃m:Nat,m≤l.length∧k=m∧fZ (l.take m)=fZ l∧∃x:Int,x=m∧G=[(5, .int .i64 x)]∧M= .blk b [.bool false, .slice none 0 0] 42::M0∧I0=I) (l.length) _ _ _ dE bQ bP (⟨l.length,by omega,rfl,by rw [List.take_length],_,rfl,rfl,rfl,rfl⟩) ?_
 rintro k G M I ⟨m,hm,rfl,ht,x,hx,rfl,rfl,rfl⟩
 have hend:fZ l=l.take k→(n≠0↔0 < k)∧(gr n).length=k:=fun e=>by
  have hl1:(gr n).length=k:=by rw [←hg,e,List.length_take];omega
  refine ⟨⟨fun h=>?_,fun h h0=>?_⟩,hl1⟩
  ·rw [←hl1];exact List.length_pos_iff.2 (fun e=>h (oO.1 e))
  ·rw [h0,gL] at hl1;simp at hl1;omega
 have hstep:∀j:Nat,j < l.length→l.take (j+1)=l.take j++[gt l (j:Int)]:=fun j hj=>by rw [List.take_succ_eq_append_getElem hj,fE hj]
 repeat' (first|refine lK ?_|refine aK rfl (fun h=>?_) (fun h=>?_)|refine aJ rfl rfl (fun h=>?_) (fun h=>?_)|fail)
 ·have h1:=h
  refine cB (k - 1) _ _ _ (by first|omega|(simp only [List.length_append,List.length_cons,List.length_nil];omega)) dE bQ bP (⟨k - 1,by omega,rfl,?_,_,by omega,rfl,rfl,rfl⟩)
  rw [←ht]
  obtain ⟨j,rfl⟩:∃j,k=j+1:=⟨k - 1,by omega⟩
  have e:((j+1:Nat):Int) - 1=j:=by omega
  rw [hx,e] at h1
  rw [hstep j (by omega),h1,yR]
  rfl
 all_goals
  have htk:fZ l=l.take k:=by
   rw [←ht]
   refine aEY ?_
   rcases Nat.eq_zero_or_pos k with h0|h0
   ·subst h0;simp [Top]
   ·obtain ⟨j,rfl⟩:∃j,k=j+1:=⟨k - 1,by omega⟩
    have e:((j+1:Nat):Int) - 1=j:=by omega
    rw [hstep j (by omega),Top.snoc]
    first
     |(rw [←e,←hx];assumption)
     |(exfalso;omega)
  obtain ⟨hnz,hlk⟩:=hend htk
  have hgk:gr n=l.take k:=by rw [←hg,htk]
 all_goals
  have hsl:aH q (recs eG (gr n))∈aH q (recs eG (gr n))::I0:=List.Mem.head _
  refine vX (M':= .blk b [.bool false, .slice none 0 0] 42::M0) (I':=aH q (recs eG (gr n))::I0) (fun w hw=>hw.takeI (cs:=recs eG (gr n)) (tl:=recs eG (l.drop k)) (by rw [hgk,←lQ,List.take_append_drop];exact hl)) ?_
  subst hx
  (refine vO (cs:=recs eG []) ([]) rfl rfl (by intro v hv;repeat (first|exact absurd hv (List.not_mem_nil)|(rcases List.mem_cons.1 hv with rfl|hv; · rfl))) (by omega) rfl rfl rfl ?_;intro b1;refine ⟨qL,?_⟩)
  repeat (refine lK ?_)
  have hbool:∀y:Bool,(y=true↔(p∧n≠0))→Value.bool y= .bool (B (p∧n≠0)):=fun y hy=>by
   refine congrArg Value.bool ?_
   by_cases hp:p∧n≠0
   ·rw [bJ hp];exact hy.2 hp
   ·rw [bE hp];cases y with
    |false=>rfl
    |true=>exact absurd (hy.1 rfl) hp
  rcases hok with hok|⟨hl0,hc0⟩
  ·obtain ⟨b9,o9,rfl⟩:=hok.cases
   refine aC rfl (fun _=>qY k rfl rfl rfl (by omega)) rfl rfl ?_
   refine gF (b:=b1) (mm:=0) 1 tJ rfl (by omega) ?_
   refine iE (xs:=[]) (ys:=gr n) 0 rfl rfl rfl (Src.imm (List.Mem.head _) (.inl (Ok.mk _ _))) (by decide) hlk (by simp <;>omega) (by simp <;>omega) rfl rfl ?_
   intro a2 c2
   refine ⟨qL,?_⟩
   rw [List.nil_append]
   refine nG (fun w hw=>And.intro (hw.rowLe (List.Mem.head _)) ((hw.rowS (List.Mem.head _)).2.imp id And.right)) (fun ho3=>?_)
   refine eX yM ?_
   refine aC rfl (fun _=>bF (pvs:=[(0,_),(1,_)]) (cells:=[_, .slice a2 (gr n).length c2]) rfl rfl) rfl rfl ?_
   repeat (refine lK ?_)
   refine aT (cs:=[_, .slice a2 (gr n).length c2]) (.inl rfl) rfl rfl aZ rfl M0 (aH a2 (recs eG (gr n))::I0) bQ bP ⟨rfl,a2,c2,?_,ho3,rfl⟩
   first
    |exact congrArg (fun x=>Value.agg #[x, .slice a2 (gr n).length c2]) (hbool (B ((0:Int) < ((k:Nat):Int))) (by rw [sZ,decide_eq_true_iff];exact ⟨fun h=>⟨by assumption,hnz.2 (by omega)⟩,fun h=>by have:=hnz.1 h.2;omega⟩))
    |exact congrArg (fun x=>Value.agg #[x, .slice a2 (gr n).length c2]) (hbool false ⟨fun h=>(by cases h),fun h=>absurd h.1 (by assumption)⟩)
  ·subst hc0
   obtain rfl:k=0:=by omega
   have hn0:gr n=[]:=by rw [hgk];rfl
   obtain rfl:l=[]:=List.eq_nil_of_length_eq_zero hl0
   refine aC rfl (fun _=>aFO rfl rfl rfl) rfl rfl ?_
   refine gF (b:=b1) (mm:=0) 1 tJ rfl (by omega) ?_
   refine iE (xs:=[]) (ys:=gr n) 0 rfl rfl rfl (Src.imm (List.Mem.head _) (.inr ⟨rfl,rfl⟩)) (by decide) hlk (by simp <;>omega) (by simp <;>omega) rfl rfl ?_
   intro a2 c2
   refine ⟨qL,?_⟩
   rw [List.nil_append]
   refine nG (fun w hw=>And.intro (hw.rowLe (List.Mem.head _)) ((hw.rowS (List.Mem.head _)).2.imp id And.right)) (fun ho3=>?_)
   refine eX yM ?_
   refine aC rfl (fun _=>bF (pvs:=[(0,_),(1,_)]) (cells:=[_, .slice a2 (gr n).length c2]) rfl rfl) rfl rfl ?_
   repeat (refine lK ?_)
   refine aT (cs:=[_, .slice a2 (gr n).length c2]) (.inl rfl) rfl rfl aZ rfl M0 (aH a2 (recs eG (gr n))::I0) bQ bP ⟨rfl,a2,c2,?_,ho3,rfl⟩
   first
    |exact congrArg (fun x=>Value.agg #[x, .slice a2 (gr n).length c2]) (hbool (B ((0:Int) < ((0:Nat):Int))) (by rw [sZ,decide_eq_true_iff];exact ⟨fun h=>⟨by assumption,hnz.2 (by omega)⟩,fun h=>by have:=hnz.1 h.2;omega⟩))
    |exact congrArg (fun x=>Value.agg #[x, .slice a2 (gr n).length c2]) (hbool false ⟨fun h=>(by cases h),fun h=>absurd h.1 (by assumption)⟩)
end
end Go.Proofs.YtmmmfphealhapaaGreat
