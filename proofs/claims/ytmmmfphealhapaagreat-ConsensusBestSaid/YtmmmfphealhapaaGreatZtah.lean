/- The walk, kept once. -/
import Derived.Test.YtmmmfphealhapaaGreatZtad
import Derived.Test.YtmmmfphealhapaaGreatZtae
import Derived.Test.YtmmmfphealhapaaGreatZtag
import Derived.Test.YtmmmfphealhapaaGreatZtaf
set_option linter.unusedSimpArgs false
set_option linter.unusedVariables false
set_option maxRecDepth 100000
set_option maxHeartbeats 4000000
namespace Go.Fx
theorem aQ {p g:Prop} (h:g) (w:BoxP g→p:=by (intro hh;(first|refine aG ?_|refine iE ?_|refine oW ?_|refine lK ?_|refine jP ?_|refine jE ?_|refine lS ?_|refine jU ?_|refine jN ?_|refine jM ?_|refine pG ?_|refine pI ?_|refine oU ?_|refine oJ rfl ?_|refine bE ?_|(refine kK ?_;first|refine kD rfl rfl rfl ?_|(refine kL rfl rfl ?_;refine iV rfl rfl rfl okF ?_)|refine kP rfl rfl (by omega) ?_|refine kT rfl rfl (by omega) ?_)|(refine eP ?_;refine aD rfl (fun _=>fQ rfl) rfl rfl ?_)|refine aD rfl (fun _=>bP rfl) rfl rfl ?_|(refine kQ ?_;first|refine aD rfl (fun _=>dC rfl rfl wF) rfl rfl ?_|refine aD rfl (fun _=>dD rfl rfl wF) rfl rfl ?_|refine aD rfl (fun _=>gW rfl rfl wF) rfl rfl ?_|refine aD rfl (fun _=>gU rfl rfl (by omega) qF) rfl rfl ?_|refine aD rfl (fun _=>gV rfl rfl (by omega) rfl) rfl rfl ?_|refine aD rfl (fun _=>fO rfl rfl) rfl rfl ?_|refine aD rfl (fun _=>gP rfl rfl) rfl rfl ?_|refine aD rfl (fun _=>gT rfl rfl) rfl rfl ?_)|(refine eP ?_;first|refine aD rfl (fun _=>gH rfl wF) rfl rfl ?_)|(refine kU ?_;first|refine aD rfl (fun _=>fE rfl wF) rfl rfl ?_)|(refine kF ?_;first|refine aD rfl (fun _=>dE rfl) rfl rfl ?_|refine aD rfl (fun _=>fT rfl rfl) rfl rfl ?_|refine aD rfl (fun _=>fP rfl rfl) rfl rfl ?_|refine aD rfl (fun _=>fU rfl rfl rfl) rfl rfl ?_)|(refine kE ?_;first|refine jZ rfl (by decide) rfl rfl ?_|refine nA rfl (by decide) rfl rfl ?_)|(refine kI ?_;first|refine aD rfl (fun _=>fB rfl) rfl rfl ?_)|(refine kR ?_;first|refine mV rfl rfl iH rfl rfl ?_|refine mZ eX rfl rfl iH aA nD rfl rfl ?_|refine mY eX rfl rfl iH aA nD rfl rfl ?_|refine aD rfl (fun _=>dZ rfl rfl iH) rfl rfl ?_)|(refine bN ?_;first|refine mX eX rfl aA wP rfl rfl ?_|refine mW eX rfl aA wP rfl rfl ?_|refine gM eX rfl aA wP rfl rfl ?_|refine jY eX rfl aA wP rfl rfl ?_|refine qJ eX rfl aA atZ rfl rfl ?_|refine sS eX rfl aA atZ rfl rfl ?_|refine bJ eX rfl aA atZ rfl rfl ?_|refine dS eX rfl aA atZ rfl rfl ?_)|(refine kG ?_;first|refine aD rfl (fun _=>eF rfl rfl) rfl rfl ?_|refine aD rfl (fun _=>dI rfl) rfl rfl ?_)|(refine nO ?_;first|refine nH rfl rfl rfl jJ stC rfl rfl ⟨okF,?_⟩|refine fJ rfl rfl jV aCU jJ aCQ rfl rfl ⟨okF,?_⟩)|(refine lW ?_;first|refine fF rfl ?_|refine dV rfl ?_|refine pE rfl (by omega) ?_|refine tC rfl (by omega) ?_));(repeat (first|refine aG ?_|refine iE ?_|refine oW ?_|refine lK ?_|refine jP ?_|refine jE ?_|refine lS ?_|refine jU ?_|refine jN ?_|refine jM ?_|refine pG ?_|refine pI ?_|refine oU ?_|refine oJ rfl ?_|refine bE ?_|(refine kK ?_;first|refine kD rfl rfl rfl ?_|(refine kL rfl rfl ?_;refine iV rfl rfl rfl okF ?_)|refine kP rfl rfl (by omega) ?_|refine kT rfl rfl (by omega) ?_)|(refine eP ?_;refine aD rfl (fun _=>fQ rfl) rfl rfl ?_)|refine aD rfl (fun _=>bP rfl) rfl rfl ?_|(refine kQ ?_;first|refine aD rfl (fun _=>dC rfl rfl wF) rfl rfl ?_|refine aD rfl (fun _=>dD rfl rfl wF) rfl rfl ?_|refine aD rfl (fun _=>gW rfl rfl wF) rfl rfl ?_|refine aD rfl (fun _=>gU rfl rfl (by omega) qF) rfl rfl ?_|refine aD rfl (fun _=>gV rfl rfl (by omega) rfl) rfl rfl ?_|refine aD rfl (fun _=>fO rfl rfl) rfl rfl ?_|refine aD rfl (fun _=>gP rfl rfl) rfl rfl ?_|refine aD rfl (fun _=>gT rfl rfl) rfl rfl ?_)|(refine eP ?_;first|refine aD rfl (fun _=>gH rfl wF) rfl rfl ?_)|(refine kU ?_;first|refine aD rfl (fun _=>fE rfl wF) rfl rfl ?_)|(refine kF ?_;first|refine aD rfl (fun _=>dE rfl) rfl rfl ?_|refine aD rfl (fun _=>fT rfl rfl) rfl rfl ?_|refine aD rfl (fun _=>fP rfl rfl) rfl rfl ?_|refine aD rfl (fun _=>fU rfl rfl rfl) rfl rfl ?_)|(refine kE ?_;first|refine jZ rfl (by decide) rfl rfl ?_|refine nA rfl (by decide) rfl rfl ?_)|(refine kI ?_;first|refine aD rfl (fun _=>fB rfl) rfl rfl ?_)|(refine kR ?_;first|refine mV rfl rfl iH rfl rfl ?_|refine mZ eX rfl rfl iH aA nD rfl rfl ?_|refine mY eX rfl rfl iH aA nD rfl rfl ?_|refine aD rfl (fun _=>dZ rfl rfl iH) rfl rfl ?_)|(refine bN ?_;first|refine mX eX rfl aA wP rfl rfl ?_|refine mW eX rfl aA wP rfl rfl ?_|refine gM eX rfl aA wP rfl rfl ?_|refine jY eX rfl aA wP rfl rfl ?_|refine qJ eX rfl aA atZ rfl rfl ?_|refine sS eX rfl aA atZ rfl rfl ?_|refine bJ eX rfl aA atZ rfl rfl ?_|refine dS eX rfl aA atZ rfl rfl ?_)|(refine kG ?_;first|refine aD rfl (fun _=>eF rfl rfl) rfl rfl ?_|refine aD rfl (fun _=>dI rfl) rfl rfl ?_)|(refine nO ?_;first|refine nH rfl rfl rfl jJ stC rfl rfl ⟨okF,?_⟩|refine fJ rfl rfl jV aCU jJ aCQ rfl rfl ⟨okF,?_⟩)|(refine lW ?_;first|refine fF rfl ?_|refine dV rfl ?_|refine pE rfl (by omega) ?_|refine tC rfl (by omega) ?_)));exact hh.out)):p:=w ⟨h⟩
theorem yXf {p g:Prop} (h:g) (w:BoxP g→p:=by (intro hh;(first|refine aG ?_|refine iE ?_|refine oW ?_|refine lK ?_|refine jP ?_|refine jE ?_|refine lS ?_|refine jU ?_|refine jN ?_|refine jM ?_|refine pG ?_|refine pI ?_|refine oU ?_|refine oJ rfl ?_|refine bE ?_|(refine kK ?_;first|refine kD rfl rfl rfl ?_|(refine kL rfl rfl ?_;refine iV rfl rfl rfl okF ?_)|refine kP rfl rfl (by omega) ?_|refine kT rfl rfl (by omega) ?_)|(refine eP ?_;refine aD rfl (fun _=>fQ rfl) rfl rfl ?_)|refine aD rfl (fun _=>bP rfl) rfl rfl ?_|(refine kQ ?_;first|refine aD rfl (fun _=>dC rfl rfl wF) rfl rfl ?_|refine aD rfl (fun _=>dD rfl rfl wF) rfl rfl ?_|refine aD rfl (fun _=>gW rfl rfl wF) rfl rfl ?_|refine aD rfl (fun _=>gU rfl rfl (by omega) qF) rfl rfl ?_|refine aD rfl (fun _=>gV rfl rfl (by omega) rfl) rfl rfl ?_|refine aD rfl (fun _=>fO rfl rfl) rfl rfl ?_|refine aD rfl (fun _=>gP rfl rfl) rfl rfl ?_|refine aD rfl (fun _=>gT rfl rfl) rfl rfl ?_)|(refine eP ?_;first|refine aD rfl (fun _=>gH rfl wF) rfl rfl ?_)|(refine kU ?_;first|refine aD rfl (fun _=>fE rfl wF) rfl rfl ?_)|(refine kF ?_;first|refine aD rfl (fun _=>dE rfl) rfl rfl ?_|refine aD rfl (fun _=>fT rfl rfl) rfl rfl ?_|refine aD rfl (fun _=>fP rfl rfl) rfl rfl ?_|refine aD rfl (fun _=>fU rfl rfl rfl) rfl rfl ?_)|(refine kE ?_;first|refine jZ rfl (by decide) rfl rfl ?_|refine nA rfl (by decide) rfl rfl ?_)|(refine kI ?_;first|refine aD rfl (fun _=>fB rfl) rfl rfl ?_)|(refine kR ?_;first|refine mV rfl rfl iH rfl rfl ?_|refine mZ eX rfl rfl iH aA nD rfl rfl ?_|refine mY eX rfl rfl iH aA nD rfl rfl ?_|refine aD rfl (fun _=>dZ rfl rfl iH) rfl rfl ?_)|(refine bN ?_;first|refine mX eX rfl aA wP rfl rfl ?_|refine mW eX rfl aA wP rfl rfl ?_|refine gM eX rfl aA wP rfl rfl ?_|refine jY eX rfl aA wP rfl rfl ?_|refine qJ eX rfl aA atZ rfl rfl ?_|refine sS eX rfl aA atZ rfl rfl ?_|refine bJ eX rfl aA atZ rfl rfl ?_|refine dS eX rfl aA atZ rfl rfl ?_)|(refine kG ?_;first|refine aD rfl (fun _=>eF rfl rfl) rfl rfl ?_|refine aD rfl (fun _=>dI rfl) rfl rfl ?_)|(refine lW ?_;first|refine fF rfl ?_|refine dV rfl ?_|refine pE rfl (by omega) ?_|refine tC rfl (by omega) ?_));(repeat (first|refine aG ?_|refine iE ?_|refine oW ?_|refine lK ?_|refine jP ?_|refine jE ?_|refine lS ?_|refine jU ?_|refine jN ?_|refine jM ?_|refine pG ?_|refine pI ?_|refine oU ?_|refine oJ rfl ?_|refine bE ?_|(refine kK ?_;first|refine kD rfl rfl rfl ?_|(refine kL rfl rfl ?_;refine iV rfl rfl rfl okF ?_)|refine kP rfl rfl (by omega) ?_|refine kT rfl rfl (by omega) ?_)|(refine eP ?_;refine aD rfl (fun _=>fQ rfl) rfl rfl ?_)|refine aD rfl (fun _=>bP rfl) rfl rfl ?_|(refine kQ ?_;first|refine aD rfl (fun _=>dC rfl rfl wF) rfl rfl ?_|refine aD rfl (fun _=>dD rfl rfl wF) rfl rfl ?_|refine aD rfl (fun _=>gW rfl rfl wF) rfl rfl ?_|refine aD rfl (fun _=>gU rfl rfl (by omega) qF) rfl rfl ?_|refine aD rfl (fun _=>gV rfl rfl (by omega) rfl) rfl rfl ?_|refine aD rfl (fun _=>fO rfl rfl) rfl rfl ?_|refine aD rfl (fun _=>gP rfl rfl) rfl rfl ?_|refine aD rfl (fun _=>gT rfl rfl) rfl rfl ?_)|(refine eP ?_;first|refine aD rfl (fun _=>gH rfl wF) rfl rfl ?_)|(refine kU ?_;first|refine aD rfl (fun _=>fE rfl wF) rfl rfl ?_)|(refine kF ?_;first|refine aD rfl (fun _=>dE rfl) rfl rfl ?_|refine aD rfl (fun _=>fT rfl rfl) rfl rfl ?_|refine aD rfl (fun _=>fP rfl rfl) rfl rfl ?_|refine aD rfl (fun _=>fU rfl rfl rfl) rfl rfl ?_)|(refine kE ?_;first|refine jZ rfl (by decide) rfl rfl ?_|refine nA rfl (by decide) rfl rfl ?_)|(refine kI ?_;first|refine aD rfl (fun _=>fB rfl) rfl rfl ?_)|(refine kR ?_;first|refine mV rfl rfl iH rfl rfl ?_|refine mZ eX rfl rfl iH aA nD rfl rfl ?_|refine mY eX rfl rfl iH aA nD rfl rfl ?_|refine aD rfl (fun _=>dZ rfl rfl iH) rfl rfl ?_)|(refine bN ?_;first|refine mX eX rfl aA wP rfl rfl ?_|refine mW eX rfl aA wP rfl rfl ?_|refine gM eX rfl aA wP rfl rfl ?_|refine jY eX rfl aA wP rfl rfl ?_|refine qJ eX rfl aA atZ rfl rfl ?_|refine sS eX rfl aA atZ rfl rfl ?_|refine bJ eX rfl aA atZ rfl rfl ?_|refine dS eX rfl aA atZ rfl rfl ?_)|(refine kG ?_;first|refine aD rfl (fun _=>eF rfl rfl) rfl rfl ?_|refine aD rfl (fun _=>dI rfl) rfl rfl ?_)|(refine lW ?_;first|refine fF rfl ?_|refine dV rfl ?_|refine pE rfl (by omega) ?_|refine tC rfl (by omega) ?_)));exact hh.out)):p:=w ⟨h⟩
end Go.Fx
namespace Go.Proofs.YtmmmfphealhapaaGreat
open Go Go.Fx
theorem yJ {a b k:Nat} (h:a≤2 ^ k):a / b≤2 ^ k:=Nat.le_trans (Nat.div_le_self _ _) h
section
variable {X:List Nat} {w0:World} {M0:List Ent} {I0:List aL}
def DvP (s t:Int) (k m:Nat) (M0:List Ent) (I0:List aL) (v:Value) (M:List Ent) (I:List aL):Prop:=M0=M∧∃v1 v2,v= .tuple #[v1,v2, .int .i64 0]∧I=iA v2 t m::iA v1 s k::I0
theorem aVI {y z s t:Int} {q q':Option Addr} {a b Q R k m cq cq':Nat} (hb0:¬(gr b).length=0) (hA1:¬(gr R).length=0) (hA2:¬(y < 0↔z < 0)) (hg1:gr 1=[1])
  (h1:∀M0 I0,aI q (recs eG (gr a))∈I0→CD Tryz.prog 126 [.agg #[.bool (B (y < 0)), .slice q (gr a).length cq]] X w0 M0 I0 (fun v M I=>M0=M∧I0=I∧v= .slice q (gr a).length cq))
  (h2:∀M0 I0,aI q' (recs eG (gr b))∈I0→CD Tryz.prog 126 [.agg #[.bool (B (z < 0)), .slice q' (gr b).length cq']] X w0 M0 I0 (fun v M I=>M0=M∧I0=I∧v= .slice q' (gr b).length cq'))
  (hO:∀M0 I0,aI q (recs eG (gr a))∈I0→aI q' (recs eG (gr b))∈I0→CD Tryz.prog 127 [.slice q (gr a).length cq, .slice q' (gr b).length cq'] X w0 M0 I0 (QrP Q R M0 I0))
  (hC:∀p2 c2,sO p2 R c2→∀M0 I0,aI p2 (recs eG (gr R))∈I0→CD Tryz.prog 128 [.slice p2 (gr R).length c2] X w0 M0 I0 (fun v M I=>I0=I∧∃q' c',v= .slice q' (gr R).length c'∧M= .row q' (gr R).length c' (recs eG (gr R)) 121 1::M0))
  (hP:∀p1 c1 p2 M0 I0,aI p1 (recs eG (gr Q))∈I0→aI p2 (recs eG [1])∈I0→CD Tryz.prog 129 [.slice p1 (gr Q).length c1, .slice p2 1 1] X w0 M0 I0 (GrP (Q+1) M0 I0))
  (hMi:∀p3 c3 M0 I0,aI q' (recs eG (gr b))∈I0→aI p3 (recs eG (gr R))∈I0→CD Tryz.prog 130 [.slice q' (gr b).length cq', .slice p3 (gr R).length c3] X w0 M0 I0 (GrP (b - R) M0 I0))
  (hM1:∀p4 c4,sO p4 (Q+1) c4→∀M0 I0,aI p4 (recs eG (gr (Q+1)))∈I0→CD Tryz.prog 123 [.bool (B (¬(y < 0↔z < 0))), .slice p4 (gr (Q+1)).length c4] X w0 M0 I0 (fun v M I=>M0=M∧I=iA v s k::I0))
  (hM2:∀p4 c4,sO p4 (b - R) c4→∀M0 I0,aI p4 (recs eG (gr (b - R)))∈I0→CD Tryz.prog 123 [.bool (B (z < 0)), .slice p4 (gr (b - R)).length c4] X w0 M0 I0 (fun v M I=>M0=M∧I=iA v t m::I0))
  (hq:aI q (recs eG (gr a))∈I0) (hq':aI q' (recs eG (gr b))∈I0):
  CD Tryz.prog 60 [.agg #[.bool (B (y < 0)), .slice q (gr a).length cq], .agg #[.bool (B (z < 0)), .slice q' (gr b).length cq']] X w0 M0 I0 (DvP s t k m M0 I0):=by
 refine aM Tryz.func60 rfl Tryz.ntmps60 rfl ?_
 refine gG ?_
 refine gN rfl (fun b1=>?_)
 refine gN rfl (fun b2=>?_)
 refine cK (fun b3=>?_)
 refine cK (fun b4=>?_)
 repeat refine aQ ?_
 (repeat refine aG ?_);refine aW 4 [0,2,1,3,4,5] [1,1,0,0,0,0] mixed (by kernel_rfl) ?_
 repeat' (first|refine aQ ?_|refine aJ rfl (fun h=>?_) (fun h=>?_)|refine aK rfl rfl (fun h=>?_) (fun h=>?_)|fail)
 refine dH rfl (h1 _ _ aA) ?_
 repeat' (first|refine aQ ?_|refine aJ rfl (fun h=>?_) (fun h=>?_)|refine aK rfl rfl (fun h=>?_) (fun h=>?_)|fail)
 refine dH rfl (h2 _ _ aA) ?_
 repeat' (first|refine aQ ?_|refine aJ rfl (fun h=>?_) (fun h=>?_)|refine aK rfl rfl (fun h=>?_) (fun h=>?_)|fail)
 (refine bD rfl (hO _ _ aA aA) ?_;rintro _ _ _ ⟨rfl,p1,c1,p2,c2,ho1,ho2,rfl,rfl⟩;refine aN ?_)
 repeat' (first|refine aQ ?_|refine aJ rfl (fun h=>?_) (fun h=>?_)|refine aK rfl rfl (fun h=>?_) (fun h=>?_)|fail)
 (refine bD rfl (hC p2 c2 ho2 _ _ aA) ?_;rintro _ _ _ ⟨rfl,p3,c3,rfl,rfl⟩;refine aN ?_)
 refine fD yE ?_
 repeat' (first|refine aQ ?_|refine aJ rfl (fun h=>?_) (fun h=>?_)|refine aK rfl rfl (fun h=>?_) (fun h=>?_)|fail)
 refine gK (cs:=recs eG [1]) ([.int .u32 1]) rfl (fun b5=>?_)
 refine aH yE ?_
 (refine bD rfl (hP p1 c1 (some ⟨b5,0,none⟩) _ _ aA aA) ?_;rintro _ _ _ ⟨rfl,p4,c4,rfl,hc4,rfl⟩;refine aN ?_)
 repeat' (first|refine aQ ?_|refine aJ rfl (fun h=>?_) (fun h=>?_)|refine aK rfl rfl (fun h=>?_) (fun h=>?_)|fail)
 (refine bD rfl (hMi p3 c3 _ _ aA aA) ?_;rintro _ _ _ ⟨rfl,p5,c5,rfl,hc5,rfl⟩;refine aN ?_)
 repeat refine aQ ?_
 (repeat refine aG ?_);refine pW (.blk b2 [.bool (B (z < 0)), .slice q' (gr b).length cq'] 42:: .blk b1 [.bool (B (y < 0)), .slice q (gr a).length cq] 42::M0) (I0) [0,1,2,3,4,5,7,8,9,6,10,11,12,13] [2,2,2,2,1,1,3,2,2,0,0,0,0,0] mixed ?_
 repeat' (first|refine aQ ?_|refine aJ rfl (fun h=>?_) (fun h=>?_)|refine aK rfl rfl (fun h=>?_) (fun h=>?_)|fail)
 (refine bD rfl (hM1 p4 c4 hc4 _ _ aA) ?_;rintro _ _ _ ⟨rfl,rfl⟩;refine aN ?_;refine aT (List.Mem.head _) (fun q6 c6 e__ hc6 hz6=>?_);subst e__)
 repeat' (first|refine aQ ?_|refine aJ rfl (fun h=>?_) (fun h=>?_)|refine aK rfl rfl (fun h=>?_) (fun h=>?_)|fail)
 (refine bD rfl (hM2 p5 c5 hc5 _ _ aA) ?_;rintro _ _ _ ⟨rfl,rfl⟩;refine aN ?_;refine aT (List.Mem.head _) (fun q7 c7 e__ hc7 hz7=>?_);subst e__)
 unfold iv
 repeat' (first|refine aQ ?_|refine aJ rfl (fun h=>?_) (fun h=>?_)|refine aK rfl rfl (fun h=>?_) (fun h=>?_)|fail)
 refine dW (rs:=[.cell 4 42, .cell 5 42, .tmp 6]) (.inl rfl) rfl (.cellN inferInstance rfl aA rfl (.cellN inferInstance rfl aA rfl (.tmp rfl .nil))) rfl M0 (iA (.agg #[.bool (B (t < 0)), .slice q7 (gr t.natAbs).length c7]) t m::iA (.agg #[.bool (B (s < 0)), .slice q6 (gr s.natAbs).length c6]) s k::I0) aF aC ⟨rfl,_,_,rfl,rfl⟩
theorem aVW {y z s t:Int} {q q':Option Addr} {a b Q R k m cq cq':Nat} (hb0:¬(gr b).length=0) (hA:(gr R).length=0∨(y < 0↔z < 0))
  (h1:∀M0 I0,aI q (recs eG (gr a))∈I0→CD Tryz.prog 126 [.agg #[.bool (B (y < 0)), .slice q (gr a).length cq]] X w0 M0 I0 (fun v M I=>M0=M∧I0=I∧v= .slice q (gr a).length cq))
  (h2:∀M0 I0,aI q' (recs eG (gr b))∈I0→CD Tryz.prog 126 [.agg #[.bool (B (z < 0)), .slice q' (gr b).length cq']] X w0 M0 I0 (fun v M I=>M0=M∧I0=I∧v= .slice q' (gr b).length cq'))
  (hO:∀M0 I0,aI q (recs eG (gr a))∈I0→aI q' (recs eG (gr b))∈I0→CD Tryz.prog 127 [.slice q (gr a).length cq, .slice q' (gr b).length cq'] X w0 M0 I0 (QrP Q R M0 I0))
  (hC:∀p2 c2,sO p2 R c2→∀M0 I0,aI p2 (recs eG (gr R))∈I0→CD Tryz.prog 128 [.slice p2 (gr R).length c2] X w0 M0 I0 (fun v M I=>I0=I∧∃q' c',v= .slice q' (gr R).length c'∧M= .row q' (gr R).length c' (recs eG (gr R)) 121 1::M0))
  (hM1:∀p4 c4,sO p4 Q c4→∀M0 I0,aI p4 (recs eG (gr Q))∈I0→CD Tryz.prog 123 [.bool (B (¬(y < 0↔z < 0))), .slice p4 (gr Q).length c4] X w0 M0 I0 (fun v M I=>M0=M∧I=iA v s k::I0))
  (hM2:∀p4 c4,sO p4 R c4→∀M0 I0,aI p4 (recs eG (gr R))∈I0→CD Tryz.prog 123 [.bool (B (z < 0)), .slice p4 (gr R).length c4] X w0 M0 I0 (fun v M I=>M0=M∧I=iA v t m::I0))
  (hq:aI q (recs eG (gr a))∈I0) (hq':aI q' (recs eG (gr b))∈I0):
  CD Tryz.prog 60 [.agg #[.bool (B (y < 0)), .slice q (gr a).length cq], .agg #[.bool (B (z < 0)), .slice q' (gr b).length cq']] X w0 M0 I0 (DvP s t k m M0 I0):=by
 refine aM Tryz.func60 rfl Tryz.ntmps60 rfl ?_
 refine gG ?_
 refine gN rfl (fun b1=>?_)
 refine gN rfl (fun b2=>?_)
 refine cK (fun b3=>?_)
 refine cK (fun b4=>?_)
 repeat refine aQ ?_
 (repeat refine aG ?_);refine aW 4 [0,2,1,3,4,5] [1,1,0,0,0,0] mixed (by kernel_rfl) ?_
 repeat' (first|refine aQ ?_|refine aJ rfl (fun h=>?_) (fun h=>?_)|refine aK rfl rfl (fun h=>?_) (fun h=>?_)|fail)
 refine dH rfl (h1 _ _ aA) ?_
 repeat' (first|refine aQ ?_|refine aJ rfl (fun h=>?_) (fun h=>?_)|refine aK rfl rfl (fun h=>?_) (fun h=>?_)|fail)
 refine dH rfl (h2 _ _ aA) ?_
 repeat' (first|refine aQ ?_|refine aJ rfl (fun h=>?_) (fun h=>?_)|refine aK rfl rfl (fun h=>?_) (fun h=>?_)|fail)
 (refine bD rfl (hO _ _ aA aA) ?_;rintro _ _ _ ⟨rfl,p1,c1,p2,c2,ho1,ho2,rfl,rfl⟩;refine aN ?_)
 repeat' (first|refine aQ ?_|refine aJ rfl (fun h=>?_) (fun h=>?_)|refine aK rfl rfl (fun h=>?_) (fun h=>?_)|fail)
 (refine bD rfl (hC p2 c2 ho2 _ _ aA) ?_;rintro _ _ _ ⟨rfl,p3,c3,rfl,rfl⟩;refine aN ?_)
 refine nQ (fun w hw=>And.intro (hw.rowLe (List.Mem.head _)) ((hw.rowS (List.Mem.head _)).2.imp id And.right)) (fun ho3=>?_)
 refine fD yE ?_
 repeat' (first|refine aQ ?_|refine aJ rfl (fun h=>?_) (fun h=>?_)|refine aK rfl rfl (fun h=>?_) (fun h=>?_)|fail)
 all_goals
  ((repeat refine aG ?_);refine pW (.blk b2 [.bool (B (z < 0)), .slice q' (gr b).length cq'] 42:: .blk b1 [.bool (B (y < 0)), .slice q (gr a).length cq] 42::M0) (I0) [0,1,2,3,4,5,7,8,9,6,10,11,12,13] [2,2,2,2,1,1,3,2,2,0,0,0,0,0] mixed ?_)
  repeat' (first|refine aQ ?_|refine aJ rfl (fun h=>?_) (fun h=>?_)|refine aK rfl rfl (fun h=>?_) (fun h=>?_)|fail)
  (refine bD rfl (hM1 p1 c1 ho1 _ _ aA) ?_;rintro _ _ _ ⟨rfl,rfl⟩;refine aN ?_;refine aT (List.Mem.head _) (fun q6 c6 e__ hc6 hz6=>?_);subst e__)
  repeat' (first|refine aQ ?_|refine aJ rfl (fun h=>?_) (fun h=>?_)|refine aK rfl rfl (fun h=>?_) (fun h=>?_)|fail)
  (refine bD rfl (hM2 p3 c3 ho3 _ _ aA) ?_;rintro _ _ _ ⟨rfl,rfl⟩;refine aN ?_;refine aT (List.Mem.head _) (fun q7 c7 e__ hc7 hz7=>?_);subst e__)
  unfold iv
  repeat' (first|refine aQ ?_|refine aJ rfl (fun h=>?_) (fun h=>?_)|refine aK rfl rfl (fun h=>?_) (fun h=>?_)|fail)
  refine dW (rs:=[.cell 4 42, .cell 5 42, .tmp 6]) (.inl rfl) rfl (.cellN inferInstance rfl aA rfl (.cellN inferInstance rfl aA rfl (.tmp rfl .nil))) rfl M0 (iA (.agg #[.bool (B (t < 0)), .slice q7 (gr t.natAbs).length c7]) t m::iA (.agg #[.bool (B (s < 0)), .slice q6 (gr s.natAbs).length c6]) s k::I0) aF aC ⟨rfl,_,_,rfl,rfl⟩
theorem aBP {u v:Value} {y z:Int} {k m:Nat} (hk:k≤1000000000000) (hm:m≤1000000000000) (hz0:z≠0) (hu:iA u y k∈I0) (hv:iA v z m∈I0):
  CD Tryz.prog 60 [u,v] X w0 M0 I0 (DvP (y.fdiv z) (y.fmod z) k m M0 I0):=by
 refine bZ hu (fun q cq e hc hy=>?_)
 subst e
 refine bZ (List.Mem.tail _ hv) (fun q' cq' e hc' hz=>?_)
 subst e
 have hly:=eY hy
 have hlz:=eY hz
 have hfd:=aAW (y:=y) hz0
 have hz1:0 < z.natAbs:=by omega
 have hmod:=Nat.mod_lt y.natAbs hz1
 have hqb:y.natAbs / z.natAbs≤2 ^ k:=yJ hy
 have hrb:y.natAbs % z.natAbs≤2 ^ m:=by omega
 have hlq:=eY hqb
 have hlr:=eY hrb
 have hlz1:¬(gr z.natAbs).length=0:=fun e=>by have:=oZ.1 (List.eq_nil_of_length_eq_zero e);omega
 have hg1:gr 1=[1]:=wU (f:=1) (by decide) (by decide)
 have hr0:(gr (y.natAbs % z.natAbs)).length=0↔y.natAbs % z.natAbs=0:=by rw [List.length_eq_zero_iff,oZ]
 refine CD.post (K:=DvP (y.fdiv z) (y.fmod z) k m M0 (aI q' (recs eG (gr z.natAbs))::aI q (recs eG (gr y.natAbs))::I0)) ?_ (fun v M I w h hw=>?_)
 case refine_2=>
  obtain ⟨e1,v1,v2,e2,e3⟩:=h
  subst e1;subst e3
  exact ⟨_,_,⟨rfl,v1,v2,e2,rfl⟩,hw.inc (Inc.cons (by simp) (Inc.cons (by simp) (Inc.wk (Inc.wk (Inc.wk (Inc.wk Inc.refl))))))⟩
 have hG1:=fun M0 I0 h=>iU (X:=X) (w0:=w0) (M0:=M0) (I0:=I0) (c:=cq) (q:=q) (z:=y) hy (by omega) h
 have hG2:=fun M0 I0 h=>iU (X:=X) (w0:=w0) (M0:=M0) (I0:=I0) (c:=cq') (q:=q') (z:=z) hz (by omega) h
 have hO:=fun M0 I0=>aPU (X:=X) (w0:=w0) (M0:=M0) (I0:=I0) (p:=q) (q:=q') (m:=y.natAbs) (n:=z.natAbs) (cp:=cq) (cq:=cq') (by omega) (by omega) hz1 hc
 have hCl:=fun p2 c2 (ho2:sO p2 (y.natAbs % z.natAbs) c2) M0 I0 h=>aBX (X:=X) (w0:=w0) (M0:=M0) (I0:=I0) (q:=p2) (a:=gr (y.natAbs % z.natAbs)) (c:=c2) (by omega) ho2.2 h
 unfold iv at hG1 hG2 ⊢
 by_cases hA:(gr (y.natAbs % z.natAbs)).length=0∨(y < 0↔z < 0)
 ·obtain ⟨e1,e2⟩:=hfd.2 (hA.elim (fun h=> .inr (hr0.1 h)) .inl)
  have s1:sg (¬(y < 0↔z < 0)) (y.natAbs / z.natAbs)=y.fdiv z:=by rw [e1];rfl
  have s2:sg (z < 0) (y.natAbs % z.natAbs)=y.fmod z:=by rw [e2];rfl
  have hM1:=fun p4 c4 (h4:sO p4 (y.natAbs / z.natAbs) c4) M0 I0 h=>mQ (X:=X) (w0:=w0) (M0:=M0) (I0:=I0) (p:=¬(y < 0↔z < 0)) (k:=k) (by omega) h4 hqb h
  have hM2:=fun p4 c4 (h4:sO p4 (y.natAbs % z.natAbs) c4) M0 I0 h=>mQ (X:=X) (w0:=w0) (M0:=M0) (I0:=I0) (p:=z < 0) (k:=m) (by omega) h4 hrb h
  rw [s1] at hM1
  rw [s2] at hM2
  exact aVW hlz1 hA hG1 hG2 hO hCl hM1 hM2 (by simp) (by simp)
 ·have hA1:¬(gr (y.natAbs % z.natAbs)).length=0:=fun h=>hA (.inl h)
  have hA2:¬(y < 0↔z < 0):=fun h=>hA (.inr h)
  have hAr:y.natAbs % z.natAbs≠0:=fun h=>hA1 (hr0.2 h)
  obtain ⟨e1,e2⟩:=hfd.1 hA2 hAr
  have hab:=Nat.div_add_mod y.natAbs z.natAbs
  have hbQ:y.natAbs / z.natAbs≤z.natAbs*(y.natAbs / z.natAbs):=Nat.le_mul_of_pos_left _ hz1
  have hQ1:y.natAbs / z.natAbs+1≤2 ^ k:=by omega
  have hR1:z.natAbs - y.natAbs % z.natAbs≤2 ^ m:=by omega
  have hlQ1:=eY hQ1
  have hlR1:=eY hR1
  have s1:sg (¬(y < 0↔z < 0)) (y.natAbs / z.natAbs+1)=y.fdiv z:=by rw [e1];unfold sg;rw [if_pos hA2]
  have s2:sg (z < 0) (z.natAbs - y.natAbs % z.natAbs)=y.fmod z:=by rw [e2];rfl
  have hM1:=fun p4 c4 (h4:sO p4 (y.natAbs / z.natAbs+1) c4) M0 I0 h=>mQ (X:=X) (w0:=w0) (M0:=M0) (I0:=I0) (p:=¬(y < 0↔z < 0)) (k:=k) (by omega) h4 hQ1 h
  have hM2:=fun p4 c4 (h4:sO p4 (z.natAbs - y.natAbs % z.natAbs) c4) M0 I0 h=>mQ (X:=X) (w0:=w0) (M0:=M0) (I0:=I0) (p:=z < 0) (k:=m) (by omega) h4 hR1 h
  rw [s1] at hM1
  rw [s2] at hM2
  have hP:=fun p1 c1 p2 M0 I0=>aPP (X:=X) (w0:=w0) (M0:=M0) (I0:=I0) (p:=p1) (q:=p2) (m:=y.natAbs / z.natAbs) (n:=1) (cp:=c1) (cq:=1) (by omega) (by rw [hg1];simp)
  simp only [hg1] at hP
  have hMi:=fun p3 c3 M0 I0=>aDP (X:=X) (w0:=w0) (M0:=M0) (I0:=I0) (p:=q') (q:=p3) (m:=z.natAbs) (n:=y.natAbs % z.natAbs) (cp:=cq') (cq:=c3) (by omega) (by omega)
  exact aVI hlz1 hA1 hA2 hg1 hG1 hG2 hO hCl hP hMi hM1 hM2 (by simp) (by simp)
end
theorem aUD {n:Nat} (h:0 < n∧n≤9223372036854775808):IntKind.u64.wrap (0 - (-(n:Int)+18446744073709551616))=n:=by
 simp [IntKind.wrap,IntKind.bits,IntKind.signed];omega
section
variable {X:List Nat} {w0:World} {M0:List Ent} {I0:List aL}
theorem bFF {n:Nat} (hx:0 < n∧n≤9223372036854775808):CD Tryz.prog 58 [.int .i64 (-(n:Int))] X w0 M0 I0 (fun v M I=>M0=M∧I=iA v (-(n:Int)) 63::I0):=by
 have hn:n≤2 ^ 63:=by omega
 have hlt:(-(n:Int)) < 0:=by omega
 have hMd:=fun (q':Option Addr) (c':Nat) (hc':sO q' n c') M0 I0=>mQ (X:=X) (w0:=w0) (M0:=M0) (I0:=I0) (p:=(-(n:Int)) < 0) (q:=q') (c:=c') (k:=63) (by have:=eY hn;omega) hc' hn
 have hs2:sg ((-(n:Int)) < 0) n= -(n:Int):=by unfold sg;rw [if_pos hlt]
 rw [hs2] at hMd
 refine aR Tryz.func58 rfl Tryz.ntmps58 rfl ?_
 refine gG ?_
 refine cK (fun b=>?_)
 repeat refine aQ ?_
 refine aD rfl (fun _=>fE rfl (aLP (by omega))) rfl rfl ?_
 repeat refine aQ ?_
 refine aD rfl (fun _=>gH rfl (aUD hx)) rfl rfl ?_
 repeat refine aQ ?_
 (refine bD rfl (uB (n:=n) (by omega)) ?_;rintro _ _ _ ⟨rfl,q',c',rfl,hc',rfl⟩;refine aN ?_)
 (refine bD rfl (hMd q' c' hc' _ _ aA) ?_;rintro _ _ _ ⟨rfl,rfl⟩;refine aN ?_;refine aT (List.Mem.head _) (fun q2 c2 e__ hc2 hz2=>?_);subst e__)
 unfold iv
 repeat refine aQ ?_
 refine aO (cs:=[.bool (B (-(n:Int) < 0)), .slice q2 (gr (-(n:Int)).natAbs).length c2]) (.inl rfl) rfl rfl aA rfl _ _ aF aC ⟨rfl,rfl⟩
theorem aFL {x:Int} (hx: -9223372036854775808≤x∧x≤9223372036854775807):CD Tryz.prog 58 [.int .i64 x] X w0 M0 I0 (fun v M I=>M0=M∧I=iA v x 63::I0):=by
 by_cases h:x < 0
 ·obtain ⟨n,rfl⟩:∃n:Nat,x= -(n:Int):=⟨x.natAbs,by omega⟩
  exact bFF (by omega)
 ·exact Of_ok (by omega)
end
section
variable {X:List Nat} {w0:World} {M0:List Ent} {I0:List aL}
theorem rY {u:Value} {z:Int} {k:Nat} (hk:k≤1000000000000) (hu:iA u z k∈I0):
  CD Tryz.prog 120 [u] X w0 M0 I0 (fun v M I=>M0=M∧I0=I∧v= .bool true):=by
 refine CD.post (K:=fun v M I=>M0=M∧(∃q,aI q (recs eG (gr z.natAbs))::I0=I)∧v= .bool true) (bZ hu (fun q c e hc hz=>?_)) (fun v M I w h hw=>?_)
 case refine_2=>
  obtain ⟨e1,⟨q,e2⟩,e3⟩:=h
  subst e1;subst e2
  exact ⟨_,_,⟨rfl,rfl,e3⟩,hw.inc (Inc.wk Inc.refl)⟩
 subst e
 have hl:=fV hz hk
 refine (xB (neg:=B (z < 0)) (gs:=gr z.natAbs) (by omega) (List.Mem.head _)).mono (fun v M I h=>⟨h.1,⟨q,h.2.1⟩,?_⟩)
 rw [h.2.2]
 exact congrArg Value.bool (bK (aCB z))
theorem vV {u v:Value} {n d:Int} {k:Nat} (hk:k≤500000000000) (hd0:d≠0) (hu:iA u n k∈I0) (hv:iA v d k∈I0):
  CD Tryz.prog 167 [u,v] X w0 M0 I0 (RQ (Rat.divInt n d) k M0 I0):=by
 have hS:=fun M0 I0=>qG (X:=X) (w0:=w0) (M0:=M0) (I0:=I0) (u:=v) (z:=d) (k:=k) (by omega)
 refine bZ hu (fun q cq e hc hy=>?_)
 subst e
 refine bZ (List.Mem.tail _ hv) (fun q' cq' e hc' hz=>?_)
 subst e
 obtain ⟨r,hr⟩:∃r,r=Rat.divInt n d:=⟨_,rfl⟩
 have key:∀n' d':Int,0 < d'→Rat.divInt n' d'=Rat.divInt n d→(∀u v M0 I0,iA u n' k∈I0→iA v (Int.gcd n' d':Int) (k+k)∈I0→CD Tryz.prog 60 [u,v] X w0 M0 I0 (DvP r.num (n'.fmod (Int.gcd n' d')) k (k+k) M0 I0))∧(∀u v M0 I0,iA u d' k∈I0→iA v (Int.gcd n' d':Int) (k+k)∈I0→CD Tryz.prog 60 [u,v] X w0 M0 I0 (DvP r.den (d'.fmod (Int.gcd n' d')) k (k+k) M0 I0)):=by
  intro n' d' hd' he
  obtain ⟨e1,e2,e3⟩:=aPZ (n:=n') (d:=d') (g:=(Int.gcd n' d':Int)) (by omega) (by rw [if_neg (by omega)])
  rw [he,←hr] at e1 e2
  refine ⟨fun u v M0 I0 h1 h2=>?_,fun u v M0 I0 h1 h2=>?_⟩
  ·have:=aBP (X:=X) (w0:=w0) (M0:=M0) (I0:=I0) (k:=k) (m:=k+k) (by omega) (by omega) e3 h1 h2
   rwa [e1] at this
  ·have:=aBP (X:=X) (w0:=w0) (M0:=M0) (I0:=I0) (k:=k) (m:=k+k) (by omega) (by omega) e3 h1 h2
   rwa [e2] at this
 rw [←hr]
 have hN:=fun u z M0 I0=>aJO (X:=X) (w0:=w0) (M0:=M0) (I0:=I0) (u:=u) (z:=z) (k:=k) (by omega)
 have hG:=fun u v n' d' M0 I0=>aIL (X:=X) (w0:=w0) (M0:=M0) (I0:=I0) (u:=u) (v:=v) (y:=n') (z:=d') (k0:=k) (m:=k) (by omega) (by omega)
 by_cases hneg:d < 0
 ·have hs:d.sign= -1:=Int.sign_eq_neg_one_of_neg hneg
  obtain ⟨hD1,hD2⟩:=key (-n) (-d) (by omega) aDQ
  rw [hs] at hS
  clear key
  obtain ⟨g,hg⟩:∃g:Int,g=(Int.gcd (-n) (-d):Int):=⟨_,rfl⟩
  rw [←hg] at hD1 hD2
  have hG:=fun u v=>hG u v (-n) (-d)
  rw [←hg] at hG
  obtain ⟨n1,hn1⟩:∃g:Int,g= -n:=⟨_,rfl⟩
  obtain ⟨d1,hd1⟩:∃g:Int,g= -d:=⟨_,rfl⟩
  have hN1:=fun u=>hN u n
  have hN2:=fun u=>hN u d
  rw [←hn1] at hN1 hD1 hG
  rw [←hd1] at hN2 hD2 hG
  unfold iv at*
  refine aM Tryz.func167 rfl Tryz.ntmps167 rfl ?_
  refine gG ?_
  refine gN rfl (fun b=>?_)
  refine gN rfl (fun b2=>?_)
  refine cK (fun b4=>?_)
  repeat refine aQ ?_
  refine dH rfl (hS _ _ aA) ?_
  repeat refine aQ ?_
  (repeat refine aG ?_);refine aW 2 [0,2,1,3,4,5] [1,2,0,0,0,0] mixed (by kernel_rfl) ?_
  repeat refine aQ ?_
  (refine bD rfl (hN1 _ _ _ aA) ?_;rintro _ _ _ ⟨rfl,rfl⟩;refine aN ?_;refine aT (List.Mem.head _) (fun q1 c1 e__ hc1 hz1=>?_);subst e__)
  repeat refine aQ ?_
  (refine bD rfl (hN2 _ _ _ aA) ?_;rintro _ _ _ ⟨rfl,rfl⟩;refine aN ?_;refine aT (List.Mem.head _) (fun q2 c2 e__ hc2 hz2=>?_);subst e__)
  unfold iv
  repeat refine aQ ?_
  (refine bD rfl (hG _ _ _ _ aA aA) ?_;rintro _ _ _ ⟨rfl,rfl⟩;refine aN ?_;refine aT (List.Mem.head _) (fun q3 c3 e__ hc3 hz3=>?_);subst e__)
  unfold iv
  repeat refine aQ ?_
  refine cK (fun b5=>?_)
  repeat refine aQ ?_
  (refine bD rfl (hD1 _ _ _ _ aA aA) ?_;rintro _ _ _ ⟨rfl,v1,v2,rfl,rfl⟩;refine aN ?_)
  refine aT (u:=v1) aA (fun q4 c4 e4 hc4 hz4=>?_)
  subst e4
  unfold iv
  repeat refine aQ ?_
  (refine bD rfl (hD2 _ _ _ _ aA aA) ?_;rintro _ _ _ ⟨rfl,v3,v4,rfl,rfl⟩;refine aN ?_)
  refine aT (u:=v3) aA (fun q5 c5 e5 hc5 hz5=>?_)
  subst e5
  unfold iv
  repeat refine aQ ?_
  (refine aD rfl (fun _=>bC (pvs:=([vI q4 c4 r.num,vI q5 c5 r.den]).zipIdx.map (fun p=>(p.2,p.1))) (cells:=eR ⟨r,q4,c4,q5,c5⟩) rfl rfl) rfl rfl ?_)
  repeat refine aQ ?_
  refine mO (q:=r) (k:=k) (p1:=q4) (c1:=c4) (p2:=q5) (c2:=c5) aA aA (Nat.le_refl _) (Nat.le_refl _) ?_
  refine aO (cs:=eR ⟨r,q4,c4,q5,c5⟩) (.inl rfl) rfl rfl aA rfl M0 (bL ⟨r,q4,c4,q5,c5⟩ k::I0) aF aC ⟨rfl,⟨r,q4,c4,q5,c5⟩,rfl,rfl,rfl⟩
 ·have hs:d.sign=1:=Int.sign_eq_one_of_pos (by omega)
  obtain ⟨hD1,hD2⟩:=key n d (by omega) rfl
  rw [hs] at hS
  clear key hN
  obtain ⟨g,hg⟩:∃g:Int,g=(Int.gcd n d:Int):=⟨_,rfl⟩
  rw [←hg] at hD1 hD2
  have hG:=fun u v=>hG u v n d
  rw [←hg] at hG
  unfold iv at*
  refine aM Tryz.func167 rfl Tryz.ntmps167 rfl ?_
  refine gG ?_
  refine gN rfl (fun b=>?_)
  refine gN rfl (fun b2=>?_)
  refine cK (fun b4=>?_)
  repeat refine aQ ?_
  refine dH rfl (hS _ _ aA) ?_
  repeat refine aQ ?_
  (refine bD rfl (hG _ _ _ _ aA aA) ?_;rintro _ _ _ ⟨rfl,rfl⟩;refine aN ?_;refine aT (List.Mem.head _) (fun q3 c3 e__ hc3 hz3=>?_);subst e__)
  unfold iv
  repeat refine aQ ?_
  refine cK (fun b5=>?_)
  repeat refine aQ ?_
  (refine bD rfl (hD1 _ _ _ _ aA aA) ?_;rintro _ _ _ ⟨rfl,v1,v2,rfl,rfl⟩;refine aN ?_)
  refine aT (u:=v1) aA (fun q4 c4 e4 hc4 hz4=>?_)
  subst e4
  unfold iv
  repeat refine aQ ?_
  (refine bD rfl (hD2 _ _ _ _ aA aA) ?_;rintro _ _ _ ⟨rfl,v3,v4,rfl,rfl⟩;refine aN ?_)
  refine aT (u:=v3) aA (fun q5 c5 e5 hc5 hz5=>?_)
  subst e5
  unfold iv
  repeat refine aQ ?_
  (refine aD rfl (fun _=>bC (pvs:=([vI q4 c4 r.num,vI q5 c5 r.den]).zipIdx.map (fun p=>(p.2,p.1))) (cells:=eR ⟨r,q4,c4,q5,c5⟩) rfl rfl) rfl rfl ?_)
  repeat refine aQ ?_
  refine mO (q:=r) (k:=k) (p1:=q4) (c1:=c4) (p2:=q5) (c2:=c5) aA aA (Nat.le_refl _) (Nat.le_refl _) ?_
  refine aO (cs:=eR ⟨r,q4,c4,q5,c5⟩) (.inl rfl) rfl rfl aA rfl M0 (bL ⟨r,q4,c4,q5,c5⟩ k::I0) aF aC ⟨rfl,⟨r,q4,c4,q5,c5⟩,rfl,rfl,rfl⟩
theorem aUK {e:RE} {k:Nat} (hk:k≤500000000000) (he:Hv I0 (bL e k)):
  CD Tryz.prog 57 [rv e] X w0 M0 I0 (fun v M I=>M0=M∧I0=I∧v= .bool true):=by
 refine CD.post (K:=fun v M I=>M0=M∧iA (vI e.p1 e.c1 e.q.num) e.q.num k::iA (vI e.p2 e.c2 e.q.den) e.q.den k::I0=I∧v= .bool true) (aDZ he ?_) (fun v M I w h hw=>?_)
 case refine_2=>
  obtain ⟨e1,e2,e3⟩:=h
  subst e1;subst e2
  exact ⟨_,_,⟨rfl,rfl,e3⟩,hw.inc (Inc.wk (Inc.wk Inc.refl))⟩
 have hV1:=fun M0 I0 h=>rY (X:=X) (w0:=w0) (M0:=M0) (I0:=I0) (u:=vI e.p1 e.c1 e.q.num) (z:=e.q.num) (k:=k) (by omega) h
 have hV2:=fun M0 I0 h=>rY (X:=X) (w0:=w0) (M0:=M0) (I0:=I0) (u:=vI e.p2 e.c2 e.q.den) (z:=e.q.den) (k:=k) (by omega) h
 have hS:=fun M0 I0=>qG (X:=X) (w0:=w0) (M0:=M0) (I0:=I0) (u:=vI e.p2 e.c2 e.q.den) (z:=e.q.den) (k:=k) (by omega)
 have hs:((e.q.den:Int)).sign=1:=Int.sign_eq_one_of_pos (by have:=e.q.den_nz;omega)
 rw [hs] at hS
 have hG:=fun M0 I0=>aIL (X:=X) (w0:=w0) (M0:=M0) (I0:=I0) (u:=vI e.p1 e.c1 e.q.num) (v:=vI e.p2 e.c2 e.q.den) (y:=e.q.num) (z:=e.q.den) (k0:=k) (m:=k) (by omega) (by omega)
 rw [aPT] at hG
 have hC:=fun u v M0 I0=>zF (X:=X) (w0:=w0) (M0:=M0) (I0:=I0) (u:=u) (v:=v) (y:=1) (z:=1) (k:=k+k) (m:=63) (by omega) (by omega)
 have hc:gD 1 1=0:=by decide
 rw [hc] at hC
 refine aR Tryz.func57 rfl Tryz.ntmps57 rfl ?_
 refine gG ?_
 refine gN rfl (fun b=>?_)
 repeat refine aQ ?_
 refine dH rfl (hV1 _ _ aA) ?_
 repeat refine aQ ?_
 refine dH rfl (hV2 _ _ aA) ?_
 repeat refine aQ ?_
 refine dH rfl (hS _ _ aA) ?_
 repeat refine aQ ?_
 (refine bD rfl (hG _ _ aA aA) ?_;rintro _ _ _ ⟨rfl,rfl⟩;refine aN ?_)
 repeat refine aQ ?_
 (refine bD rfl (aFL (x:=1) (by decide)) ?_;rintro _ _ _ ⟨rfl,rfl⟩;refine aN ?_)
 refine dH rfl (hC _ _ _ _ aA aA) ?_
 repeat refine aQ ?_
 refine aU (by first|exact .inl rfl|exact .inr rfl) rfl rfl _ _ aF aC (⟨rfl,rfl,congrArg Value.bool (bK (by decide))⟩)
end
section
variable {X:List Nat} {w0:World} {M0:List Ent} {I0:List aL}
theorem aSO {f:FuncId} {vs:List Value} {e:RE} {k m:Nat} {q:Rat} {P:Program} (h:Hv I0 (bL e k)) (c:CD P f vs X w0 M0 (iA (vI e.p1 e.c1 e.q.num) e.q.num k::iA (vI e.p2 e.c2 e.q.den) e.q.den k::I0) (RQ q m M0 (iA (vI e.p1 e.c1 e.q.num) e.q.num k::iA (vI e.p2 e.c2 e.q.den) e.q.den k::I0))):CD P f vs X w0 M0 I0 (RQ q m M0 I0):=
 CD.post (aDZ h c) (fun v M I w ⟨e1,e2,h2,h3,h4⟩ hw=>by
  subst e1;subst h4
  exact ⟨_,_,⟨rfl,e2,h2,h3,rfl⟩,hw.inc (Inc.cons (List.Mem.head _) (Inc.wk (Inc.wk (Inc.wk Inc.refl))))⟩)
theorem aTK {e:RE} {k:Nat} (hk:k≤500000000000) (he:Hv I0 (bL e k)):
  CD Tryz.prog 227 [rv e] X w0 M0 I0 (RQ e.q k M0 I0):=by
 refine aSO he ?_
 have hN:=fun z u M0 I0=>aJO (X:=X) (w0:=w0) (M0:=M0) (I0:=I0) (u:=u) (z:=z) (k:=k) (by omega)
 have h1:=hN (-e.q.num)
 have h2:=hN (-(e.q.den:Int))
 rw [Int.neg_neg] at h1 h2
 refine aR Tryz.func227 rfl Tryz.ntmps227 rfl ?_
 refine gG ?_
 refine gN rfl (fun b=>?_)
 refine cK (fun b2=>?_)
 repeat refine aQ ?_
 (repeat refine aG ?_);refine aW 3 [0,1,4,5,2,3,6,7,8,9] [4,3,4,3,0,0,0,0,0,0] mixed (by kernel_rfl) ?_
 repeat refine aQ ?_
 (refine bD rfl (hN e.q.num _ _ _ aA) ?_;rintro _ _ _ ⟨rfl,rfl⟩;refine aN ?_)
 (refine bD rfl (h1 _ _ _ aA) ?_;rintro _ _ _ ⟨rfl,rfl⟩;refine aN ?_)
 refine aT (z:=e.q.num) (List.Mem.head _) (fun q3 c3 e3 hc3 hz3=>?_)
 subst e3
 unfold iv
 repeat refine aQ ?_
 (refine bD rfl (hN e.q.den _ _ _ aA) ?_;rintro _ _ _ ⟨rfl,rfl⟩;refine aN ?_)
 (refine bD rfl (h2 _ _ _ aA) ?_;rintro _ _ _ ⟨rfl,rfl⟩;refine aN ?_)
 refine aT (z:=(e.q.den:Int)) (List.Mem.head _) (fun q4 c4 e4 hc4 hz4=>?_)
 subst e4
 unfold iv
 (refine aD rfl (fun _=>bC (pvs:=([vI q3 c3 e.q.num,vI q4 c4 e.q.den]).zipIdx.map (fun p=>(p.2,p.1))) (cells:=eR ⟨e.q,q3,c3,q4,c4⟩) rfl rfl) rfl rfl ?_)
 repeat refine aQ ?_
 refine mO (q:=e.q) (k:=k) (p1:=q3) (c1:=c3) (p2:=q4) (c2:=c4) aA aA (Nat.le_refl _) (Nat.le_refl _) ?_
 refine aO (cs:=eR ⟨e.q,q3,c3,q4,c4⟩) (.inl rfl) rfl rfl aA rfl M0 (bL ⟨e.q,q3,c3,q4,c4⟩ k::_) aF aC ⟨rfl,⟨e.q,q3,c3,q4,c4⟩,rfl,rfl,rfl⟩
theorem nK {e:RE} {k:Nat} (hk:k≤500000000000) (he:Hv I0 (bL e k)):
  CD Tryz.prog 165 [rv e] X w0 M0 I0 (RQ e.q k M0 I0):=by
 refine aR Tryz.func165 rfl Tryz.ntmps165 rfl ?_
 refine gG ?_
 refine gN rfl (fun b=>?_)
 refine cK (fun b2=>?_)
 repeat refine aQ ?_
 refine dH rfl (aUK hk he) ?_
 repeat refine aQ ?_
 refine fK rfl (aTK hk he) (fun e2 he2=>?_)
 repeat refine aQ ?_
 refine aO (cs:=eR e2) (.inl rfl) rfl rfl aA rfl M0 (bL e2 k::I0) aF aC ⟨rfl,e2,rfl,he2,rfl⟩
theorem vF {x:Int} (hx: -9223372036854775808≤x∧x≤9223372036854775807) {k:Nat} (hk:x.natAbs≤2 ^ k):
  CD Tryz.prog 101 [.int .i64 x] X w0 M0 I0 (RQ (x:Rat) k M0 I0):=by
 have hn:((x:Rat)).num=x:=Rat.num_intCast x
 have hd:(((x:Rat)).den:Int)=1:=by rw [Rat.den_intCast];rfl
 have h1:(1:Int).natAbs≤2 ^ k:=Nat.one_le_two_pow
 obtain ⟨q,hq⟩:∃q:Rat,q=(x:Rat):=⟨_,rfl⟩
 rw [←hq] at hn hd ⊢
 refine aR Tryz.func101 rfl Tryz.ntmps101 rfl ?_
 refine gG ?_
 refine cK (fun b2=>?_)
 repeat refine aQ ?_
 (refine bD rfl (aFL hx) ?_;rintro _ _ _ ⟨rfl,rfl⟩;refine aN ?_;refine aT (List.Mem.head _) (fun q3 c3 e__ hc3 hz3=>?_);subst e__)
 unfold iv
 refine nY (k2:=k) (z:=x) (List.Mem.tail _ (List.Mem.head _)) hk ?_
 (refine bD rfl (aFL (x:=1) (by decide)) ?_;rintro _ _ _ ⟨rfl,rfl⟩;refine aN ?_;refine aT (List.Mem.head _) (fun q4 c4 e__ hc4 hz4=>?_);subst e__)
 unfold iv
 refine nY (k2:=k) (z:=1) (List.Mem.tail _ (List.Mem.head _)) h1 ?_
 rw [←hn,←hd]
 (refine aD rfl (fun _=>bC (pvs:=([vI q3 c3 q.num,vI q4 c4 q.den]).zipIdx.map (fun p=>(p.2,p.1))) (cells:=eR ⟨q,q3,c3,q4,c4⟩) rfl rfl) rfl rfl ?_)
 repeat refine aQ ?_
 refine mO (q:=q) (k:=k) (p1:=q3) (c1:=c3) (p2:=q4) (c2:=c4) aA aA (Nat.le_refl _) (Nat.le_refl _) ?_
 refine aO (cs:=eR ⟨q,q3,c3,q4,c4⟩) (.inl rfl) rfl rfl aA rfl M0 (bL ⟨q,q3,c3,q4,c4⟩ k::I0) aF aC ⟨rfl,⟨q,q3,c3,q4,c4⟩,rfl,rfl,rfl⟩
theorem nM {e:RE} {k:Nat} (hk:k≤500000000000) (he:Hv I0 (bL e k)):
  CD Tryz.prog 86 [rv e] X w0 M0 I0 (fun v M I=>M0=M∧I0=I∧v= .int .i64 e.q.num.sign):=by
 refine aR Tryz.func86 rfl Tryz.ntmps86 rfl ?_
 refine gG ?_
 refine gN rfl (fun b=>?_)
 repeat refine aQ ?_
 refine fK rfl (nK hk he) (fun e2 he2=>?_)
 refine aD rfl (fun _=>dI rfl) rfl rfl ?_
 refine iD (e:=e2) (k:=k) (Hv.mem (List.Mem.head _)) ?_
 refine dH rfl (qG (z:=e2.q.num) (k:=k) (by omega) aA) ?_
 rw [he2]
 repeat refine aQ ?_
 refine iR rfl rfl (⟨rfl,rfl,rfl⟩)
theorem aJA {e:RE} {k:Nat} (hk:k≤500000000000) (he:Hv I0 (bL e k)):
  CD Tryz.prog 194 [rv e] X w0 M0 I0 (RQ (-e.q) k M0 I0):=by
 refine aR Tryz.func194 rfl Tryz.ntmps194 rfl ?_
 refine gG ?_
 refine gN rfl (fun b=>?_)
 refine cK (fun b2=>?_)
 repeat refine aQ ?_
 refine fK rfl (nK hk he) (fun e2 he2=>?_)
 refine iD (e:=e2) (k:=k) (Hv.mem (List.Mem.head _)) ?_
 rw [←he2]
 have hN:=fun M0 I0=>aJO (X:=X) (w0:=w0) (M0:=M0) (I0:=I0) (u:=vI e2.p1 e2.c1 e2.q.num) (z:=e2.q.num) (k:=k) (by omega)
 rw [←Rat.neg_num] at hN
 have hd:((e2.q.den:Int))=((-e2.q).den:Int):=by rw [Rat.neg_den]
 repeat refine aQ ?_
 (repeat refine aG ?_);refine aW 1 [0,1,3,4,2,5,6] [1,0,1,1,0,0,0] mixed (by kernel_rfl) ?_
 repeat refine aQ ?_
 (refine bD rfl (hN _ _ aA) ?_;rintro _ _ _ ⟨rfl,rfl⟩;refine aN ?_;refine aT (List.Mem.head _) (fun q3 c3 e__ hc3 hz3=>?_);subst e__)
 unfold iv
 rw [hd]
 (refine aD rfl (fun _=>bC (pvs:=([vI q3 c3 (-e2.q).num,vI e2.p2 e2.c2 (-e2.q).den]).zipIdx.map (fun p=>(p.2,p.1))) (cells:=eR ⟨-e2.q,q3,c3,e2.p2,e2.c2⟩) rfl rfl) rfl rfl ?_)
 repeat refine aQ ?_
 refine mO (q:= -e2.q) (k:=k) (p1:=q3) (c1:=c3) (p2:=e2.p2) (c2:=e2.c2) aA aA (Nat.le_refl _) (Nat.le_refl _) ?_
 refine aO (cs:=eR ⟨-e2.q,q3,c3,e2.p2,e2.c2⟩) (.inl rfl) rfl rfl aA rfl M0 (bL ⟨-e2.q,q3,c3,e2.p2,e2.c2⟩ k::I0) aF aC ⟨rfl,⟨-e2.q,q3,c3,e2.p2,e2.c2⟩,rfl,rfl,rfl⟩
end
theorem aRL (k m:Nat):2 ^ (k+m)+2 ^ (m+k)≤2 ^ (k+m+1):=by
 rw [Nat.add_comm m k,Nat.pow_succ];omega
theorem aAR (q:Rat):(0:Int) < q.den:=by have:=q.den_nz;omega
theorem vZ (p q:Rat):((p.den:Int)*q.den)≠0:=by
 have:=Int.mul_pos (aAR p) (aAR q);omega
theorem aEI {p q:Rat} (h:q≠0):((p.den:Int)*q.num)≠0:=fun h0=>by
 rcases Int.mul_eq_zero.1 h0 with h1|h1
 ·exact absurd h1 (by have:=aAR p;omega)
 ·exact h (Rat.num_eq_zero.1 h1)
section
variable {X:List Nat} {w0:World} {M0:List Ent} {I0:List aL}
theorem vP {a b:RE} {k m:Nat} (hk:k+m+1≤500000000000) (ha:Hv I0 (bL a k)) (hb:Hv I0 (bL b m)):
  CD Tryz.prog 93 [rv a,rv b] X w0 M0 I0 (RQ (a.q+b.q) (k+m+1) M0 I0):=by
 refine aM Tryz.func93 rfl Tryz.ntmps93 rfl ?_
 refine gG ?_
 refine gN rfl (fun b1=>?_)
 refine gN rfl (fun b2=>?_)
 refine cK (fun b3=>?_)
 repeat refine aQ ?_
 (repeat refine aG ?_);refine aW 2 [0,2,1,3,4,5] [1,2,0,0,0,0] mixed (by kernel_rfl) ?_
 repeat refine aQ ?_
 refine fK rfl (nK (k:=k) (by omega) ha) (fun x hx=>?_)
 repeat refine aQ ?_
 refine fK rfl (nK (k:=m) (by omega) hb.cons) (fun y hy=>?_)
 refine iD (e:=x) (k:=k) (Hv.mem (List.Mem.tail _ (List.Mem.head _))) ?_
 refine iD (e:=y) (k:=m) (Hv.mem (List.Mem.tail _ (List.Mem.tail _ (List.Mem.head _)))) ?_
 rw [←hx,←hy]
 have hM1:=fun u v M0 I0=>uA (X:=X) (w0:=w0) (M0:=M0) (I0:=I0) (u:=u) (v:=v) (y:=x.q.num) (z:=y.q.den) (k:=k) (m:=m) (by omega)
 have hM2:=fun u v M0 I0=>uA (X:=X) (w0:=w0) (M0:=M0) (I0:=I0) (u:=u) (v:=v) (y:=y.q.num) (z:=x.q.den) (k:=m) (m:=k) (by omega)
 have hM3:=fun u v M0 I0=>uA (X:=X) (w0:=w0) (M0:=M0) (I0:=I0) (u:=u) (v:=v) (y:=x.q.den) (z:=y.q.den) (k:=k) (m:=m) (by omega)
 have hA:=fun u v M0 I0=>aWF (X:=X) (w0:=w0) (M0:=M0) (I0:=I0) (u:=u) (v:=v) (y:=x.q.num*y.q.den) (z:=y.q.num*x.q.den) (k:=k+m) (m:=m+k) (c:=k+m+1) (by omega) (by omega) (by omega) (aRL k m)
 have hR:=fun u v M0 I0=>vV (X:=X) (w0:=w0) (M0:=M0) (I0:=I0) (u:=u) (v:=v) (n:=x.q.num*y.q.den+y.q.num*x.q.den) (d:=x.q.den*y.q.den) (k:=k+m+1) (by omega) (vZ _ _)
 rw [←yT] at hR
 repeat refine aQ ?_
 (repeat refine aG ?_);refine pW (.blk b2 (eR y) 77:: .blk b1 (eR x) 77::M0) (I0) [0,1,2,3,5,6,7,8,11,12,13,14,4,9,10,15,16,17] [5,4,5,4,5,4,5,4,5,4,5,4,0,0,0,0,0,0] mixed ?_
 repeat refine aQ ?_
 (refine bD rfl (hM1 _ _ _ _ aA aA) ?_;rintro _ _ _ ⟨rfl,rfl⟩;refine aN ?_)
 (refine bD rfl (hM2 _ _ _ _ aA aA) ?_;rintro _ _ _ ⟨rfl,rfl⟩;refine aN ?_)
 (refine bD rfl (hA _ _ _ _ aA aA) ?_;rintro _ _ _ ⟨rfl,rfl⟩;refine aN ?_)
 (refine bD rfl (hM3 _ _ _ _ aA aA) ?_;rintro _ _ _ ⟨rfl,rfl⟩;refine aN ?_)
 refine aKB (k2:=k+m+1) (List.Mem.head _) (by omega) ?_
 refine fK rfl (hR _ _ _ _ aA aA) (fun e he=>?_)
 repeat refine aQ ?_
 refine aO (cs:=eR e) (.inl rfl) rfl rfl aA rfl M0 (bL e (k+m+1)::I0) aF aC ⟨rfl,e,rfl,he,rfl⟩
theorem aQO {a b:RE} {k m:Nat} (hk:k+m+1≤500000000000) (ha:Hv I0 (bL a k)) (hb:Hv I0 (bL b m)):
  CD Tryz.prog 118 [rv a,rv b] X w0 M0 I0 (RQ (a.q - b.q) (k+m+1) M0 I0):=by
 refine aM Tryz.func118 rfl Tryz.ntmps118 rfl ?_
 refine gG ?_
 refine gN rfl (fun b1=>?_)
 refine gN rfl (fun b2=>?_)
 refine cK (fun b3=>?_)
 repeat refine aQ ?_
 (repeat refine aG ?_);refine aW 1 [0,1,2,3,4] [1,1,0,0,0] mixed (by kernel_rfl) ?_
 repeat refine aQ ?_
 refine fK rfl (aJA (k:=m) (by omega) hb) (fun y hy=>?_)
 rw [Rat.sub_eq_add_neg,←hy]
 refine fK rfl (vP hk ha.cons (Hv.mem (List.Mem.head _))) (fun e he=>?_)
 repeat refine aQ ?_
 refine aO (cs:=eR e) (.inl rfl) rfl rfl aA rfl M0 (bL e (k+m+1)::I0) aF aC ⟨rfl,e,rfl,he,rfl⟩
theorem tK {a b:RE} {k m:Nat} (hk:k+m≤500000000000) (ha:Hv I0 (bL a k)) (hb:Hv I0 (bL b m)):
  CD Tryz.prog 94 [rv a,rv b] X w0 M0 I0 (RQ (a.q*b.q) (k+m) M0 I0):=by
 refine aM Tryz.func94 rfl Tryz.ntmps94 rfl ?_
 refine gG ?_
 refine gN rfl (fun b1=>?_)
 refine gN rfl (fun b2=>?_)
 refine cK (fun b3=>?_)
 repeat refine aQ ?_
 (repeat refine aG ?_);refine aW 2 [0,2,1,3,4,5] [1,2,0,0,0,0] mixed (by kernel_rfl) ?_
 repeat refine aQ ?_
 refine fK rfl (nK (k:=k) (by omega) ha) (fun x hx=>?_)
 repeat refine aQ ?_
 refine fK rfl (nK (k:=m) (by omega) hb.cons) (fun y hy=>?_)
 refine iD (e:=x) (k:=k) (Hv.mem (List.Mem.tail _ (List.Mem.head _))) ?_
 refine iD (e:=y) (k:=m) (Hv.mem (List.Mem.tail _ (List.Mem.tail _ (List.Mem.head _)))) ?_
 rw [←hx,←hy]
 have hM1:=fun u v M0 I0=>uA (X:=X) (w0:=w0) (M0:=M0) (I0:=I0) (u:=u) (v:=v) (y:=x.q.num) (z:=y.q.num) (k:=k) (m:=m) (by omega)
 have hM3:=fun u v M0 I0=>uA (X:=X) (w0:=w0) (M0:=M0) (I0:=I0) (u:=u) (v:=v) (y:=x.q.den) (z:=y.q.den) (k:=k) (m:=m) (by omega)
 have hR:=fun u v M0 I0=>vV (X:=X) (w0:=w0) (M0:=M0) (I0:=I0) (u:=u) (v:=v) (n:=x.q.num*y.q.num) (d:=x.q.den*y.q.den) (k:=k+m) (by omega) (vZ _ _)
 rw [←aFM] at hR
 repeat refine aQ ?_
 (repeat refine aG ?_);refine pW (.blk b2 (eR y) 77:: .blk b1 (eR x) 77::M0) (I0) [0,1,2,3,5,6,7,8,4,9,10,11] [3,2,3,2,3,2,3,2,0,0,0,0] mixed ?_
 repeat refine aQ ?_
 (refine bD rfl (hM1 _ _ _ _ aA aA) ?_;rintro _ _ _ ⟨rfl,rfl⟩;refine aN ?_)
 (refine bD rfl (hM3 _ _ _ _ aA aA) ?_;rintro _ _ _ ⟨rfl,rfl⟩;refine aN ?_)
 refine fK rfl (hR _ _ _ _ aA aA) (fun e he=>?_)
 repeat refine aQ ?_
 refine aO (cs:=eR e) (.inl rfl) rfl rfl aA rfl M0 (bL e (k+m)::I0) aF aC ⟨rfl,e,rfl,he,rfl⟩
abbrev zR:Value:= .agg #[.bool false, .slice none 0 0, .bool false, .slice none 0 0]
theorem aFR {a b:RE} {k m:Nat} (hk:k+m≤500000000000) (hb0:b.q≠0) (ha:Hv I0 (bL a k)) (hb:Hv I0 (bL b m)):
  CD Tryz.prog 96 [rv a,rv b] X w0 M0 I0 (RQc (a.q / b.q) (k+m) M0 I0):=by
 refine aM Tryz.func96 rfl Tryz.ntmps96 rfl ?_
 refine gG ?_
 refine gN rfl (fun b1=>?_)
 refine gN rfl (fun b2=>?_)
 refine cK (fun b3=>?_)
 repeat refine aQ ?_
 (repeat refine aG ?_);refine aW 2 [0,2,1,3,4,5] [1,2,0,0,0,0] mixed (by kernel_rfl) ?_
 repeat refine aQ ?_
 refine fK rfl (nK (k:=k) (by omega) ha) (fun x hx=>?_)
 repeat refine aQ ?_
 refine fK rfl (nK (k:=m) (by omega) hb.cons) (fun y hy=>?_)
 refine iD (e:=x) (k:=k) (Hv.mem (List.Mem.tail _ (List.Mem.head _))) ?_
 refine iD (e:=y) (k:=m) (Hv.mem (List.Mem.tail _ (List.Mem.tail _ (List.Mem.head _)))) ?_
 rw [←hx,←hy]
 rw [←hy] at hb0
 have hs0:¬y.q.num.sign=0:=fun h=>hb0 (Rat.num_eq_zero.1 (Int.sign_eq_zero_iff_zero.1 h))
 have hS:=fun M0 I0=>qG (X:=X) (w0:=w0) (M0:=M0) (I0:=I0) (u:=vI y.p1 y.c1 y.q.num) (z:=y.q.num) (k:=m) (by omega)
 have hM1:=fun u v M0 I0=>uA (X:=X) (w0:=w0) (M0:=M0) (I0:=I0) (u:=u) (v:=v) (y:=x.q.num) (z:=y.q.den) (k:=k) (m:=m) (by omega)
 have hM3:=fun u v M0 I0=>uA (X:=X) (w0:=w0) (M0:=M0) (I0:=I0) (u:=u) (v:=v) (y:=x.q.den) (z:=y.q.num) (k:=k) (m:=m) (by omega)
 have hR:=fun u v M0 I0=>vV (X:=X) (w0:=w0) (M0:=M0) (I0:=I0) (u:=u) (v:=v) (n:=x.q.num*y.q.den) (d:=x.q.den*y.q.num) (k:=k+m) (by omega) (aEI hb0)
 rw [←aEG] at hR
 generalize y.q.num.sign=sy at*
 repeat refine aQ ?_
 refine dH rfl (hS _ _ aA) ?_
 repeat refine aQ ?_
 (repeat refine aG ?_);refine pW (.blk b2 (eR y) 77:: .blk b1 (eR x) 77::M0) (I0) [0,1,2,3,5,6,7,8,4,9,10,11,12] [3,2,3,2,3,2,3,2,0,0,0,0,0] mixed ?_
 repeat refine aQ ?_
 (refine bD rfl (hM1 _ _ _ _ aA aA) ?_;rintro _ _ _ ⟨rfl,rfl⟩;refine aN ?_)
 (refine bD rfl (hM3 _ _ _ _ aA aA) ?_;rintro _ _ _ ⟨rfl,rfl⟩;refine aN ?_)
 refine fK rfl (hR _ _ _ _ aA aA) (fun e he=>?_)
 repeat refine aQ ?_
 refine dW (rs:=[.cell 4 77, .tmp 5]) (vs:=[rv e, .int .i64 0]) (.inl rfl) rfl (.cellN (cs:=eR e) inferInstance rfl aA rfl (.tmp rfl .nil)) rfl M0 (bL e (k+m)::I0) aF aC ⟨rfl,e,rfl,he,rfl⟩
def aDA (p q:Rat):Int:=gD (p.num*q.den) (q.num*p.den)
theorem bBD {p q:Rat}:0 < aDA p q↔q < p:=by
 unfold aDA gD;rw [bFP];split <;>(try split) <;>omega
theorem bDF {p q:Rat}:aDA p q=0↔p=q:=by
 unfold aDA gD;rw [bEV];split <;>(try split) <;>omega
theorem aQJ {p q:Rat}:aDA p q≤0↔p≤q:=by rw [←Rat.not_lt,←bBD];omega
theorem aMM {a b:RE} {k m:Nat} (hk:k+m≤400000000000) (ha:Hv I0 (bL a k)) (hb:Hv I0 (bL b m)):
  CD Tryz.prog 92 [rv a,rv b] X w0 M0 I0 (fun v M I=>M0=M∧I0=I∧v= .int .i64 (aDA a.q b.q)):=by
 refine aM Tryz.func92 rfl Tryz.ntmps92 rfl ?_
 refine gG ?_
 refine gN rfl (fun b1=>?_)
 refine gN rfl (fun b2=>?_)
 repeat refine aQ ?_
 (repeat refine aG ?_);refine aW 2 [0,2,1,3,4,5] [1,2,0,0,0,0] mixed (by kernel_rfl) ?_
 repeat refine aQ ?_
 refine fK rfl (nK (k:=k) (by omega) ha) (fun x hx=>?_)
 repeat refine aQ ?_
 refine fK rfl (nK (k:=m) (by omega) hb.cons) (fun y hy=>?_)
 refine iD (e:=x) (k:=k) (Hv.mem (List.Mem.tail _ (List.Mem.head _))) ?_
 refine iD (e:=y) (k:=m) (Hv.mem (List.Mem.tail _ (List.Mem.tail _ (List.Mem.head _)))) ?_
 rw [←hx,←hy]
 have hM1:=fun u v M0 I0=>uA (X:=X) (w0:=w0) (M0:=M0) (I0:=I0) (u:=u) (v:=v) (y:=x.q.num) (z:=y.q.den) (k:=k) (m:=m) (by omega)
 have hM2:=fun u v M0 I0=>uA (X:=X) (w0:=w0) (M0:=M0) (I0:=I0) (u:=u) (v:=v) (y:=y.q.num) (z:=x.q.den) (k:=m) (m:=k) (by omega)
 have hC:=fun u v M0 I0=>zF (X:=X) (w0:=w0) (M0:=M0) (I0:=I0) (u:=u) (v:=v) (y:=x.q.num*y.q.den) (z:=y.q.num*x.q.den) (k:=k+m) (m:=m+k) (by omega) (by omega)
 repeat refine aQ ?_
 (repeat refine aG ?_);refine pW (.blk b2 (eR y) 77:: .blk b1 (eR x) 77::M0) (I0) [0,1,2,3,5,6,7,8,4,9,10,11] [3,2,3,2,3,2,3,2,0,0,0,0] mixed ?_
 repeat refine aQ ?_
 (refine bD rfl (hM1 _ _ _ _ aA aA) ?_;rintro _ _ _ ⟨rfl,rfl⟩;refine aN ?_)
 (refine bD rfl (hM2 _ _ _ _ aA aA) ?_;rintro _ _ _ ⟨rfl,rfl⟩;refine aN ?_)
 refine dH rfl (hC _ _ _ _ aA aA) ?_
 repeat refine aQ ?_
 refine iR rfl rfl (⟨rfl,rfl,rfl⟩)
end
section
variable {P:Program} {n:Nat} {G:Env}
theorem aGH {C:World→Prop} {ty t e:TypeId} {sz:Nat} {x y:Operand} {k:IntKind} {i:Int} {q:Option Addr} [ht:SliceTy P t e sz] (hx:ev G x=some (.slice q 0 0)) (hy:ev G y=some (.int k i)) (hi:i=0):
  Const P n G (.slice t x none (some y) none) ty C (.slice q 0 0):=by
 subst hi
 refine ⟨?_⟩
 intro st ha dst pos after guard w _
 cases q with
 |none=>simp [execOp,Instr.sliceAt,Instr.slice,ha.ev hx,eU ht.und,Fx.run_sizeOf ht.size,Instr.sliceBounds,Instr.sliceBound,asIntOf,ha.ev hy]
 |some ad=>simp [execOp,Instr.sliceAt,Instr.slice,ha.ev hx,eU ht.und,Fx.run_sizeOf ht.size,Instr.sliceBounds,Instr.sliceBound,asIntOf,ha.ev hy,Addr.add]
end
section
variable {X:List Nat} {w0:World} {M0:List Ent} {I0:List aL}
theorem qO {q:Option Addr} {l:List Int} {n c:Nat} {i:Int} (hn:n=l.length) (hi:0≤i) (hl:aI q (recs eG l)∈I0) (hd:Dig l):
  CD Tryz.prog 278 [.slice q n c, .int .i64 i] X w0 M0 I0 (fun v M I=>M0=M∧I0=I∧v= .int .u64 (gt l i)):=by
 subst hn
 have d:=hd.gt i
 refine dY Tryz.func278 rfl Tryz.ntmps278 rfl ?_
 repeat' (first|refine lT ?_|refine aJ rfl (fun h=>?_) (fun h=>?_)|refine aK rfl rfl (fun h=>?_) (fun h=>?_)|fail)
 ·refine aU (by first|exact .inl rfl|exact .inr rfl) rfl rfl _ _ bY bW (⟨rfl,rfl,rfl⟩)
 ·refine aU (by first|exact .inl rfl|exact .inr rfl) rfl rfl _ _ bY bW (⟨rfl,rfl,by rw [aRM (by omega)]⟩)
theorem aHW {p:Prop} [Decidable p] {q:Option Addr} {l:List Int} {n c:Nat} (h63:l.length≤1000000000000) (hc:l.length≤c) (hok:Ok q∨(l.length=0∧c=0)) (hd:Dig l) (hv:val l=n) (hl:aI q (recs eG l)∈I0):
  CD Tryz.prog 228 [.bool (B p), .slice q l.length c] X w0 M0 I0 (fun v M I=>M0=M∧∃q' c',v= .agg #[.bool (B (p∧n≠0)), .slice q' (gr n).length c']∧sO q' n c'∧I=aI q' (recs eG (gr n))::I0):=by
 have hg:gF l=gr n:=oG hd hv
 refine dY Tryz.func228 rfl Tryz.ntmps228 rfl ?_
 refine gG ?_
 refine cK (fun b=>?_)
 repeat refine lT ?_
 refine bX [0,1,4] rfl (fun k G M I=>∃m:Nat,m≤l.length∧k=m∧gF (l.take m)=gF l∧∃x:Int,x=m∧G=[(5, .int .i64 x)]∧M= .blk b [.bool false, .slice none 0 0] 42::M0∧I0=I) (l.length) _ _ _ dB bY bW (⟨l.length,by omega,rfl,by rw [List.take_length],_,rfl,rfl,rfl,rfl⟩) ?_
 rintro k G M I ⟨m,hm,rfl,ht,x,hx,rfl,rfl,rfl⟩
 have hend:gF l=l.take k→(n≠0↔0 < k)∧(gr n).length=k:=fun e=>by
  have hl1:(gr n).length=k:=by rw [←hg,e,List.length_take];omega
  refine ⟨⟨fun h=>?_,fun h h0=>?_⟩,hl1⟩
  ·rw [←hl1];exact List.length_pos_iff.2 (fun e=>h (oZ.1 e))
  ·rw [h0,gQ] at hl1;simp at hl1;omega
 have hstep:∀j:Nat,j < l.length→l.take (j+1)=l.take j++[gt l (j:Int)]:=fun j hj=>by rw [List.take_succ_eq_append_getElem hj,fH hj]
 repeat' (first|refine lT ?_|refine aJ rfl (fun h=>?_) (fun h=>?_)|refine aK rfl rfl (fun h=>?_) (fun h=>?_)|fail)
 ·have h1:=h
  refine cO (k - 1) _ _ _ (by first|omega|(simp only [List.length_append,List.length_cons,List.length_nil];omega)) dB bY bW (⟨k - 1,by omega,rfl,?_,_,by omega,rfl,rfl,rfl⟩)
  rw [←ht]
  obtain ⟨j,rfl⟩:∃j,k=j+1:=⟨k - 1,by omega⟩
  have e:((j+1:Nat):Int) - 1=j:=by omega
  rw [hx,e] at h1
  rw [hstep j (by omega),h1,yU]
  rfl
 all_goals
  have htk:gF l=l.take k:=by
   rw [←ht]
   refine aFE ?_
   rcases Nat.eq_zero_or_pos k with h0|h0
   ·subst h0;simp [Top]
   ·obtain ⟨j,rfl⟩:∃j,k=j+1:=⟨k - 1,by omega⟩
    have e:((j+1:Nat):Int) - 1=j:=by omega
    rw [hstep j (by omega),Top.snoc]
    first
     |(rw [←e,←hx];assumption)
     |(exfalso;omega)
  obtain ⟨hnz,hlk⟩:=hend htk
  have hgk:gr n=l.take k:=by rw [←hg,htk]
 all_goals
  have hsl:aI q (recs eG (gr n))∈aI q (recs eG (gr n))::I0:=List.Mem.head _
  refine vQ (M':= .blk b [.bool false, .slice none 0 0] 42::M0) (I':=aI q (recs eG (gr n))::I0) (fun w hw=>hw.takeI (cs:=recs eG (gr n)) (tl:=recs eG (l.drop k)) (by rw [hgk,←lZ,List.take_append_drop];exact hl)) ?_
  subst hx
  refine gK (cs:=recs eG []) ([]) rfl (fun b1=>?_)
  repeat refine lT ?_
  have hbool:∀y:Bool,(y=true↔(p∧n≠0))→Value.bool y= .bool (B (p∧n≠0)):=fun y hy=>by
   refine congrArg Value.bool ?_
   by_cases hp:p∧n≠0
   ·rw [bK hp];exact hy.2 hp
   ·rw [bH hp];cases y with
    |false=>rfl
    |true=>exact absurd (hy.1 rfl) hp
  rcases hok with hok|⟨hl0,hc0⟩
  ·obtain ⟨b9,o9,rfl⟩:=hok.cases
   refine aD rfl (fun _=>rH k rfl rfl rfl (by omega)) rfl rfl ?_
   refine fM (b:=b1) (mm:=0) 1 tO rfl (by omega) ?_
   refine iB (xs:=[]) (ys:=gr n) 0 rfl rfl rfl (Src.imm (List.Mem.head _) (.inl (Ok.mk _ _))) (by decide) hlk (by simp <;>omega) (by simp <;>omega) rfl rfl ?_
   intro a2 c2
   refine ⟨okJ,?_⟩
   rw [List.nil_append]
   refine nQ (fun w hw=>And.intro (hw.rowLe (List.Mem.head _)) ((hw.rowS (List.Mem.head _)).2.imp id And.right)) (fun ho3=>?_)
   refine fD yZ ?_
   refine aD rfl (fun _=>bC (pvs:=[(0,_),(1,_)]) (cells:=[_, .slice a2 (gr n).length c2]) rfl rfl) rfl rfl ?_
   repeat refine lT ?_
   refine aO (cs:=[_, .slice a2 (gr n).length c2]) (.inl rfl) rfl rfl bA rfl M0 (aI a2 (recs eG (gr n))::I0) bY bW ⟨rfl,a2,c2,?_,ho3,rfl⟩
   first
    |exact congrArg (fun x=>Value.agg #[x, .slice a2 (gr n).length c2]) (hbool (B ((0:Int) < ((k:Nat):Int))) (by rw [tZ,decide_eq_true_iff];exact ⟨fun h=>⟨by assumption,hnz.2 (by omega)⟩,fun h=>by have:=hnz.1 h.2;omega⟩))
    |exact congrArg (fun x=>Value.agg #[x, .slice a2 (gr n).length c2]) (hbool false ⟨fun h=>(by cases h),fun h=>absurd h.1 (by assumption)⟩)
  ·subst hc0
   obtain rfl:k=0:=by omega
   have hn0:gr n=[]:=by rw [hgk];rfl
   obtain rfl:l=[]:=List.eq_nil_of_length_eq_zero hl0
   refine aD rfl (fun _=>aGH rfl rfl rfl) rfl rfl ?_
   refine fM (b:=b1) (mm:=0) 1 tO rfl (by omega) ?_
   refine iB (xs:=[]) (ys:=gr n) 0 rfl rfl rfl (Src.imm (List.Mem.head _) (.inr ⟨rfl,rfl⟩)) (by decide) hlk (by simp <;>omega) (by simp <;>omega) rfl rfl ?_
   intro a2 c2
   refine ⟨okJ,?_⟩
   rw [List.nil_append]
   refine nQ (fun w hw=>And.intro (hw.rowLe (List.Mem.head _)) ((hw.rowS (List.Mem.head _)).2.imp id And.right)) (fun ho3=>?_)
   refine fD yZ ?_
   refine aD rfl (fun _=>bC (pvs:=[(0,_),(1,_)]) (cells:=[_, .slice a2 (gr n).length c2]) rfl rfl) rfl rfl ?_
   repeat refine lT ?_
   refine aO (cs:=[_, .slice a2 (gr n).length c2]) (.inl rfl) rfl rfl bA rfl M0 (aI a2 (recs eG (gr n))::I0) bY bW ⟨rfl,a2,c2,?_,ho3,rfl⟩
   first
    |exact congrArg (fun x=>Value.agg #[x, .slice a2 (gr n).length c2]) (hbool (B ((0:Int) < ((0:Nat):Int))) (by rw [tZ,decide_eq_true_iff];exact ⟨fun h=>⟨by assumption,hnz.2 (by omega)⟩,fun h=>by have:=hnz.1 h.2;omega⟩))
    |exact congrArg (fun x=>Value.agg #[x, .slice a2 (gr n).length c2]) (hbool false ⟨fun h=>(by cases h),fun h=>absurd h.1 (by assumption)⟩)
end
theorem xK (l:List Int) (x:Int):val (l++[x])=val l+1000000000 ^ l.length*x:=by rw [val_append];simp [val]
theorem qX (l:List Int) (i:Nat):val (l.take (i+1))=val (l.take i)+1000000000 ^ i*gt l (i:Int):=by rw [bV,yF]
section
variable {X:List Nat} {w0:World} {M0:List Ent} {I0:List aL}
theorem nU {q:Option Addr} {l:List Int} {n c:Nat} (h63:l.length≤1000000000000) (hc:l.length≤c) (hok:Ok q∨(l.length=0∧c=0)) (hd:Dig l) (hv:val l=n) (hl:aI q (recs eG l)∈I0):
  CD Tryz.prog 228 [.bool false, .slice q l.length c] X w0 M0 I0 (fun v M I=>M0=M∧∃q' c',v= .agg #[.bool (B (False∧n≠0)), .slice q' (gr n).length c']∧sO q' n c'∧I=aI q' (recs eG (gr n))::I0):=by
 have:=aHW (X:=X) (w0:=w0) (M0:=M0) (I0:=I0) (p:=False) h63 hc hok hd hv hl
 rwa [bH (show ¬False from id)] at this
theorem aEW {s:Int} (h:0≤s):s.tmod 1000000000=s % 1000000000:=Int.tmod_eq_emod_of_nonneg h
theorem aFS {s:Int} (h:0≤s):s.tdiv 1000000000=s / 1000000000:=Int.tdiv_eq_ediv_of_nonneg h
theorem aXY {p q:Option Addr} {m n cp cq:Nat} (hm:(gr m).length≤100000000000) (hn:(gr n).length≤100000000000) (hp:aI p (recs eG (gr m))∈I0) (hq:aI q (recs eG (gr n))∈I0):
  CD Tryz.prog 260 [.slice p (gr m).length cp, .slice q (gr n).length cq] X w0 M0 I0 (GrP (m+n) M0 I0):=by
 have da:=bT m
 have db:=bT n
 have va:=cZ m
 have vb:=cZ n
 generalize ha:gr m=a at*
 generalize hb:gr n=b at*
 obtain ⟨N,hN⟩:∃N:Nat,N=max a.length b.length:=⟨_,rfl⟩
 refine aM Tryz.func260 rfl Tryz.ntmps260 rfl ?_
 repeat' (first|refine aQ ?_|refine aJ rfl (fun h=>?_) (fun h=>?_)|refine aK rfl rfl (fun h=>?_) (fun h=>?_)|fail)
 refine gK (cs:=recs eG []) ([]) rfl (fun b1=>?_)
 repeat' (first|refine aQ ?_|refine aJ rfl (fun h=>?_) (fun h=>?_)|refine aK rfl rfl (fun h=>?_) (fun h=>?_)|fail)
 refine uG (b:=b1) (mm:=0) 1 jJ rfl (by omega) ?_
 refine bX [0,1] rfl (fun k G M I=>∃(i:Nat) (o:List Int) (cr:Int) (q1:Option Addr) (c1:Nat),i≤N∧k=N - i∧o.length=i∧Dig o∧(0≤cr∧cr≤1)∧val o+1000000000 ^ i*cr=val (a.take i)+val (b.take i)∧G=[(5, .slice q1 o.length c1),(6, .int .u64 cr),(7, .int .i64 i)]∧M= .row q1 o.length c1 (recs eG o) 121 1::M0∧I0=I) (N) _ _ _ dB aF aC (⟨0,[],0,_,_,by omega,rfl,rfl,Dig.nil,by omega,by simp [val],rfl,rfl,rfl⟩) ?_
 rintro k G M I ⟨i,o,cr,q1,c1,hi,rfl,ho,hd,hcr,hv,rfl,rfl,rfl⟩
 by_cases hiN:i < N
 ·have d1:=da.gt i
  have d2:=db.gt i
  have e1:=aEW (s:=gt a i+gt b i+cr) (by omega)
  have e2:=aFS (s:=gt a i+gt b i+cr) (by omega)
  obtain ⟨s,hs⟩:∃s,s=(gt a i+gt b i+cr) % 1000000000:=⟨_,rfl⟩
  obtain ⟨t,ht⟩:∃t,t=(gt a i+gt b i+cr) / 1000000000:=⟨_,rfl⟩
  have hst:0≤s∧s < 1000000000∧0≤t∧t≤1∧s+1000000000*t=gt a i+gt b i+cr:=by omega
  rw [←hs] at e1
  rw [←ht] at e2
  have hG:=fun M0 I0=>qO (X:=X) (w0:=w0) (M0:=M0) (I0:=I0) (q:=p) (l:=a) (n:=a.length) (c:=cp) (i:=i) rfl (by omega)
  have hG2:=fun M0 I0=>qO (X:=X) (w0:=w0) (M0:=M0) (I0:=I0) (q:=q) (l:=b) (n:=b.length) (c:=cq) (i:=i) rfl (by omega)
  repeat' (first|refine aQ ?_|refine aJ rfl (fun h=>?_) (fun h=>?_)|refine aK rfl rfl (fun h=>?_) (fun h=>?_)|fail)
  all_goals
   refine dH rfl (hG _ _ aA da) ?_
   repeat' (first|refine aQ ?_|refine aJ rfl (fun h=>?_) (fun h=>?_)|refine aK rfl rfl (fun h=>?_) (fun h=>?_)|fail)
   refine dH rfl (hG2 _ _ aA db) ?_
   repeat' (first|refine aQ ?_|refine aJ rfl (fun h=>?_) (fun h=>?_)|refine aK rfl rfl (fun h=>?_) (fun h=>?_)|fail)
   rw [e1]
   repeat' (first|refine aQ ?_|refine aJ rfl (fun h=>?_) (fun h=>?_)|refine aK rfl rfl (fun h=>?_) (fun h=>?_)|fail)
   refine gK (cs:=recs eG [s]) ([.int .u32 s]) rfl (fun b2=>?_)
   refine wM (ys:=[s]) 1 rfl rfl rfl (fun a2 c2=>?_)
   repeat' (first|refine aQ ?_|refine aJ rfl (fun h=>?_) (fun h=>?_)|refine aK rfl rfl (fun h=>?_) (fun h=>?_)|fail)
   rw [e2]
   refine gL (N - (i+1)) (⟨i+1,o++[s],t,a2,c2,by omega,rfl,by simp;omega,hd.snoc (by omega),by omega,?_,rfl,rfl,rfl⟩)
   rw [xK,qX,qX,ho,Int.pow_succ,Int.mul_assoc]
   have h3:=congrArg (fun x=>1000000000 ^ i*x) hst.2.2.2.2
   simp only [Int.mul_add] at h3 hv ⊢
   omega
 ·obtain rfl:i=N:=by omega
  rw [List.take_of_length_le (show a.length≤i by omega),List.take_of_length_le (show b.length≤i by omega),va,vb] at hv
  have hv2:val (o++[cr])=((m+n:Nat):Int):=by rw [xK,ho,hv];omega
  have hd2:Dig (o++[cr]):=hd.snoc (by omega)
  repeat' (first|refine aQ ?_|refine aJ rfl (fun h=>?_) (fun h=>?_)|refine aK rfl rfl (fun h=>?_) (fun h=>?_)|fail)
  refine gK (cs:=recs eG [cr]) ([.int .u32 cr]) rfl (fun b2=>?_)
  refine wM (ys:=[cr]) 1 rfl rfl rfl (fun a2 c2=>?_)
  refine nQ (fun w hw=>And.intro (hw.rowLe (List.Mem.tail _ (List.Mem.head _))) ((hw.rowS (List.Mem.tail _ (List.Mem.head _))).2.imp id And.right)) (fun ho3=>?_)
  refine fD yE ?_
  (refine bR rfl (nU (by simp;omega) ho3.1 ho3.2 hd2 hv2 aA) rfl rfl ?_;rintro _ _ _ ⟨rfl,q',c',rfl,hc',rfl⟩;refine aN ?_)
  repeat' (first|refine aQ ?_|refine aJ rfl (fun h=>?_) (fun h=>?_)|refine aK rfl rfl (fun h=>?_) (fun h=>?_)|fail)
  refine iR rfl rfl (⟨rfl,q',c',rfl,hc',rfl⟩)
theorem xW {p q:Option Addr} {m n cp cq:Nat} (hm:(gr m).length≤100000000000) (hle:n≤m) (hp:aI p (recs eG (gr m))∈I0) (hq:aI q (recs eG (gr n))∈I0):
  CD Tryz.prog 262 [.slice p (gr m).length cp, .slice q (gr n).length cq] X w0 M0 I0 (GrP (m - n) M0 I0):=by
 have da:=bT m
 have db:=bT n
 have va:=cZ m
 have vb:=cZ n
 have hl:(gr n).length≤(gr m).length:=gY hle
 generalize ha:gr m=a at*
 generalize hb:gr n=b at*
 obtain ⟨N,hN⟩:∃N:Nat,N=a.length:=⟨_,rfl⟩
 refine aM Tryz.func262 rfl Tryz.ntmps262 rfl ?_
 repeat' (first|refine aQ ?_|refine aJ rfl (fun h=>?_) (fun h=>?_)|refine aK rfl rfl (fun h=>?_) (fun h=>?_)|fail)
 refine gK (cs:=recs eG []) ([]) rfl (fun b1=>?_)
 repeat' (first|refine aQ ?_|refine aJ rfl (fun h=>?_) (fun h=>?_)|refine aK rfl rfl (fun h=>?_) (fun h=>?_)|fail)
 refine uG (b:=b1) (mm:=0) 1 jJ rfl (by omega) ?_
 refine bX [0,1] rfl (fun k G M I=>∃(i:Nat) (o:List Int) (cr:Int) (q1:Option Addr) (c1:Nat),i≤N∧k=N - i∧o.length=i∧Dig o∧(0≤cr∧cr≤1)∧val o - 1000000000 ^ i*cr=val (a.take i) - val (b.take i)∧G=[(5, .slice q1 o.length c1),(6, .int .u64 cr),(7, .int .i64 i)]∧M= .row q1 o.length c1 (recs eG o) 121 1::M0∧I0=I) (N) _ _ _ dB aF aC (⟨0,[],0,_,_,by omega,rfl,rfl,Dig.nil,by omega,by simp [val],rfl,rfl,rfl⟩) ?_
 rintro k G M I ⟨i,o,cr,q1,c1,hi,rfl,ho,hd,hcr,hv,rfl,rfl,rfl⟩
 by_cases hiN:i < N
 ·have d1:=da.gt i
  have d2:=db.gt i
  have e1:=aEW (s:=1000000000+gt a i - gt b i - cr) (by omega)
  have e2:=aFS (s:=1000000000+gt a i - gt b i - cr) (by omega)
  obtain ⟨s,hs⟩:∃s,s=(1000000000+gt a i - gt b i - cr) % 1000000000:=⟨_,rfl⟩
  obtain ⟨t,ht⟩:∃t,t=(1000000000+gt a i - gt b i - cr) / 1000000000:=⟨_,rfl⟩
  have hst:0≤s∧s < 1000000000∧0≤t∧t≤1∧s - 1000000000*(1 - t)=gt a i - gt b i - cr:=by omega
  rw [←hs] at e1
  rw [←ht] at e2
  have hG:=fun M0 I0=>qO (X:=X) (w0:=w0) (M0:=M0) (I0:=I0) (q:=p) (l:=a) (n:=a.length) (c:=cp) (i:=i) rfl (by omega)
  have hG2:=fun M0 I0=>qO (X:=X) (w0:=w0) (M0:=M0) (I0:=I0) (q:=q) (l:=b) (n:=b.length) (c:=cq) (i:=i) rfl (by omega)
  repeat' (first|refine aQ ?_|refine aJ rfl (fun h=>?_) (fun h=>?_)|refine aK rfl rfl (fun h=>?_) (fun h=>?_)|fail)
  refine dH rfl (hG _ _ aA da) ?_
  repeat' (first|refine aQ ?_|refine aJ rfl (fun h=>?_) (fun h=>?_)|refine aK rfl rfl (fun h=>?_) (fun h=>?_)|fail)
  refine dH rfl (hG2 _ _ aA db) ?_
  repeat' (first|refine aQ ?_|refine aJ rfl (fun h=>?_) (fun h=>?_)|refine aK rfl rfl (fun h=>?_) (fun h=>?_)|fail)
  rw [e1]
  repeat' (first|refine aQ ?_|refine aJ rfl (fun h=>?_) (fun h=>?_)|refine aK rfl rfl (fun h=>?_) (fun h=>?_)|fail)
  refine gK (cs:=recs eG [s]) ([.int .u32 s]) rfl (fun b2=>?_)
  refine wM (ys:=[s]) 1 rfl rfl rfl (fun a2 c2=>?_)
  repeat' (first|refine aQ ?_|refine aJ rfl (fun h=>?_) (fun h=>?_)|refine aK rfl rfl (fun h=>?_) (fun h=>?_)|fail)
  rw [e2]
  repeat' (first|refine aQ ?_|refine aJ rfl (fun h=>?_) (fun h=>?_)|refine aK rfl rfl (fun h=>?_) (fun h=>?_)|fail)
  refine gL (N - (i+1)) (⟨i+1,o++[s],1 - t,a2,c2,by omega,rfl,by simp;omega,hd.snoc (by omega),by omega,?_,rfl,rfl,rfl⟩)
  rw [xK,qX,qX,ho,Int.pow_succ,Int.mul_assoc]
  have h3:=congrArg (fun x=>1000000000 ^ i*x) hst.2.2.2.2
  simp only [Int.mul_sub] at h3 hv ⊢
  omega
 ·obtain rfl:i=N:=by omega
  rw [List.take_of_length_le (show a.length≤i by omega),List.take_of_length_le (show b.length≤i by omega),va,vb] at hv
  have hcr0:cr=0:=by
   have h1:=jW hd
   rw [ho] at h1
   by_cases c:cr=0
   ·exact c
   ·have:cr=1:=by omega
    subst this
    omega
  subst hcr0
  have hv2:val o=((m - n:Nat):Int):=by omega
  refine aDK (fun w hw=>And.intro (hw.rowLe (List.Mem.head _)) ((hw.rowS (List.Mem.head _)).2.imp id And.right)) (fun ho3=>?_)
  repeat' (first|refine aQ ?_|refine aJ rfl (fun h=>?_) (fun h=>?_)|refine aK rfl rfl (fun h=>?_) (fun h=>?_)|fail)
  refine fD yE ?_
  (refine bD rfl (nU (by omega) ho3.1 ho3.2 hd hv2 aA) ?_;rintro _ _ _ ⟨rfl,q',c',rfl,hc',rfl⟩;refine aN ?_)
  repeat' (first|refine aQ ?_|refine aJ rfl (fun h=>?_) (fun h=>?_)|refine aK rfl rfl (fun h=>?_) (fun h=>?_)|fail)
  refine iR rfl rfl (⟨rfl,q',c',rfl,hc',rfl⟩)
theorem yP {p:Option Addr} {m d cp:Nat} (hm:(gr m).length≤100000000000) (hdd:d < 1000000000) (hp:aI p (recs eG (gr m))∈I0):
  CD Tryz.prog 276 [.slice p (gr m).length cp, .int .u64 (d:Int)] X w0 M0 I0 (GrP (m*d) M0 I0):=by
 have da:=bT m
 have va:=cZ m
 generalize ha:gr m=a at*
 obtain ⟨N,hN⟩:∃N:Nat,N=a.length:=⟨_,rfl⟩
 refine aM Tryz.func276 rfl Tryz.ntmps276 rfl ?_
 repeat' (first|refine aQ ?_|refine aJ rfl (fun h=>?_) (fun h=>?_)|refine aK rfl rfl (fun h=>?_) (fun h=>?_)|fail)
 refine gK (cs:=recs eG []) ([]) rfl (fun b1=>?_)
 repeat' (first|refine aQ ?_|refine aJ rfl (fun h=>?_) (fun h=>?_)|refine aK rfl rfl (fun h=>?_) (fun h=>?_)|fail)
 refine uG (b:=b1) (mm:=0) 1 jJ rfl (by omega) ?_
 refine bX [0,1] rfl (fun k G M I=>∃(i:Nat) (o:List Int) (cr:Int) (q1:Option Addr) (c1:Nat),i≤N∧k=N - i∧o.length=i∧Dig o∧(0≤cr∧cr < 1000000000)∧val o+1000000000 ^ i*cr=val (a.take i)*d∧G=[(5, .slice q1 o.length c1),(6, .int .u64 cr),(7, .int .i64 i)]∧M= .row q1 o.length c1 (recs eG o) 121 1::M0∧I0=I) (N) _ _ _ dB aF aC (⟨0,[],0,_,_,by omega,rfl,rfl,Dig.nil,by omega,by simp [val],rfl,rfl,rfl⟩) ?_
 rintro k G M I ⟨i,o,cr,q1,c1,hi,rfl,ho,hd,hcr,hv,rfl,rfl,rfl⟩
 by_cases hiN:i < N
 ·have d1:=da.gt i
  have d4:=vB d1 (q:=(d:Int)) ⟨by omega,by omega⟩ (o:=0) (by omega) hcr
  obtain ⟨d5,d6,d7⟩:=d4
  rw [Int.zero_add] at d6 d7
  have d8:0≤gt a i*(d:Int)∧gt a i*(d:Int)≤18446744073709551615:=by omega
  have e1:=aEW d6.1
  have e2:=aFS d6.1
  obtain ⟨s,hs⟩:∃s,s=(gt a i*(d:Int)+cr) % 1000000000:=⟨_,rfl⟩
  obtain ⟨t,ht⟩:∃t,t=(gt a i*(d:Int)+cr) / 1000000000:=⟨_,rfl⟩
  have hst:0≤s∧s < 1000000000∧s+1000000000*t=gt a i*(d:Int)+cr:=by omega
  rw [←hs] at e1
  rw [←ht] at e2 d7
  repeat' (first|refine aQ ?_|refine aJ rfl (fun h=>?_) (fun h=>?_)|refine aK rfl rfl (fun h=>?_) (fun h=>?_)|fail)
  rw [e1]
  repeat' (first|refine aQ ?_|refine aJ rfl (fun h=>?_) (fun h=>?_)|refine aK rfl rfl (fun h=>?_) (fun h=>?_)|fail)
  refine gK (cs:=recs eG [s]) ([.int .u32 s]) rfl (fun b2=>?_)
  refine wM (ys:=[s]) 1 rfl rfl rfl (fun a2 c2=>?_)
  repeat' (first|refine aQ ?_|refine aJ rfl (fun h=>?_) (fun h=>?_)|refine aK rfl rfl (fun h=>?_) (fun h=>?_)|fail)
  rw [e2]
  refine gL (N - (i+1)) (⟨i+1,o++[s],t,a2,c2,by omega,rfl,by simp;omega,hd.snoc (by omega),d7,?_,rfl,rfl,rfl⟩)
  rw [xK,qX,ho,Int.pow_succ,Int.mul_assoc,Int.add_mul,Int.mul_assoc]
  have h3:=congrArg (fun x=>1000000000 ^ i*x) hst.2.2
  simp only [Int.mul_add] at h3 hv ⊢
  omega
 ·obtain rfl:i=N:=by omega
  rw [List.take_of_length_le (show a.length≤i by omega),va] at hv
  have hv2:val (o++[cr])=((m*d:Nat):Int):=by rw [xK,ho,hv];simp
  have hd2:Dig (o++[cr]):=hd.snoc (by omega)
  repeat' (first|refine aQ ?_|refine aJ rfl (fun h=>?_) (fun h=>?_)|refine aK rfl rfl (fun h=>?_) (fun h=>?_)|fail)
  refine gK (cs:=recs eG [cr]) ([.int .u32 cr]) rfl (fun b2=>?_)
  refine wM (ys:=[cr]) 1 rfl rfl rfl (fun a2 c2=>?_)
  refine nQ (fun w hw=>And.intro (hw.rowLe (List.Mem.tail _ (List.Mem.head _))) ((hw.rowS (List.Mem.tail _ (List.Mem.head _))).2.imp id And.right)) (fun ho3=>?_)
  refine fD yE ?_
  (refine bR rfl (nU (by simp;omega) ho3.1 ho3.2 hd2 hv2 aA) rfl rfl ?_;rintro _ _ _ ⟨rfl,q',c',rfl,hc',rfl⟩;refine aN ?_)
  repeat' (first|refine aQ ?_|refine aJ rfl (fun h=>?_) (fun h=>?_)|refine aK rfl rfl (fun h=>?_) (fun h=>?_)|fail)
  refine iR rfl rfl (⟨rfl,q',c',rfl,hc',rfl⟩)
theorem aLL {p:Option Addr} {m d cp:Nat} (hm:(gr m).length≤100000000000) (hdd:d < 1000000000) (hc:sO p m cp) (hp:aI p (recs eG (gr m))∈I0):
  CD Tryz.prog 277 [.slice p (gr m).length cp, .int .u32 (d:Int)] X w0 M0 I0 (GrP (m*1000000000+d) M0 I0):=by
 have da:=bT m
 have va:=cZ m
 obtain ⟨hc1,hc2⟩:=hc
 generalize ha:gr m=a at*
 have hd2:Dig ([(d:Int)]++a):=Dig.app.2 ⟨by rw [Dig.cons];exact ⟨by omega,Dig.nil⟩,da⟩
 have hv2:val ([(d:Int)]++a)=((m*1000000000+d:Nat):Int):=by simp only [val_append,val,List.length_cons,List.length_nil,va];omega
 refine aM Tryz.func277 rfl Tryz.ntmps277 rfl ?_
 repeat' (first|refine aQ ?_|refine aJ rfl (fun h=>?_) (fun h=>?_)|refine aK rfl rfl (fun h=>?_) (fun h=>?_)|fail)
 refine gK (cs:=recs eG [(d:Int)]) ([.int .u32 (d:Int)]) rfl (fun b1=>?_)
 repeat' (first|refine aQ ?_|refine aJ rfl (fun h=>?_) (fun h=>?_)|refine aK rfl rfl (fun h=>?_) (fun h=>?_)|fail)
 refine fM (b:=b1) (mm:=1) 1 jJ rfl (by omega) ?_
 refine iB (xs:=[(d:Int)]) (ys:=a) 0 rfl rfl rfl (Src.imm aA hc2) (by decide) rfl (by simp;omega) (by simp;omega) rfl rfl ?_
 intro a2 c2
 refine aN ?_
 refine nQ (fun w hw=>And.intro (hw.rowLe (List.Mem.head _)) ((hw.rowS (List.Mem.head _)).2.imp id And.right)) (fun ho3=>?_)
 refine fD yE ?_
 (refine bR rfl (nU (by simp;omega) ho3.1 ho3.2 hd2 hv2 aA) rfl rfl ?_;rintro _ _ _ ⟨rfl,q',c',rfl,hc',rfl⟩;refine aN ?_)
 repeat' (first|refine aQ ?_|refine aJ rfl (fun h=>?_) (fun h=>?_)|refine aK rfl rfl (fun h=>?_) (fun h=>?_)|fail)
 refine iR rfl rfl (⟨rfl,q',c',rfl,hc',rfl⟩)
theorem aAO {p q:Option Addr} {m n cp cq:Nat} (hm:(gr m).length≤100000000000) (hn:(gr n).length≤100000000000) (hp:aI p (recs eG (gr m))∈I0) (hq:aI q (recs eG (gr n))∈I0):
  CD Tryz.prog 261 [.slice p (gr m).length cp, .slice q (gr n).length cq] X w0 M0 I0 (fun v M I=>M0=M∧I0=I∧v= .int .i64 (gD m n)):=by
 have ca:=wV m
 have cb:=wV n
 have va:=cZ m
 have vb:=cZ n
 generalize ha:gr m=a at*
 generalize hb:gr n=b at*
 refine aM Tryz.func261 rfl Tryz.ntmps261 rfl ?_
 by_cases hl:a.length=b.length
 ·repeat' (first|refine aQ ?_|refine aJ rfl (fun h=>?_) (fun h=>?_)|refine aK rfl rfl (fun h=>?_) (fun h=>?_)|fail)
  refine bX [0,1] rfl (fun k G M I=>∃(i:Nat) (x:Int),i≤a.length∧k=i∧x=(i:Int) - 1∧a.drop i=b.drop i∧G=[(5, .int .i64 x)]∧M0=M∧I0=I) (a.length) _ _ _ dB aF aC (⟨a.length,_,by omega,rfl,rfl,by rw [List.drop_of_length_le (by omega),List.drop_of_length_le (by omega)],rfl,rfl,rfl⟩) ?_
  rintro k G M I ⟨i,x,hi,rfl,hx,hs,rfl,rfl,rfl⟩
  by_cases h0:k=0
  ·subst h0
   rw [List.drop_zero,List.drop_zero] at hs
   have e:(m:Int)=n:=by rw [←va,←vb,hs]
   have hc0:gD (m:Int) n=0:=by unfold gD;rw [if_neg (by omega),if_neg (by omega)]
   rw [hc0]
   repeat' (first|refine aQ ?_|refine aJ rfl (fun h=>?_) (fun h=>?_)|refine aK rfl rfl (fun h=>?_) (fun h=>?_)|fail)
   refine iR rfl rfl (⟨rfl,rfl,rfl⟩)
  ·obtain ⟨j,rfl⟩:∃j,k=j+1:=⟨k - 1,by omega⟩
   obtain rfl:x=(j:Int):=by omega
   have hlt:gt a (j:Int) < gt b (j:Int)→gD (m:Int) n= -1:=fun h=>by
    rw [yF,yF] at h
    have:=aVR ca.1 cb.1 hl (by omega) hs h
    rw [va,vb] at this
    exact if_pos this
   have hgt:gt b (j:Int) < gt a (j:Int)→gD (m:Int) n=1:=fun h=>by
    rw [yF,yF] at h
    have:=aVR cb.1 ca.1 hl.symm (by omega) hs.symm h
    rw [va,vb] at this
    unfold gD
    rw [if_neg (by omega),if_pos this]
   have heq:gt a (j:Int)=gt b (j:Int)→a.drop j=b.drop j:=fun h=>by
    rw [yF,yF] at h
    exact aVH hl (by omega) h hs
   repeat' (first|refine aQ ?_|refine aJ rfl (fun h=>?_) (fun h=>?_)|refine aK rfl rfl (fun h=>?_) (fun h=>?_)|fail)
   (repeat refine aG ?_);refine eO [0,1,2,3,4,5,6,7,8] [0,0,0,0,0,0,0,0,0] mixed (by kernel_rfl) ?_
   repeat' (first|refine aQ ?_|refine aJ rfl (fun h=>?_) (fun h=>?_)|refine aK rfl rfl (fun h=>?_) (fun h=>?_)|fail)
   ·rw [hlt (by assumption)]
    refine iR rfl rfl (⟨rfl,rfl,rfl⟩)
   (repeat refine aG ?_);refine eO [0,1,2,3,4,5,6,7,8] [0,0,0,0,0,0,0,0,0] mixed (by kernel_rfl) ?_
   repeat' (first|refine aQ ?_|refine aJ rfl (fun h=>?_) (fun h=>?_)|refine aK rfl rfl (fun h=>?_) (fun h=>?_)|fail)
   ·rw [hgt (by assumption)]
    refine iR rfl rfl (⟨rfl,rfl,rfl⟩)
   ·repeat' (first|refine aQ ?_|refine aJ rfl (fun h=>?_) (fun h=>?_)|refine aK rfl rfl (fun h=>?_) (fun h=>?_)|fail)
    refine gL (j) (⟨j,(j:Int) - 1,by omega,rfl,by omega,heq (by omega),rfl,rfl,rfl⟩)
 ·have hlt:a.length < b.length→gD (m:Int) n= -1:=fun h=>by
   have:=aIP ca cb h
   rw [va,vb] at this
   exact if_pos this
  have hgt:b.length < a.length→gD (m:Int) n=1:=fun h=>by
   have:=aIP cb ca h
   rw [va,vb] at this
   unfold gD
   rw [if_neg (by omega),if_pos this]
  repeat' (first|refine aQ ?_|refine aJ rfl (fun h=>?_) (fun h=>?_)|refine aK rfl rfl (fun h=>?_) (fun h=>?_)|fail)
  ·rw [hlt (by omega)]
   refine iR rfl rfl (⟨rfl,rfl,rfl⟩)
  ·rw [hgt (by omega)]
   refine iR rfl rfl (⟨rfl,rfl,rfl⟩)
end
end Go.Proofs.YtmmmfphealhapaaGreat
