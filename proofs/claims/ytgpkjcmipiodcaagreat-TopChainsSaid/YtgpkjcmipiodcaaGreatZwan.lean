/- The walk, kept once. -/
import Derived.Test.YtgpkjcmipiodcaaGreatZwag
import Derived.Test.YtgpkjcmipiodcaaGreatZwah
import Derived.Test.YtgpkjcmipiodcaaGreatZwaj
import Derived.Test.YtgpkjcmipiodcaaGreatZwam
import Derived.Test.YtgpkjcmipiodcaaGreatZwal
import Derived.Test.YtgpkjcmipiodcaaGreatZwaf
set_option linter.unusedSimpArgs false
set_option linter.unusedVariables false
set_option maxRecDepth 100000
set_option maxHeartbeats 4000000
namespace Go.Fx
theorem aB {p g:Prop} (h:g) (w:BoxP g→p:=by (intro hh;(first|refine aJ ?_|refine iD ?_|refine pK ?_|refine mF ?_|refine jM ?_|refine jE ?_|refine lV ?_|refine lJ ?_|refine jP ?_|refine jL ?_|refine oZ ?_|refine oU ?_|refine pU ?_|refine oP rfl ?_|refine aT ?_|(refine jZ ?_;first|refine kE rfl rfl rfl ?_|(refine kR rfl rfl ?_;refine iU rfl rfl rfl okF ?_)|refine kQ rfl rfl (by omega) ?_|refine kG rfl rfl (by omega) ?_)|(refine dY ?_;refine aD rfl (fun _=>fU rfl) rfl rfl ?_)|refine aD rfl (fun _=>bP rfl) rfl rfl ?_|(refine kL ?_;first|refine aD rfl (fun _=>dF rfl rfl wF) rfl rfl ?_|refine aD rfl (fun _=>dG rfl rfl wF) rfl rfl ?_|refine aD rfl (fun _=>gZ rfl rfl wF) rfl rfl ?_|refine aD rfl (fun _=>gX rfl rfl (by omega) qF) rfl rfl ?_|refine aD rfl (fun _=>gY rfl rfl (by omega) rfl) rfl rfl ?_|refine aD rfl (fun _=>fZ rfl rfl) rfl rfl ?_|refine aD rfl (fun _=>gV rfl rfl) rfl rfl ?_|refine aD rfl (fun _=>gT rfl rfl) rfl rfl ?_|refine aD rfl (fun _=>uD rfl rfl) rfl rfl ?_|refine aD rfl (fun _=>xK rfl rfl) rfl rfl ?_)|(refine dY ?_;first|refine aD rfl (fun _=>gJ rfl wF) rfl rfl ?_)|(refine jW ?_;first|refine aD rfl (fun _=>fB rfl wF) rfl rfl ?_)|(refine jV ?_;first|refine aD rfl (fun _=>dE rfl) rfl rfl ?_|refine aD rfl (fun _=>fQ rfl rfl) rfl rfl ?_|refine aD rfl (fun _=>fT rfl rfl) rfl rfl ?_|refine aD rfl (fun _=>fV rfl rfl rfl) rfl rfl ?_)|(refine kK ?_;first|refine jY rfl (by decide) rfl rfl ?_|refine nJ rfl (by decide) rfl rfl ?_)|(refine kD ?_;first|refine aD rfl (fun _=>fA rfl) rfl rfl ?_)|(refine kF ?_;first|refine nE rfl rfl jH rfl rfl ?_|refine nK gQ rfl rfl jH aA nQ rfl rfl ?_|refine nI gQ rfl rfl jH aA nQ rfl rfl ?_|refine aD rfl (fun _=>dV rfl rfl jH) rfl rfl ?_)|(refine kI ?_;first|(apply mE;exact gQ;exact rfl;(focus ((repeat (first|with_reducible exact List.mem_cons_self|with_reducible assumption|with_reducible refine List.mem_cons_of_mem _ ?_));done));exact atY;exact rfl;exact rfl)|(apply bL;exact gQ;exact rfl;(focus ((repeat (first|with_reducible exact List.mem_cons_self|with_reducible assumption|with_reducible refine List.mem_cons_of_mem _ ?_));done));exact atY;exact rfl;exact rfl)|(apply qL;exact gQ;exact rfl;(focus ((repeat (first|with_reducible exact List.mem_cons_self|with_reducible assumption|with_reducible refine List.mem_cons_of_mem _ ?_));done));exact atY;exact rfl;exact rfl)|(apply sI;exact gQ;exact rfl;(focus ((repeat (first|with_reducible exact List.mem_cons_self|with_reducible assumption|with_reducible refine List.mem_cons_of_mem _ ?_));done));exact atY;exact rfl;exact rfl)|(apply kX;exact gQ;exact rfl;(focus ((repeat (first|with_reducible exact List.mem_cons_self|with_reducible assumption|with_reducible refine List.mem_cons_of_mem _ ?_));done));exact vS;exact rfl;exact rfl)|(apply jF;exact gQ;exact rfl;(focus ((repeat (first|with_reducible exact List.mem_cons_self|with_reducible assumption|with_reducible refine List.mem_cons_of_mem _ ?_));done));exact vS;exact rfl;exact rfl)|(apply nH;exact gQ;exact rfl;(focus ((repeat (first|with_reducible exact List.mem_cons_self|with_reducible assumption|with_reducible refine List.mem_cons_of_mem _ ?_));done));exact vS;exact rfl;exact rfl)|(apply nG;exact gQ;exact rfl;(focus ((repeat (first|with_reducible exact List.mem_cons_self|with_reducible assumption|with_reducible refine List.mem_cons_of_mem _ ?_));done));exact vS;exact rfl;exact rfl))|(refine jX ?_;first|refine aD rfl (fun _=>dW rfl rfl) rfl rfl ?_|refine aD rfl (fun _=>dJ rfl) rfl rfl ?_)|(refine oF ?_;first|refine oH rfl rfl rfl iN stC rfl rfl ⟨okF,?_⟩|refine fM rfl rfl jR nU iN aBS rfl rfl ⟨okF,?_⟩)|(refine mD ?_;first|refine fD rfl ?_|refine dZ rfl ?_|refine oQ rfl (by omega) ?_|refine sJ rfl (by omega) ?_));(repeat (first|refine aJ ?_|refine iD ?_|refine pK ?_|refine mF ?_|refine jM ?_|refine jE ?_|refine lV ?_|refine lJ ?_|refine jP ?_|refine jL ?_|refine oZ ?_|refine oU ?_|refine pU ?_|refine oP rfl ?_|refine aT ?_|(refine jZ ?_;first|refine kE rfl rfl rfl ?_|(refine kR rfl rfl ?_;refine iU rfl rfl rfl okF ?_)|refine kQ rfl rfl (by omega) ?_|refine kG rfl rfl (by omega) ?_)|(refine dY ?_;refine aD rfl (fun _=>fU rfl) rfl rfl ?_)|refine aD rfl (fun _=>bP rfl) rfl rfl ?_|(refine kL ?_;first|refine aD rfl (fun _=>dF rfl rfl wF) rfl rfl ?_|refine aD rfl (fun _=>dG rfl rfl wF) rfl rfl ?_|refine aD rfl (fun _=>gZ rfl rfl wF) rfl rfl ?_|refine aD rfl (fun _=>gX rfl rfl (by omega) qF) rfl rfl ?_|refine aD rfl (fun _=>gY rfl rfl (by omega) rfl) rfl rfl ?_|refine aD rfl (fun _=>fZ rfl rfl) rfl rfl ?_|refine aD rfl (fun _=>gV rfl rfl) rfl rfl ?_|refine aD rfl (fun _=>gT rfl rfl) rfl rfl ?_|refine aD rfl (fun _=>uD rfl rfl) rfl rfl ?_|refine aD rfl (fun _=>xK rfl rfl) rfl rfl ?_)|(refine dY ?_;first|refine aD rfl (fun _=>gJ rfl wF) rfl rfl ?_)|(refine jW ?_;first|refine aD rfl (fun _=>fB rfl wF) rfl rfl ?_)|(refine jV ?_;first|refine aD rfl (fun _=>dE rfl) rfl rfl ?_|refine aD rfl (fun _=>fQ rfl rfl) rfl rfl ?_|refine aD rfl (fun _=>fT rfl rfl) rfl rfl ?_|refine aD rfl (fun _=>fV rfl rfl rfl) rfl rfl ?_)|(refine kK ?_;first|refine jY rfl (by decide) rfl rfl ?_|refine nJ rfl (by decide) rfl rfl ?_)|(refine kD ?_;first|refine aD rfl (fun _=>fA rfl) rfl rfl ?_)|(refine kF ?_;first|refine nE rfl rfl jH rfl rfl ?_|refine nK gQ rfl rfl jH aA nQ rfl rfl ?_|refine nI gQ rfl rfl jH aA nQ rfl rfl ?_|refine aD rfl (fun _=>dV rfl rfl jH) rfl rfl ?_)|(refine kI ?_;first|(apply mE;exact gQ;exact rfl;(focus ((repeat (first|with_reducible exact List.mem_cons_self|with_reducible assumption|with_reducible refine List.mem_cons_of_mem _ ?_));done));exact atY;exact rfl;exact rfl)|(apply bL;exact gQ;exact rfl;(focus ((repeat (first|with_reducible exact List.mem_cons_self|with_reducible assumption|with_reducible refine List.mem_cons_of_mem _ ?_));done));exact atY;exact rfl;exact rfl)|(apply qL;exact gQ;exact rfl;(focus ((repeat (first|with_reducible exact List.mem_cons_self|with_reducible assumption|with_reducible refine List.mem_cons_of_mem _ ?_));done));exact atY;exact rfl;exact rfl)|(apply sI;exact gQ;exact rfl;(focus ((repeat (first|with_reducible exact List.mem_cons_self|with_reducible assumption|with_reducible refine List.mem_cons_of_mem _ ?_));done));exact atY;exact rfl;exact rfl)|(apply kX;exact gQ;exact rfl;(focus ((repeat (first|with_reducible exact List.mem_cons_self|with_reducible assumption|with_reducible refine List.mem_cons_of_mem _ ?_));done));exact vS;exact rfl;exact rfl)|(apply jF;exact gQ;exact rfl;(focus ((repeat (first|with_reducible exact List.mem_cons_self|with_reducible assumption|with_reducible refine List.mem_cons_of_mem _ ?_));done));exact vS;exact rfl;exact rfl)|(apply nH;exact gQ;exact rfl;(focus ((repeat (first|with_reducible exact List.mem_cons_self|with_reducible assumption|with_reducible refine List.mem_cons_of_mem _ ?_));done));exact vS;exact rfl;exact rfl)|(apply nG;exact gQ;exact rfl;(focus ((repeat (first|with_reducible exact List.mem_cons_self|with_reducible assumption|with_reducible refine List.mem_cons_of_mem _ ?_));done));exact vS;exact rfl;exact rfl))|(refine jX ?_;first|refine aD rfl (fun _=>dW rfl rfl) rfl rfl ?_|refine aD rfl (fun _=>dJ rfl) rfl rfl ?_)|(refine oF ?_;first|refine oH rfl rfl rfl iN stC rfl rfl ⟨okF,?_⟩|refine fM rfl rfl jR nU iN aBS rfl rfl ⟨okF,?_⟩)|(refine mD ?_;first|refine fD rfl ?_|refine dZ rfl ?_|refine oQ rfl (by omega) ?_|refine sJ rfl (by omega) ?_)));exact hh.out)):p:=w ⟨h⟩
theorem yXh {p g:Prop} (h:g) (w:BoxP g→p:=by (intro hh;(first|refine aJ ?_|refine iD ?_|refine pK ?_|refine mF ?_|refine jM ?_|refine jE ?_|refine lV ?_|refine lJ ?_|refine jP ?_|refine jL ?_|refine oZ ?_|refine oU ?_|refine pU ?_|refine oP rfl ?_|refine aT ?_|(refine jZ ?_;first|refine kE rfl rfl rfl ?_|(refine kR rfl rfl ?_;refine iU rfl rfl rfl okF ?_)|refine kQ rfl rfl (by omega) ?_|refine kG rfl rfl (by omega) ?_)|(refine dY ?_;refine aD rfl (fun _=>fU rfl) rfl rfl ?_)|refine aD rfl (fun _=>bP rfl) rfl rfl ?_|(refine kL ?_;first|refine aD rfl (fun _=>dF rfl rfl wF) rfl rfl ?_|refine aD rfl (fun _=>dG rfl rfl wF) rfl rfl ?_|refine aD rfl (fun _=>gZ rfl rfl wF) rfl rfl ?_|refine aD rfl (fun _=>gX rfl rfl (by omega) qF) rfl rfl ?_|refine aD rfl (fun _=>gY rfl rfl (by omega) rfl) rfl rfl ?_|refine aD rfl (fun _=>fZ rfl rfl) rfl rfl ?_|refine aD rfl (fun _=>gV rfl rfl) rfl rfl ?_|refine aD rfl (fun _=>gT rfl rfl) rfl rfl ?_|refine aD rfl (fun _=>uD rfl rfl) rfl rfl ?_|refine aD rfl (fun _=>xK rfl rfl) rfl rfl ?_)|(refine dY ?_;first|refine aD rfl (fun _=>gJ rfl wF) rfl rfl ?_)|(refine jW ?_;first|refine aD rfl (fun _=>fB rfl wF) rfl rfl ?_)|(refine jV ?_;first|refine aD rfl (fun _=>dE rfl) rfl rfl ?_|refine aD rfl (fun _=>fQ rfl rfl) rfl rfl ?_|refine aD rfl (fun _=>fT rfl rfl) rfl rfl ?_|refine aD rfl (fun _=>fV rfl rfl rfl) rfl rfl ?_)|(refine kK ?_;first|refine jY rfl (by decide) rfl rfl ?_|refine nJ rfl (by decide) rfl rfl ?_)|(refine kD ?_;first|refine aD rfl (fun _=>fA rfl) rfl rfl ?_)|(refine kF ?_;first|refine nE rfl rfl jH rfl rfl ?_|refine nK gQ rfl rfl jH aA nQ rfl rfl ?_|refine nI gQ rfl rfl jH aA nQ rfl rfl ?_|refine aD rfl (fun _=>dV rfl rfl jH) rfl rfl ?_)|(refine kI ?_;first|(apply mE;exact gQ;exact rfl;(focus ((repeat (first|with_reducible exact List.mem_cons_self|with_reducible assumption|with_reducible refine List.mem_cons_of_mem _ ?_));done));exact atY;exact rfl;exact rfl)|(apply bL;exact gQ;exact rfl;(focus ((repeat (first|with_reducible exact List.mem_cons_self|with_reducible assumption|with_reducible refine List.mem_cons_of_mem _ ?_));done));exact atY;exact rfl;exact rfl)|(apply qL;exact gQ;exact rfl;(focus ((repeat (first|with_reducible exact List.mem_cons_self|with_reducible assumption|with_reducible refine List.mem_cons_of_mem _ ?_));done));exact atY;exact rfl;exact rfl)|(apply sI;exact gQ;exact rfl;(focus ((repeat (first|with_reducible exact List.mem_cons_self|with_reducible assumption|with_reducible refine List.mem_cons_of_mem _ ?_));done));exact atY;exact rfl;exact rfl)|(apply kX;exact gQ;exact rfl;(focus ((repeat (first|with_reducible exact List.mem_cons_self|with_reducible assumption|with_reducible refine List.mem_cons_of_mem _ ?_));done));exact vS;exact rfl;exact rfl)|(apply jF;exact gQ;exact rfl;(focus ((repeat (first|with_reducible exact List.mem_cons_self|with_reducible assumption|with_reducible refine List.mem_cons_of_mem _ ?_));done));exact vS;exact rfl;exact rfl)|(apply nH;exact gQ;exact rfl;(focus ((repeat (first|with_reducible exact List.mem_cons_self|with_reducible assumption|with_reducible refine List.mem_cons_of_mem _ ?_));done));exact vS;exact rfl;exact rfl)|(apply nG;exact gQ;exact rfl;(focus ((repeat (first|with_reducible exact List.mem_cons_self|with_reducible assumption|with_reducible refine List.mem_cons_of_mem _ ?_));done));exact vS;exact rfl;exact rfl))|(refine jX ?_;first|refine aD rfl (fun _=>dW rfl rfl) rfl rfl ?_|refine aD rfl (fun _=>dJ rfl) rfl rfl ?_)|(refine mD ?_;first|refine fD rfl ?_|refine dZ rfl ?_|refine oQ rfl (by omega) ?_|refine sJ rfl (by omega) ?_));(repeat (first|refine aJ ?_|refine iD ?_|refine pK ?_|refine mF ?_|refine jM ?_|refine jE ?_|refine lV ?_|refine lJ ?_|refine jP ?_|refine jL ?_|refine oZ ?_|refine oU ?_|refine pU ?_|refine oP rfl ?_|refine aT ?_|(refine jZ ?_;first|refine kE rfl rfl rfl ?_|(refine kR rfl rfl ?_;refine iU rfl rfl rfl okF ?_)|refine kQ rfl rfl (by omega) ?_|refine kG rfl rfl (by omega) ?_)|(refine dY ?_;refine aD rfl (fun _=>fU rfl) rfl rfl ?_)|refine aD rfl (fun _=>bP rfl) rfl rfl ?_|(refine kL ?_;first|refine aD rfl (fun _=>dF rfl rfl wF) rfl rfl ?_|refine aD rfl (fun _=>dG rfl rfl wF) rfl rfl ?_|refine aD rfl (fun _=>gZ rfl rfl wF) rfl rfl ?_|refine aD rfl (fun _=>gX rfl rfl (by omega) qF) rfl rfl ?_|refine aD rfl (fun _=>gY rfl rfl (by omega) rfl) rfl rfl ?_|refine aD rfl (fun _=>fZ rfl rfl) rfl rfl ?_|refine aD rfl (fun _=>gV rfl rfl) rfl rfl ?_|refine aD rfl (fun _=>gT rfl rfl) rfl rfl ?_|refine aD rfl (fun _=>uD rfl rfl) rfl rfl ?_|refine aD rfl (fun _=>xK rfl rfl) rfl rfl ?_)|(refine dY ?_;first|refine aD rfl (fun _=>gJ rfl wF) rfl rfl ?_)|(refine jW ?_;first|refine aD rfl (fun _=>fB rfl wF) rfl rfl ?_)|(refine jV ?_;first|refine aD rfl (fun _=>dE rfl) rfl rfl ?_|refine aD rfl (fun _=>fQ rfl rfl) rfl rfl ?_|refine aD rfl (fun _=>fT rfl rfl) rfl rfl ?_|refine aD rfl (fun _=>fV rfl rfl rfl) rfl rfl ?_)|(refine kK ?_;first|refine jY rfl (by decide) rfl rfl ?_|refine nJ rfl (by decide) rfl rfl ?_)|(refine kD ?_;first|refine aD rfl (fun _=>fA rfl) rfl rfl ?_)|(refine kF ?_;first|refine nE rfl rfl jH rfl rfl ?_|refine nK gQ rfl rfl jH aA nQ rfl rfl ?_|refine nI gQ rfl rfl jH aA nQ rfl rfl ?_|refine aD rfl (fun _=>dV rfl rfl jH) rfl rfl ?_)|(refine kI ?_;first|(apply mE;exact gQ;exact rfl;(focus ((repeat (first|with_reducible exact List.mem_cons_self|with_reducible assumption|with_reducible refine List.mem_cons_of_mem _ ?_));done));exact atY;exact rfl;exact rfl)|(apply bL;exact gQ;exact rfl;(focus ((repeat (first|with_reducible exact List.mem_cons_self|with_reducible assumption|with_reducible refine List.mem_cons_of_mem _ ?_));done));exact atY;exact rfl;exact rfl)|(apply qL;exact gQ;exact rfl;(focus ((repeat (first|with_reducible exact List.mem_cons_self|with_reducible assumption|with_reducible refine List.mem_cons_of_mem _ ?_));done));exact atY;exact rfl;exact rfl)|(apply sI;exact gQ;exact rfl;(focus ((repeat (first|with_reducible exact List.mem_cons_self|with_reducible assumption|with_reducible refine List.mem_cons_of_mem _ ?_));done));exact atY;exact rfl;exact rfl)|(apply kX;exact gQ;exact rfl;(focus ((repeat (first|with_reducible exact List.mem_cons_self|with_reducible assumption|with_reducible refine List.mem_cons_of_mem _ ?_));done));exact vS;exact rfl;exact rfl)|(apply jF;exact gQ;exact rfl;(focus ((repeat (first|with_reducible exact List.mem_cons_self|with_reducible assumption|with_reducible refine List.mem_cons_of_mem _ ?_));done));exact vS;exact rfl;exact rfl)|(apply nH;exact gQ;exact rfl;(focus ((repeat (first|with_reducible exact List.mem_cons_self|with_reducible assumption|with_reducible refine List.mem_cons_of_mem _ ?_));done));exact vS;exact rfl;exact rfl)|(apply nG;exact gQ;exact rfl;(focus ((repeat (first|with_reducible exact List.mem_cons_self|with_reducible assumption|with_reducible refine List.mem_cons_of_mem _ ?_));done));exact vS;exact rfl;exact rfl))|(refine jX ?_;first|refine aD rfl (fun _=>dW rfl rfl) rfl rfl ?_|refine aD rfl (fun _=>dJ rfl) rfl rfl ?_)|(refine mD ?_;first|refine fD rfl ?_|refine dZ rfl ?_|refine oQ rfl (by omega) ?_|refine sJ rfl (by omega) ?_)));exact hh.out)):p:=w ⟨h⟩
end Go.Fx
namespace Go.Proofs.YtgpkjcmipiodcaaGreat
open Go Go.Fx
structure ZE where
 z:Int
 p:Option Addr
 c:Nat
instance ZE.inh:Inhabited ZE:=⟨⟨0,none,0⟩⟩
abbrev eN (e:ZE):List Value:=[.bool (B (e.z < 0)), .slice e.p (gr e.z.natAbs).length e.c]
abbrev nv (e:ZE):Value:= .agg #[.bool (B (e.z < 0)), .slice e.p (gr e.z.natAbs).length e.c]
abbrev zN:List Value:=[.bool false, .slice none 0 0]
instance ZE.szd:Sized eN 2:=⟨fun _=>rfl⟩
instance ZE.ones:Ones eN:=⟨fun m u hu=>by
 simp only [eN,List.mem_cons,List.not_mem_nil,or_false] at hu
 rcases hu with rfl|rfl <;>rfl⟩
abbrev qH (e:ZE) (k:Nat):aV:=iB (nv e) e.z k
def NQ (z:Int) (k:Nat) (M0:List Ent) (I0:List aV) (v:Value) (M:List Ent) (I:List aV):Prop:=M0=M∧∃e:ZE,v=nv e∧e.z=z∧I=qH e k::I0
/- rotations -/
abbrev eQ (q:Qn):List Value:=[.int .i64 q.a, .int .i64 q.b, .int .i64 q.c, .int .i64 q.d]
abbrev qv (q:Qn):Value:= .agg #[.int .i64 q.a, .int .i64 q.b, .int .i64 q.c, .int .i64 q.d]
abbrev zQ:List Value:=[.int .i64 0, .int .i64 0, .int .i64 0, .int .i64 0]
instance Qn.szd:Sized eQ 4:=⟨fun _=>rfl⟩
instance Qn.ones:Ones eQ:=⟨fun m u hu=>by
 simp only [eQ,List.mem_cons,List.not_mem_nil,or_false] at hu
 rcases hu with rfl|rfl|rfl|rfl <;>rfl⟩
def iQ (q:Qn):List Int:=[q.a,q.b,q.c,q.d]
theorem aTT:∀u v:Qn,iQ u=iQ v→u=v:=fun u v h=>by
 injection h with h1 h;injection h with h2 h;injection h with h3 h;injection h with h4 _
 exact Qn.ext4 h1 h2 h3 h4
abbrev Qn.fit (q:Qn):Prop:=(q.a.natAbs≤1048576∧q.b.natAbs≤1048576)∧q.c.natAbs≤1048576∧q.d.natAbs≤1048576
def lN (q:Qn):Int:=if q=Qn.zero then 1 else if q.fit then 0 else 3
theorem yP {q:Qn} (h:q.nz) (hf:q.fit):lN q=0:=by unfold lN;rw [if_neg h,if_pos hf]
theorem aWP {q:Qn} (h:lN q=0):q.nz∧q.fit:=by
 unfold lN at h
 by_cases h1:q=Qn.zero
 ·rw [if_pos h1] at h;exact absurd h (by decide)
 ·rw [if_neg h1] at h
  by_cases h2:q.fit
  ·exact ⟨h1,h2⟩
  ·rw [if_neg h2] at h;exact absurd h (by decide)
theorem aAH {q:Qn}:(∀j:Nat,j < 4→(gt (iQ q) j).natAbs≤1048576)↔q.fit:=by
 constructor
 ·intro h;exact ⟨⟨h 0 (by decide),h 1 (by decide)⟩,h 2 (by decide),h 3 (by decide)⟩
 ·rintro ⟨⟨h1,h2⟩,h3,h4⟩ j hj
  obtain rfl|rfl|rfl|rfl:j=0∨j=1∨j=2∨j=3:=by omega
  ·exact h1
  ·exact h2
  ·exact h3
  ·exact h4
theorem iQ_at (q:Qn) {i:Nat} (h:i < 4):(eQ q)[((i:Nat):Int).toNat]?=some (.int .i64 (gt (iQ q) i)):=by
 obtain rfl|rfl|rfl|rfl:i=0∨i=1∨i=2∨i=3:=by omega
 all_goals rfl
section
variable {X:List Nat} {w0:World} {M0:List Ent} {I0:List aV}
theorem CD.nq {f:FuncId} {vs:List Value} {z:Int} {k:Nat} (h:CD Tryz.prog f vs X w0 M0 I0 (fun v M I=>M0=M∧I=iB v z k::I0)):CD Tryz.prog f vs X w0 M0 I0 (NQ z k M0 I0):=
 h.post (fun v M I w h hw=>by
  obtain ⟨rfl,rfl⟩:=h
  have hi:IsI v z k (muts M0) w:=(hw.imm _ (List.Mem.head _)).2
  obtain ⟨q,c,rfl,_⟩:=hi.ex
  exact ⟨M0,_,⟨rfl,⟨z,q,c⟩,rfl,rfl,rfl⟩,hw⟩)
theorem NOf {x:Int} (hx: -9223372036854775808≤x∧x≤9223372036854775807):CD Tryz.prog 71 [.int .i64 x] X w0 M0 I0 (NQ x 63 M0 I0):=CD.nq (aEC hx)
theorem aQB {q:Qn}:CD Tryz.prog 67 [qv q] X w0 M0 I0 (fun v M I=>M0=M∧I0=I∧v=qv q):=by
 refine aZ Tryz.func67 rfl Tryz.ntmps67 rfl ?_
 refine fE ?_
 refine fG rfl (fun b=>?_)
 refine aC (cs:=eQ q) .here ?_
 refine bG (fun b2=>?_)
 repeat refine aB ?_
 (refine aD rfl (fun _=>bH (vals:=eQ q) (cells:=eQ q) rfl ?hpl rfl ?hz) rfl rfl ?_;(case hpl=>exact (by intro v hv;repeat (first|exact absurd hv (List.not_mem_nil)|(rcases List.mem_cons.1 hv with rfl|hv; · rfl))));(case hz=>rfl))
 repeat refine aB ?_
 refine bA (cs:=eQ q) (.inl rfl) rfl rfl aA rfl M0 I0 aG aF ⟨rfl,rfl,rfl⟩
theorem xG {q:Qn}:CD Tryz.prog 25 [qv q] X w0 M0 I0 (fun v M I=>M0=M∧I0=I∧v= .int .i64 (lN q)):=by
 refine aZ Tryz.func25 rfl Tryz.ntmps25 rfl ?_
 refine fE ?_
 refine fG rfl (fun b=>?_)
 refine aC (cs:=eQ q) .here ?_
 repeat refine aB ?_
 (refine aD rfl (fun _=>aK (pvs:=([]).zipIdx.map (fun p=>(p.2,p.1))) (cells:=zQ) rfl rfl) rfl rfl ?_)
 refine aD rfl (fun _=>aGB (enc:=eQ) (ints:=iQ) (a:=q) (b:=Qn.zero) (fun _=>rfl) aTT (fun _=>rfl) inferInstance rfl rfl) rfl rfl ?_
 by_cases h0:q=Qn.zero
 ·have hc:lN q=1:=by unfold lN;rw [if_pos h0]
  repeat refine aB ?_
  refine gD rfl rfl (⟨rfl,rfl,congrArg _ hc.symm⟩)
 repeat refine aB ?_
 refine dP rfl (aQB) ?_
 repeat refine aB ?_
 refine kS [9] rfl (fun k G M I=>∃i:Nat,i≤4∧k=4 - i∧(∀j:Nat,j < i→(gt (iQ q) j).natAbs≤1048576)∧G=[(10, .int .i64 i)]∧M0=M∧I0=I) (4) (⟨0,by omega,rfl,fun j hj=>by omega,rfl,rfl,rfl⟩) ?_
 rintro kk G M I ⟨i,hi,rfl,hs,rfl,rfl,rfl⟩
 by_cases him:i < 4
 ·have hv:=iQ_at q him
  generalize hg:gt (iQ q) (i:Int)=g at hv
  have hno:¬g.natAbs≤1048576→lN q=3:=fun h=>by
   unfold lN
   rw [if_neg h0,if_neg (fun hf=>h (by rw [←hg];exact aAH.2 hf i him))]
  repeat refine aB ?_
  (refine aD rfl (fun _=>rF (cs:=eQ q) rfl rfl ⟨by omega,by show (i:Int) < ((4:Nat):Int);omega⟩ rfl hv) rfl rfl ?_)
  by_cases h1:g < -1048576
  ·repeat refine aB ?_
   refine gD rfl rfl (⟨rfl,rfl,congrArg _ (hno (by omega)).symm⟩)
  by_cases h2:1048576 < g
  ·repeat refine aB ?_
   refine gD rfl rfl (⟨rfl,rfl,congrArg _ (hno (by omega)).symm⟩)
  repeat refine aB ?_
  refine iC (4 - (i+1)) (⟨i+1,by omega,rfl,fun j hj=>?_,rfl,rfl,rfl⟩)
  by_cases e:j=i
  ·subst e;omega
  ·exact hs j (by omega)
 ·obtain rfl:i=4:=by omega
  have hc:lN q=0:=yP h0 (aAH.1 hs)
  repeat refine aB ?_
  refine gD rfl rfl (⟨rfl,rfl,congrArg _ hc.symm⟩)
def qV:List Qn→Int
 |[]=>0
 |q::l=>if lN q=0 then qV l else lN q
theorem aEA:∀{l:List Qn},(∀j:Nat,j < l.length→lN (gt l j)=0)→qV l=0
 |[],_=>rfl
 |q::l,h=>by
  have h0:lN q=0:=h 0 (by simp)
  unfold qV
  rw [if_pos h0]
  exact aEA (fun j hj=>h (j+1) (by simp;omega))
theorem aGL:∀{l:List Qn} {i:Nat},i < l.length→(∀j:Nat,j < i→lN (gt l j)=0)→lN (gt l i)≠0→qV l=lN (gt l i)
 |q::l,0,_,_,hn=>by
  unfold qV
  exact if_neg hn
 |q::l,i+1,hi,h,hn=>by
  have h0:lN q=0:=h 0 (by omega)
  unfold qV
  rw [if_pos h0]
  exact aGL (l:=l) (i:=i) (by simpa using hi) (fun j hj=>h (j+1) (by omega)) hn
theorem aIZ {p:Option Addr} {c m:Nat} {l:List Qn} (hl:l.length=m) (hm:(m:Int)≤9223372036854775807) (hp:aI p (recs eQ l)∈I0):CD Tryz.prog 69 [.slice p m c] X w0 M0 I0 (fun v M I=>M0=M∧I0=I∧v= .int .i64 (qV l)):=by
 have hC:=fun (q:Qn) M0 I0=>xG (X:=X) (w0:=w0) (M0:=M0) (I0:=I0) (q:=q)
 refine aZ Tryz.func69 rfl Tryz.ntmps69 rfl ?_
 refine fE ?_
 repeat refine aB ?_
 refine kS [6,7] rfl (fun k G M I=>∃i:Nat,i≤m∧k=m - i∧(∀j:Nat,j < i→lN (gt l j)=0)∧G=[(8, .int .i64 i)]∧M0=M∧I0=I) (m) (⟨0,by omega,rfl,fun j hj=>by omega,rfl,rfl,rfl⟩) ?_
 rintro kk G M I ⟨i,hi,rfl,hs,rfl,rfl,rfl⟩
 by_cases him:i < m
 ·repeat refine aB ?_
  refine bG (fun b4=>?_)
  repeat refine aB ?_
  refine aC (cs:=eQ (gt l i)) .here ?_
  refine dP rfl (hC (gt l i) _ _) ?_
  by_cases hz:lN (gt l (i:Int))=0
  ·rw [hz]
   repeat refine aB ?_
   refine iC (m - (i+1)) (⟨i+1,by omega,rfl,fun j hj=>?_,rfl,rfl,rfl⟩)
   by_cases e:j=i
   ·subst e;exact hz
   ·exact hs j (by omega)
  ·have hc:=aGL (by omega) hs hz
   generalize lN (gt l (i:Int))=z at hz hc
   repeat refine aB ?_
   refine gD rfl rfl (⟨rfl,rfl,congrArg _ hc.symm⟩)
 ·obtain rfl:i=m:=by omega
  have hc:qV l=0:=aEA (fun j hj=>hs j (by omega))
  repeat refine aB ?_
  refine gD rfl rfl (⟨rfl,rfl,congrArg _ hc.symm⟩)
end
abbrev vI (q:Option Addr) (c:Nat) (z:Int):Value:= .agg #[.bool (B (z < 0)), .slice q (gr z.natAbs).length c]
structure RE where
 q:Rat
 p1:Option Addr
 c1:Nat
 p2:Option Addr
 c2:Nat
instance:Inhabited RE:=⟨⟨0,none,0,none,0⟩⟩
abbrev eR (e:RE):List Value:=[.bool (B (e.q.num < 0)), .slice e.p1 (gr e.q.num.natAbs).length e.c1, .bool (B ((e.q.den:Int) < 0)), .slice e.p2 (gr (e.q.den:Int).natAbs).length e.c2]
abbrev rv (e:RE):Value:= .agg #[.bool (B (e.q.num < 0)), .slice e.p1 (gr e.q.num.natAbs).length e.c1, .bool (B ((e.q.den:Int) < 0)), .slice e.p2 (gr (e.q.den:Int).natAbs).length e.c2]
instance:Sized eR 4:=⟨fun _=>rfl⟩
instance:Ones eR:=⟨fun m u hu=>by
 simp only [eR,List.mem_cons,List.not_mem_nil,or_false] at hu
 rcases hu with rfl|rfl|rfl|rfl <;>rfl⟩
structure IsR (e:RE) (k:Nat) (X:List Nat) (w:World):Prop where
 num:IsI (vI e.p1 e.c1 e.q.num) e.q.num k X w
 den:IsI (vI e.p2 e.c2 e.q.den) e.q.den k X w
abbrev cK (e:RE) (k:Nat):aV:=IsR e k
instance (e:RE) (k:Nat):Fx.Good (IsR e k):=⟨fun X Y w w' h he hY=>⟨Fx.Good.go (φ:=IsI _ _ _) X Y w w' h.num he hY,Fx.Good.go (φ:=IsI _ _ _) X Y w w' h.den he hY⟩⟩
theorem IsR.mono {e:RE} {k m:Nat} {X:List Nat} {w:World} (h:IsR e k X w) (hk:k≤m):IsR e m X w:=⟨h.num.mono hk,h.den.mono hk⟩
theorem IsI.le {u:Value} {z:Int} {k:Nat} {X:List Nat} {w:World} (h:IsI u z k X w):z.natAbs≤2 ^ k:=by
 obtain ⟨q,c,h1,h2,h3,h4⟩:=h.ex
 exact h3
structure AllR (es:List RE) (k:Nat) (X:List Nat) (w:World):Prop where
 go:∀e∈es,IsR e k X w
abbrev bW (es:List RE) (k:Nat):aV:=AllR es k
instance (es:List RE) (k:Nat):Fx.Good (AllR es k):=⟨fun X Y w w' h he hY=>⟨fun e hm=>Fx.Good.go (φ:=IsR _ _) X Y w w' (h.go e hm) he hY⟩⟩
theorem AllR.mono {es:List RE} {k m:Nat} {X:List Nat} {w:World} (h:AllR es k X w) (hk:k≤m):AllR es m X w:=⟨fun e he=>(h.go e he).mono hk⟩
structure Hv (I:List aV) (φ:aV):Prop where
 go:∀(X:List Nat) (w:World),(∀ψ∈I,ψ X w)→φ X w
theorem Hv.mem {I:List aV} {φ:aV} (h:φ∈I):Hv I φ:=⟨fun _ _ hw=>hw φ h⟩
theorem Hv.q {I:List aV} {e:RE} {k m:Nat} (h:cK e k∈I) (hk:k≤m):Hv I (cK e m):=⟨fun X w hw=>IsR.mono (hw _ h) hk⟩
theorem bJ {α:Type} [Inhabited α] {ms:List α} {i:Int} (h:0≤i∧i < ms.length):gt ms i∈ms:=List.mem_of_getElem? (aHD h)
theorem Hv.all {I:List aV} {es:List RE} {k m:Nat} {i:Int} (h:bW es k∈I) (hi:0≤i∧i < es.length) (hk:k≤m):Hv I (cK (gt es i) m):=⟨fun X w hw=>((hw _ h:AllR es k X w).go _ (bJ hi)).mono hk⟩
theorem Hv.inc {I I':List aV} {φ:aV} (h:Hv I φ) (hs:∀ψ∈I,ψ∈I'):Hv I' φ:=⟨fun X w hw=>h.go X w (fun ψ hm=>hw ψ (hs ψ hm))⟩
theorem Hv.cons {I:List aV} {φ ψ:aV} (h:Hv I φ):Hv (ψ::I) φ:=h.inc (fun _ hm=>List.mem_cons_of_mem _ hm)
theorem Hv.allMono {I:List aV} {es:List RE} {k m:Nat} (h:bW es k∈I) (hk:k≤m):Hv I (bW es m):=⟨fun X w hw=>AllR.mono (hw _ h) hk⟩
section
variable {P:Program} {n:Nat} {Q:Exit→Act→World→Prop} {G:Env} {X:List Nat} {w0:World} {M M':List Ent} {I I':List aV}
theorem Mem.hv {w:World} {φ:aV} [Fx.Good φ] (h:Hv I φ) (hw:Mem X w0 M I w):Mem X w0 M (φ::I) w:=hw.add (φ:=φ) (h.go _ _ (fun ψ hm=>(hw.imm ψ hm).2))
theorem bO {f:FuncId} {vs:List Value} {K:Value→List Ent→List aV→Prop} {φ:aV} [Fx.Good φ] (h:Hv I φ) (k:CD P f vs X w0 M (φ::I) K):CD P f vs X w0 M I K:=⟨fun w hw=>k.go w (Mem.hv h hw)⟩
theorem bD {c:Code} {φ:aV} [Fx.Good φ] (h:Hv I φ) (k:TD P n c Q G X w0 M (φ::I)):TD P n c Q G X w0 M I:=mQ (fun _ hw=>Mem.hv h hw) k
theorem fH {ops l:List Oper} {m:Fx.Mode} {φ:aV} [Fx.Good φ] (h:Hv I φ) (k:RD P n ops Q m l G X w0 M (φ::I)):RD P n ops Q m l G X w0 M I:=xU (fun _ hw=>Mem.hv h hw) k
theorem fF {ex:Exit} {φ:aV} [Fx.Good φ] (h:Hv I φ) (k:ND n Q ex G X w0 M (φ::I)):ND n Q ex G X w0 M I:=aBR (fun _ hw=>Mem.hv h hw) k
theorem aYZ {w:World} {e:RE} {k:Nat} (h:Hv I (cK e k)) (hw:Mem X w0 M I w):Mem X w0 M (iB (vI e.p1 e.c1 e.q.num) e.q.num k::iB (vI e.p2 e.c2 e.q.den) e.q.den k::I) w:=by
 have hr:IsR e k (muts M) w:=h.go _ _ (fun ψ hm=>(hw.imm ψ hm).2)
 exact (hw.add (φ:=iB (vI e.p2 e.c2 e.q.den) e.q.den k) hr.den).add (φ:=iB (vI e.p1 e.c1 e.q.num) e.q.num k) hr.num
theorem aDB {f:FuncId} {vs:List Value} {K:Value→List Ent→List aV→Prop} {e:RE} {k:Nat} (h:Hv I (cK e k)) (c:CD P f vs X w0 M (iB (vI e.p1 e.c1 e.q.num) e.q.num k::iB (vI e.p2 e.c2 e.q.den) e.q.den k::I) K):CD P f vs X w0 M I K:=⟨fun w hw=>c.go w (aYZ h hw)⟩
theorem jK {ops l:List Oper} {m:Fx.Mode} {e:RE} {k:Nat} (h:Hv I (cK e k)) (c:RD P n ops Q m l G X w0 M (iB (vI e.p1 e.c1 e.q.num) e.q.num k::iB (vI e.p2 e.c2 e.q.den) e.q.den k::I)):RD P n ops Q m l G X w0 M I:=xU (fun _ hw=>aYZ h hw) c
theorem bAG {w:World} {q:Rat} {k k1 k2:Nat} {p1 p2:Option Addr} {c1 c2:Nat} (h1:iB (vI p1 c1 q.num) q.num k1∈I) (h2:iB (vI p2 c2 q.den) q.den k2∈I) (hk1:k1≤k) (hk2:k2≤k) (hw:Mem X w0 M I w):Mem X w0 M (cK ⟨q,p1,c1,p2,c2⟩ k::I) w:=
 hw.add (φ:=cK ⟨q,p1,c1,p2,c2⟩ k) ⟨IsI.mono (hw.imm _ h1).2 hk1,IsI.mono (hw.imm _ h2).2 hk2⟩
theorem mM {ex:Exit} {q:Rat} {k k1 k2:Nat} {p1 p2:Option Addr} {c1 c2:Nat} (h1:iB (vI p1 c1 q.num) q.num k1∈I) (h2:iB (vI p2 c2 q.den) q.den k2∈I) (hk1:k1≤k) (hk2:k2≤k) (h:ND n Q ex G X w0 M (cK ⟨q,p1,c1,p2,c2⟩ k::I)):ND n Q ex G X w0 M I:=aBR (fun _ hw=>bAG h1 h2 hk1 hk2 hw) h
theorem monoI {w:World} {u:Value} {z:Int} {k m:Nat} (h:iB u z k∈I) (hk:k≤m) (hw:Mem X w0 M I w):Mem X w0 M (iB u z m::I) w:=hw.add (φ:=iB u z m) (IsI.mono (hw.imm _ h).2 hk)
theorem aED {ops l:List Oper} {m:Fx.Mode} {u:Value} {z:Int} {k k2:Nat} (h:iB u z k∈I) (hk:k≤k2) (c:RD P n ops Q m l G X w0 M (iB u z k2::I)):RD P n ops Q m l G X w0 M I:=xU (fun _ hw=>monoI h hk hw) c
theorem IsI.tight {u:Value} {z:Int} {k m:Nat} {X:List Nat} {w:World} (h:IsI u z k X w) (hk:z.natAbs≤2 ^ m):IsI u z m X w:=by
 obtain ⟨q,c,h1,h2,h3,h4⟩:=h.ex
 exact ⟨q,c,h1,h2,hk,h4⟩
theorem oI {ops l:List Oper} {m:Fx.Mode} {u:Value} {z:Int} {k k2:Nat} (h:iB u z k∈I) (hk:z.natAbs≤2 ^ k2) (c:RD P n ops Q m l G X w0 M (iB u z k2::I)):RD P n ops Q m l G X w0 M I:=xU (fun _ hw=>hw.add (φ:=iB u z k2) (IsI.tight (hw.imm _ h).2 hk)) c
end
def RQ (q:Rat) (k:Nat) (M0:List Ent) (I0:List aV) (v:Value) (M:List Ent) (I:List aV):Prop:=M0=M∧∃e:RE,v=rv e∧e.q=q∧I=cK e k::I0
def RQc (q:Rat) (k:Nat) (M0:List Ent) (I0:List aV) (v:Value) (M:List Ent) (I:List aV):Prop:=M0=M∧∃e:RE,v= .tuple #[rv e, .int .i64 0]∧e.q=q∧I=cK e k::I0
end Go.Proofs.YtgpkjcmipiodcaaGreat
namespace Go.Proofs.YtgpkjcmipiodcaaGreat
open Go Go.Fx
theorem iG {P:Program} {n:Nat} {Q:Exit→Act→World→Prop} {G:Env} {X:List Nat} {w0:World} {M:List Ent} {I:List aV} {ops l:List Oper} {m:Fx.Mode} {ty:TypeId} {pos:String} {af:Array Edge} {g:Option (Nat × Bool)} {z:Rat} {j d:Nat} {f:FuncId} {xs:List Operand} {vs:List Value} {at_:Array TypeId} [FnOk P f] (hx:evs G xs=some vs) (hc:CD P f vs X w0 M I (RQ z j M I)) (k:∀e:RE,e.q=z→RD P n ops Q m.nextE l ((d,rv e)::G) X w0 M (cK e j::I)) (o:∀e,OkD m X w0 M (cK e j::I):=by intro _;exact okF) (hg:nX ops G g=some true:=by rfl) (hd:Nat.ble (d+1) n=true:=by rfl):
  RD P n ops Q m (⟨some d, .call {callee:= .value (.func f),args:=xs.toArray,argTypes:=at_},ty,pos,af,g⟩::l) G X w0 M I:=aS hx hc hg hd (by rintro _ _ _ ⟨rfl,e,rfl,h,rfl⟩;exact ⟨o e,k e h⟩)
end Go.Proofs.YtgpkjcmipiodcaaGreat
namespace Go.Proofs.YtgpkjcmipiodcaaGreat
open Go Go.Fx
section
variable {X:List Nat} {w0:World} {M0:List Ent} {I0:List aV}
theorem tX {u:Value} {z:Int} {k:Nat} (hk:k≤1000000000000) (hu:iB u z k∈I0):
  CD Tryz.prog 132 [u] X w0 M0 I0 (fun v M I=>M0=M∧I0=I∧v= .bool true):=by
 refine CD.post (K:=fun v M I=>M0=M∧(∃q,aI q (recs eG (gr z.natAbs))::I0=I)∧v= .bool true) (dC hu (fun q c e hc hz=>?_)) (fun v M I w h hw=>?_)
 case refine_2=>
  obtain ⟨e1,⟨q,e2⟩,e3⟩:=h
  subst e1;subst e2
  exact ⟨_,_,⟨rfl,rfl,e3⟩,hw.inc (Inc.wk Inc.refl)⟩
 subst e
 have hl:=gL hz hk
 refine (wG (neg:=B (z < 0)) (gs:=gr z.natAbs) (by omega) (List.Mem.head _)).mono (fun v M I h=>⟨h.1,⟨q,h.2.1⟩,?_⟩)
 rw [h.2.2]
 exact congrArg Value.bool (cB (aBE z))
theorem vD {u v:Value} {n d:Int} {k:Nat} (hk:k≤500000000000) (hd0:d≠0) (hu:iB u n k∈I0) (hv:iB v d k∈I0):
  CD Tryz.prog 92 [u,v] X w0 M0 I0 (RQ (Rat.divInt n d) k M0 I0):=by
 have hS:=fun M0 I0=>oC (X:=X) (w0:=w0) (M0:=M0) (I0:=I0) (u:=v) (z:=d) (k:=k) (by omega)
 refine dC hu (fun q cq e hc hy=>?_)
 subst e
 refine dC (List.Mem.tail _ hv) (fun q' cq' e hc' hz=>?_)
 subst e
 obtain ⟨r,hr⟩:∃r,r=Rat.divInt n d:=⟨_,rfl⟩
 have key:∀n' d':Int,0 < d'→Rat.divInt n' d'=Rat.divInt n d→(∀u v M0 I0,iB u n' k∈I0→iB v (Int.gcd n' d':Int) (k+k)∈I0→CD Tryz.prog 145 [u,v] X w0 M0 I0 (DvP r.num (n'.fmod (Int.gcd n' d')) k (k+k) M0 I0))∧(∀u v M0 I0,iB u d' k∈I0→iB v (Int.gcd n' d':Int) (k+k)∈I0→CD Tryz.prog 145 [u,v] X w0 M0 I0 (DvP r.den (d'.fmod (Int.gcd n' d')) k (k+k) M0 I0)):=by
  intro n' d' hd' he
  obtain ⟨e1,e2,e3⟩:=aOP (n:=n') (d:=d') (g:=(Int.gcd n' d':Int)) (by omega) (by rw [if_neg (by omega)])
  rw [he,←hr] at e1 e2
  refine ⟨fun u v M0 I0 h1 h2=>?_,fun u v M0 I0 h1 h2=>?_⟩
  ·have:=aAX (X:=X) (w0:=w0) (M0:=M0) (I0:=I0) (k:=k) (m:=k+k) (by omega) (by omega) e3 h1 h2
   rwa [e1] at this
  ·have:=aAX (X:=X) (w0:=w0) (M0:=M0) (I0:=I0) (k:=k) (m:=k+k) (by omega) (by omega) e3 h1 h2
   rwa [e2] at this
 rw [←hr]
 have hN:=fun u z M0 I0=>aHL (X:=X) (w0:=w0) (M0:=M0) (I0:=I0) (u:=u) (z:=z) (k:=k) (by omega)
 have hG:=fun u v n' d' M0 I0=>aGT (X:=X) (w0:=w0) (M0:=M0) (I0:=I0) (u:=u) (v:=v) (y:=n') (z:=d') (k0:=k) (m:=k) (by omega) (by omega)
 by_cases hneg:d < 0
 ·have hs:d.sign= -1:=Int.sign_eq_neg_one_of_neg hneg
  obtain ⟨hD1,hD2⟩:=key (-n) (-d) (by omega) aDG
  rw [hs] at hS
  clear key
  obtain ⟨g,hg⟩:∃g:Int,g=(Int.gcd (-n) (-d):Int):=⟨_,rfl⟩
  rw [←hg] at hD1 hD2
  have hG:=fun u v=>hG u v (-n) (-d)
  rw [←hg] at hG
  obtain ⟨n1,hn1⟩:∃g:Int,g= -n:=⟨_,rfl⟩
  obtain ⟨d1,hd1⟩:∃g:Int,g= -d:=⟨_,rfl⟩
  have hN1:=fun u=>hN u n
  have hN2:=fun u=>hN u d
  rw [←hn1] at hN1 hD1 hG
  rw [←hd1] at hN2 hD2 hG
  unfold iv at*
  refine aP Tryz.func92 rfl Tryz.ntmps92 rfl ?_
  refine fE ?_
  refine fG rfl (fun b=>?_)
  refine fG rfl (fun b2=>?_)
  refine bG (fun b4=>?_)
  repeat refine aW ?_
  refine dP rfl (hS _ _ aA) ?_
  repeat refine aW ?_
  (repeat refine aJ ?_);refine aO 2 [0,2,1,3,4,5] [1,2,0,0,0,0] mixed (by kernel_rfl) ?_
  repeat refine aW ?_
  (refine aU rfl (hN1 _ _ _ aA) ?_;rintro _ _ _ ⟨rfl,rfl⟩;refine aL ?_;refine aX (List.Mem.head _) (fun q1 c1 e__ hc1 hz1=>?_);subst e__)
  repeat refine aW ?_
  (refine aU rfl (hN2 _ _ _ aA) ?_;rintro _ _ _ ⟨rfl,rfl⟩;refine aL ?_;refine aX (List.Mem.head _) (fun q2 c2 e__ hc2 hz2=>?_);subst e__)
  unfold iv
  repeat refine aW ?_
  (refine aU rfl (hG _ _ _ _ aA aA) ?_;rintro _ _ _ ⟨rfl,rfl⟩;refine aL ?_;refine aX (List.Mem.head _) (fun q3 c3 e__ hc3 hz3=>?_);subst e__)
  unfold iv
  repeat refine aW ?_
  refine bG (fun b5=>?_)
  repeat refine aW ?_
  (refine aU rfl (hD1 _ _ _ _ aA aA) ?_;rintro _ _ _ ⟨rfl,v1,v2,rfl,rfl⟩;refine aL ?_)
  refine aX (u:=v1) aA (fun q4 c4 e4 hc4 hz4=>?_)
  subst e4
  unfold iv
  repeat refine aW ?_
  (refine aU rfl (hD2 _ _ _ _ aA aA) ?_;rintro _ _ _ ⟨rfl,v3,v4,rfl,rfl⟩;refine aL ?_)
  refine aX (u:=v3) aA (fun q5 c5 e5 hc5 hz5=>?_)
  subst e5
  unfold iv
  repeat refine aW ?_
  (refine aD rfl (fun _=>aK (pvs:=([vI q4 c4 r.num,vI q5 c5 r.den]).zipIdx.map (fun p=>(p.2,p.1))) (cells:=eR ⟨r,q4,c4,q5,c5⟩) rfl rfl) rfl rfl ?_)
  repeat refine aW ?_
  refine mM (q:=r) (k:=k) (p1:=q4) (c1:=c4) (p2:=q5) (c2:=c5) aA aA (Nat.le_refl _) (Nat.le_refl _) ?_
  refine bA (cs:=eR ⟨r,q4,c4,q5,c5⟩) (.inl rfl) rfl rfl aA rfl M0 (cK ⟨r,q4,c4,q5,c5⟩ k::I0) aG aF ⟨rfl,⟨r,q4,c4,q5,c5⟩,rfl,rfl,rfl⟩
 ·have hs:d.sign=1:=Int.sign_eq_one_of_pos (by omega)
  obtain ⟨hD1,hD2⟩:=key n d (by omega) rfl
  rw [hs] at hS
  clear key hN
  obtain ⟨g,hg⟩:∃g:Int,g=(Int.gcd n d:Int):=⟨_,rfl⟩
  rw [←hg] at hD1 hD2
  have hG:=fun u v=>hG u v n d
  rw [←hg] at hG
  unfold iv at*
  refine aP Tryz.func92 rfl Tryz.ntmps92 rfl ?_
  refine fE ?_
  refine fG rfl (fun b=>?_)
  refine fG rfl (fun b2=>?_)
  refine bG (fun b4=>?_)
  repeat refine aW ?_
  refine dP rfl (hS _ _ aA) ?_
  repeat refine aW ?_
  (refine aU rfl (hG _ _ _ _ aA aA) ?_;rintro _ _ _ ⟨rfl,rfl⟩;refine aL ?_;refine aX (List.Mem.head _) (fun q3 c3 e__ hc3 hz3=>?_);subst e__)
  unfold iv
  repeat refine aW ?_
  refine bG (fun b5=>?_)
  repeat refine aW ?_
  (refine aU rfl (hD1 _ _ _ _ aA aA) ?_;rintro _ _ _ ⟨rfl,v1,v2,rfl,rfl⟩;refine aL ?_)
  refine aX (u:=v1) aA (fun q4 c4 e4 hc4 hz4=>?_)
  subst e4
  unfold iv
  repeat refine aW ?_
  (refine aU rfl (hD2 _ _ _ _ aA aA) ?_;rintro _ _ _ ⟨rfl,v3,v4,rfl,rfl⟩;refine aL ?_)
  refine aX (u:=v3) aA (fun q5 c5 e5 hc5 hz5=>?_)
  subst e5
  unfold iv
  repeat refine aW ?_
  (refine aD rfl (fun _=>aK (pvs:=([vI q4 c4 r.num,vI q5 c5 r.den]).zipIdx.map (fun p=>(p.2,p.1))) (cells:=eR ⟨r,q4,c4,q5,c5⟩) rfl rfl) rfl rfl ?_)
  repeat refine aW ?_
  refine mM (q:=r) (k:=k) (p1:=q4) (c1:=c4) (p2:=q5) (c2:=c5) aA aA (Nat.le_refl _) (Nat.le_refl _) ?_
  refine bA (cs:=eR ⟨r,q4,c4,q5,c5⟩) (.inl rfl) rfl rfl aA rfl M0 (cK ⟨r,q4,c4,q5,c5⟩ k::I0) aG aF ⟨rfl,⟨r,q4,c4,q5,c5⟩,rfl,rfl,rfl⟩
theorem wX {e:RE} {k:Nat} (hk:k≤500000000000) (he:Hv I0 (cK e k)):
  CD Tryz.prog 77 [rv e] X w0 M0 I0 (fun v M I=>M0=M∧I0=I∧v= .bool true):=by
 refine CD.post (K:=fun v M I=>M0=M∧iB (vI e.p1 e.c1 e.q.num) e.q.num k::iB (vI e.p2 e.c2 e.q.den) e.q.den k::I0=I∧v= .bool true) (aDB he ?_) (fun v M I w h hw=>?_)
 case refine_2=>
  obtain ⟨e1,e2,e3⟩:=h
  subst e1;subst e2
  exact ⟨_,_,⟨rfl,rfl,e3⟩,hw.inc (Inc.wk (Inc.wk Inc.refl))⟩
 have hV1:=fun M0 I0 h=>tX (X:=X) (w0:=w0) (M0:=M0) (I0:=I0) (u:=vI e.p1 e.c1 e.q.num) (z:=e.q.num) (k:=k) (by omega) h
 have hV2:=fun M0 I0 h=>tX (X:=X) (w0:=w0) (M0:=M0) (I0:=I0) (u:=vI e.p2 e.c2 e.q.den) (z:=e.q.den) (k:=k) (by omega) h
 have hS:=fun M0 I0=>oC (X:=X) (w0:=w0) (M0:=M0) (I0:=I0) (u:=vI e.p2 e.c2 e.q.den) (z:=e.q.den) (k:=k) (by omega)
 have hs:((e.q.den:Int)).sign=1:=Int.sign_eq_one_of_pos (by have:=e.q.den_nz;omega)
 rw [hs] at hS
 have hG:=fun M0 I0=>aGT (X:=X) (w0:=w0) (M0:=M0) (I0:=I0) (u:=vI e.p1 e.c1 e.q.num) (v:=vI e.p2 e.c2 e.q.den) (y:=e.q.num) (z:=e.q.den) (k0:=k) (m:=k) (by omega) (by omega)
 rw [aNE] at hG
 have hC:=fun u v M0 I0=>yG (X:=X) (w0:=w0) (M0:=M0) (I0:=I0) (u:=u) (v:=v) (y:=1) (z:=1) (k:=k+k) (m:=63) (by omega) (by omega)
 have hc:fP 1 1=0:=by decide
 rw [hc] at hC
 refine aZ Tryz.func77 rfl Tryz.ntmps77 rfl ?_
 refine fE ?_
 refine fG rfl (fun b=>?_)
 repeat refine aW ?_
 refine dP rfl (hV1 _ _ aA) ?_
 repeat refine aW ?_
 refine dP rfl (hV2 _ _ aA) ?_
 repeat refine aW ?_
 refine dP rfl (hS _ _ aA) ?_
 repeat refine aW ?_
 (refine aU rfl (hG _ _ aA aA) ?_;rintro _ _ _ ⟨rfl,rfl⟩;refine aL ?_)
 repeat refine aW ?_
 (refine aU rfl (aEC (x:=1) (by decide)) ?_;rintro _ _ _ ⟨rfl,rfl⟩;refine aL ?_)
 refine dP rfl (hC _ _ _ _ aA aA) ?_
 repeat refine aW ?_
 refine aH (by first|exact .inl rfl|exact .inr rfl) rfl rfl _ _ aG aF (⟨rfl,rfl,congrArg Value.bool (cB (by decide))⟩)
end
end Go.Proofs.YtgpkjcmipiodcaaGreat
namespace Go.Proofs.YtgpkjcmipiodcaaGreat
open Go Go.Fx
section
variable {X:List Nat} {w0:World} {M0:List Ent} {I0:List aV}
theorem aPD {f:FuncId} {vs:List Value} {e:RE} {k m:Nat} {q:Rat} {P:Program} (h:Hv I0 (cK e k)) (c:CD P f vs X w0 M0 (iB (vI e.p1 e.c1 e.q.num) e.q.num k::iB (vI e.p2 e.c2 e.q.den) e.q.den k::I0) (RQ q m M0 (iB (vI e.p1 e.c1 e.q.num) e.q.num k::iB (vI e.p2 e.c2 e.q.den) e.q.den k::I0))):CD P f vs X w0 M0 I0 (RQ q m M0 I0):=
 CD.post (aDB h c) (fun v M I w ⟨e1,e2,h2,h3,h4⟩ hw=>by
  subst e1;subst h4
  exact ⟨_,_,⟨rfl,e2,h2,h3,rfl⟩,hw.inc (Inc.cons (List.Mem.head _) (Inc.wk (Inc.wk (Inc.wk Inc.refl))))⟩)
theorem aPU {e:RE} {k:Nat} (hk:k≤500000000000) (he:Hv I0 (cK e k)):
  CD Tryz.prog 143 [rv e] X w0 M0 I0 (RQ e.q k M0 I0):=by
 refine aPD he ?_
 have hN:=fun z u M0 I0=>aHL (X:=X) (w0:=w0) (M0:=M0) (I0:=I0) (u:=u) (z:=z) (k:=k) (by omega)
 have h1:=hN (-e.q.num)
 have h2:=hN (-(e.q.den:Int))
 rw [Int.neg_neg] at h1 h2
 refine aZ Tryz.func143 rfl Tryz.ntmps143 rfl ?_
 refine fE ?_
 refine fG rfl (fun b=>?_)
 refine bG (fun b2=>?_)
 repeat refine aW ?_
 (repeat refine aJ ?_);refine aO 3 [0,1,4,5,2,3,6,7,8,9] [4,3,4,3,0,0,0,0,0,0] mixed (by kernel_rfl) ?_
 repeat refine aW ?_
 (refine aU rfl (hN e.q.num _ _ _ aA) ?_;rintro _ _ _ ⟨rfl,rfl⟩;refine aL ?_)
 (refine aU rfl (h1 _ _ _ aA) ?_;rintro _ _ _ ⟨rfl,rfl⟩;refine aL ?_)
 refine aX (z:=e.q.num) (List.Mem.head _) (fun q3 c3 e3 hc3 hz3=>?_)
 subst e3
 unfold iv
 repeat refine aW ?_
 (refine aU rfl (hN e.q.den _ _ _ aA) ?_;rintro _ _ _ ⟨rfl,rfl⟩;refine aL ?_)
 (refine aU rfl (h2 _ _ _ aA) ?_;rintro _ _ _ ⟨rfl,rfl⟩;refine aL ?_)
 refine aX (z:=(e.q.den:Int)) (List.Mem.head _) (fun q4 c4 e4 hc4 hz4=>?_)
 subst e4
 unfold iv
 (refine aD rfl (fun _=>aK (pvs:=([vI q3 c3 e.q.num,vI q4 c4 e.q.den]).zipIdx.map (fun p=>(p.2,p.1))) (cells:=eR ⟨e.q,q3,c3,q4,c4⟩) rfl rfl) rfl rfl ?_)
 repeat refine aW ?_
 refine mM (q:=e.q) (k:=k) (p1:=q3) (c1:=c3) (p2:=q4) (c2:=c4) aA aA (Nat.le_refl _) (Nat.le_refl _) ?_
 refine bA (cs:=eR ⟨e.q,q3,c3,q4,c4⟩) (.inl rfl) rfl rfl aA rfl M0 (cK ⟨e.q,q3,c3,q4,c4⟩ k::_) aG aF ⟨rfl,⟨e.q,q3,c3,q4,c4⟩,rfl,rfl,rfl⟩
theorem nW {e:RE} {k:Nat} (hk:k≤500000000000) (he:Hv I0 (cK e k)):
  CD Tryz.prog 90 [rv e] X w0 M0 I0 (RQ e.q k M0 I0):=by
 refine aZ Tryz.func90 rfl Tryz.ntmps90 rfl ?_
 refine fE ?_
 refine fG rfl (fun b=>?_)
 refine bG (fun b2=>?_)
 repeat refine aW ?_
 refine dP rfl (wX hk he) ?_
 repeat refine aW ?_
 refine iG rfl (aPU hk he) (fun e2 he2=>?_)
 repeat refine aW ?_
 refine bA (cs:=eR e2) (.inl rfl) rfl rfl aA rfl M0 (cK e2 k::I0) aG aF ⟨rfl,e2,rfl,he2,rfl⟩
theorem jA {x:Int} (hx: -9223372036854775808≤x∧x≤9223372036854775807) {k:Nat} (hk:x.natAbs≤2 ^ k):
  CD Tryz.prog 49 [.int .i64 x] X w0 M0 I0 (RQ (x:Rat) k M0 I0):=by
 have hn:((x:Rat)).num=x:=Rat.num_intCast x
 have hd:(((x:Rat)).den:Int)=1:=by rw [Rat.den_intCast];rfl
 have h1:(1:Int).natAbs≤2 ^ k:=Nat.one_le_two_pow
 obtain ⟨q,hq⟩:∃q:Rat,q=(x:Rat):=⟨_,rfl⟩
 rw [←hq] at hn hd ⊢
 refine aZ Tryz.func49 rfl Tryz.ntmps49 rfl ?_
 refine fE ?_
 refine bG (fun b2=>?_)
 repeat refine aW ?_
 (refine aU rfl (aEC hx) ?_;rintro _ _ _ ⟨rfl,rfl⟩;refine aL ?_;refine aX (List.Mem.head _) (fun q3 c3 e__ hc3 hz3=>?_);subst e__)
 unfold iv
 refine oI (k2:=k) (z:=x) (List.Mem.tail _ (List.Mem.head _)) hk ?_
 (refine aU rfl (aEC (x:=1) (by decide)) ?_;rintro _ _ _ ⟨rfl,rfl⟩;refine aL ?_;refine aX (List.Mem.head _) (fun q4 c4 e__ hc4 hz4=>?_);subst e__)
 unfold iv
 refine oI (k2:=k) (z:=1) (List.Mem.tail _ (List.Mem.head _)) h1 ?_
 rw [←hn,←hd]
 (refine aD rfl (fun _=>aK (pvs:=([vI q3 c3 q.num,vI q4 c4 q.den]).zipIdx.map (fun p=>(p.2,p.1))) (cells:=eR ⟨q,q3,c3,q4,c4⟩) rfl rfl) rfl rfl ?_)
 repeat refine aW ?_
 refine mM (q:=q) (k:=k) (p1:=q3) (c1:=c3) (p2:=q4) (c2:=c4) aA aA (Nat.le_refl _) (Nat.le_refl _) ?_
 refine bA (cs:=eR ⟨q,q3,c3,q4,c4⟩) (.inl rfl) rfl rfl aA rfl M0 (cK ⟨q,q3,c3,q4,c4⟩ k::I0) aG aF ⟨rfl,⟨q,q3,c3,q4,c4⟩,rfl,rfl,rfl⟩
theorem kV {e:RE} {k:Nat} (hk:k≤500000000000) (he:Hv I0 (cK e k)):
  CD Tryz.prog 41 [rv e] X w0 M0 I0 (fun v M I=>M0=M∧I0=I∧v= .int .i64 e.q.num.sign):=by
 refine aZ Tryz.func41 rfl Tryz.ntmps41 rfl ?_
 refine fE ?_
 refine fG rfl (fun b=>?_)
 repeat refine aW ?_
 refine iG rfl (nW hk he) (fun e2 he2=>?_)
 refine aD rfl (fun _=>dJ rfl) rfl rfl ?_
 refine jK (e:=e2) (k:=k) (Hv.mem (List.Mem.head _)) ?_
 refine dP rfl (oC (z:=e2.q.num) (k:=k) (by omega) aA) ?_
 rw [he2]
 repeat refine aW ?_
 refine gD rfl rfl (⟨rfl,rfl,rfl⟩)
theorem aNF {e:RE} {k:Nat} (hk:k≤500000000000) (he:Hv I0 (cK e k)):
  CD Tryz.prog 137 [rv e] X w0 M0 I0 (RQ (-e.q) k M0 I0):=by
 refine aZ Tryz.func137 rfl Tryz.ntmps137 rfl ?_
 refine fE ?_
 refine fG rfl (fun b=>?_)
 refine bG (fun b2=>?_)
 repeat refine aW ?_
 refine iG rfl (nW hk he) (fun e2 he2=>?_)
 refine jK (e:=e2) (k:=k) (Hv.mem (List.Mem.head _)) ?_
 rw [←he2]
 have hN:=fun M0 I0=>aHL (X:=X) (w0:=w0) (M0:=M0) (I0:=I0) (u:=vI e2.p1 e2.c1 e2.q.num) (z:=e2.q.num) (k:=k) (by omega)
 rw [←Rat.neg_num] at hN
 have hd:((e2.q.den:Int))=((-e2.q).den:Int):=by rw [Rat.neg_den]
 repeat refine aW ?_
 (repeat refine aJ ?_);refine aO 1 [0,1,3,4,2,5,6] [1,0,1,1,0,0,0] mixed (by kernel_rfl) ?_
 repeat refine aW ?_
 (refine aU rfl (hN _ _ aA) ?_;rintro _ _ _ ⟨rfl,rfl⟩;refine aL ?_;refine aX (List.Mem.head _) (fun q3 c3 e__ hc3 hz3=>?_);subst e__)
 unfold iv
 rw [hd]
 (refine aD rfl (fun _=>aK (pvs:=([vI q3 c3 (-e2.q).num,vI e2.p2 e2.c2 (-e2.q).den]).zipIdx.map (fun p=>(p.2,p.1))) (cells:=eR ⟨-e2.q,q3,c3,e2.p2,e2.c2⟩) rfl rfl) rfl rfl ?_)
 repeat refine aW ?_
 refine mM (q:= -e2.q) (k:=k) (p1:=q3) (c1:=c3) (p2:=e2.p2) (c2:=e2.c2) aA aA (Nat.le_refl _) (Nat.le_refl _) ?_
 refine bA (cs:=eR ⟨-e2.q,q3,c3,e2.p2,e2.c2⟩) (.inl rfl) rfl rfl aA rfl M0 (cK ⟨-e2.q,q3,c3,e2.p2,e2.c2⟩ k::I0) aG aF ⟨rfl,⟨-e2.q,q3,c3,e2.p2,e2.c2⟩,rfl,rfl,rfl⟩
end
end Go.Proofs.YtgpkjcmipiodcaaGreat
