/- The walk, kept once. -/
import Derived.Test.YtejbgkajdomgcaaZvak
import Derived.Test.YtejbgkajdomgcaaZvag
import Derived.Test.YtejbgkajdomgcaaZvai
import Derived.Test.YtejbgkajdomgcaaZvaj
import Derived.Test.YtejbgkajdomgcaaZvad
set_option linter.unusedSimpArgs false
set_option linter.unusedVariables false
set_option maxRecDepth 100000
set_option maxHeartbeats 4000000
namespace Go.Fx
theorem aD {p g:Prop} (h:g) (w:BoxP g→p:=by (intro hh;(first|refine aL ?_|refine dC ?_|refine jV ?_|refine gV ?_|refine dY ?_|refine dN ?_|refine gW ?_|refine eT ?_|refine eH ?_|refine eP ?_|refine jT ?_|refine jK ?_|refine jH ?_|refine jP rfl ?_|refine gG ?_|(refine fG ?_;first|refine fC rfl rfl rfl ?_|(refine fU rfl rfl ?_;refine dM rfl rfl rfl okF ?_)|refine fF rfl rfl (by omega) ?_|refine fE rfl rfl (by omega) ?_)|(refine bD ?_;refine aC rfl (fun _=>bV rfl) rfl rfl ?_)|refine aC rfl (fun _=>aM rfl) rfl rfl ?_|(refine fV ?_;first|refine aC rfl (fun _=>aR rfl rfl wF) rfl rfl ?_|refine aC rfl (fun _=>aS rfl rfl wF) rfl rfl ?_|refine aC rfl (fun _=>cZ rfl rfl wF) rfl rfl ?_|refine aC rfl (fun _=>dB rfl rfl (by omega) qF) rfl rfl ?_|refine aC rfl (fun _=>dA rfl rfl (by omega) rfl) rfl rfl ?_|refine aC rfl (fun _=>bW rfl rfl) rfl rfl ?_|refine aC rfl (fun _=>dK rfl rfl) rfl rfl ?_|refine aC rfl (fun _=>dI rfl rfl) rfl rfl ?_|refine aC rfl (fun _=>nI rfl rfl) rfl rfl ?_|refine aC rfl (fun _=>qB rfl rfl) rfl rfl ?_)|(refine bD ?_;first|refine aC rfl (fun _=>bY rfl wF) rfl rfl ?_)|(refine fQ ?_;first|refine aC rfl (fun _=>bM rfl wF) rfl rfl ?_)|(refine fO ?_;first|refine aC rfl (fun _=>aQ rfl) rfl rfl ?_|refine aC rfl (fun _=>bS rfl rfl) rfl rfl ?_|refine aC rfl (fun _=>bT rfl rfl) rfl rfl ?_|refine aC rfl (fun _=>bX rfl rfl rfl) rfl rfl ?_)|(refine fP ?_;first|refine fB rfl (by decide) rfl rfl ?_|refine iN rfl (by decide) rfl rfl ?_)|(refine fJ ?_;first|refine aC rfl (fun _=>bH rfl) rfl rfl ?_)|(refine fH ?_;first|refine iR rfl rfl gP rfl rfl ?_|refine iP jE rfl rfl gP aG iX rfl rfl ?_|refine iO jE rfl rfl gP aG iX rfl rfl ?_|refine aC rfl (fun _=>bA rfl rfl gP) rfl rfl ?_)|(refine fT ?_;first|(apply pR;exact jE;exact rfl;(focus ((repeat (first|with_reducible exact List.mem_cons_self|with_reducible assumption|with_reducible refine List.mem_cons_of_mem _ ?_));done));exact atY;exact rfl;exact rfl)|(apply kX;exact jE;exact rfl;(focus ((repeat (first|with_reducible exact List.mem_cons_self|with_reducible assumption|with_reducible refine List.mem_cons_of_mem _ ?_));done));exact atY;exact rfl;exact rfl)|(apply pE;exact jE;exact rfl;(focus ((repeat (first|with_reducible exact List.mem_cons_self|with_reducible assumption|with_reducible refine List.mem_cons_of_mem _ ?_));done));exact atY;exact rfl;exact rfl)|(apply pU;exact jE;exact rfl;(focus ((repeat (first|with_reducible exact List.mem_cons_self|with_reducible assumption|with_reducible refine List.mem_cons_of_mem _ ?_));done));exact atY;exact rfl;exact rfl)|(apply iA;exact jE;exact rfl;(focus ((repeat (first|with_reducible exact List.mem_cons_self|with_reducible assumption|with_reducible refine List.mem_cons_of_mem _ ?_));done));exact uO;exact rfl;exact rfl)|(apply fD;exact jE;exact rfl;(focus ((repeat (first|with_reducible exact List.mem_cons_self|with_reducible assumption|with_reducible refine List.mem_cons_of_mem _ ?_));done));exact uO;exact rfl;exact rfl)|(apply iU;exact jE;exact rfl;(focus ((repeat (first|with_reducible exact List.mem_cons_self|with_reducible assumption|with_reducible refine List.mem_cons_of_mem _ ?_));done));exact uO;exact rfl;exact rfl)|(apply iT;exact jE;exact rfl;(focus ((repeat (first|with_reducible exact List.mem_cons_self|with_reducible assumption|with_reducible refine List.mem_cons_of_mem _ ?_));done));exact uO;exact rfl;exact rfl))|(refine fK ?_;first|refine aC rfl (fun _=>bC rfl rfl) rfl rfl ?_|refine aC rfl (fun _=>bB rfl) rfl rfl ?_)|(refine gT ?_;first|refine lZ rfl rfl rfl qE stC rfl rfl ⟨okF,?_⟩|refine iE rfl rfl dE rQ qE qW rfl rfl ⟨okF,?_⟩)|(refine gU ?_;first|refine bK rfl ?_|refine bE rfl ?_|refine jM rfl (by omega) ?_|refine mO rfl (by omega) ?_));(repeat (first|refine aL ?_|refine dC ?_|refine jV ?_|refine gV ?_|refine dY ?_|refine dN ?_|refine gW ?_|refine eT ?_|refine eH ?_|refine eP ?_|refine jT ?_|refine jK ?_|refine jH ?_|refine jP rfl ?_|refine gG ?_|(refine fG ?_;first|refine fC rfl rfl rfl ?_|(refine fU rfl rfl ?_;refine dM rfl rfl rfl okF ?_)|refine fF rfl rfl (by omega) ?_|refine fE rfl rfl (by omega) ?_)|(refine bD ?_;refine aC rfl (fun _=>bV rfl) rfl rfl ?_)|refine aC rfl (fun _=>aM rfl) rfl rfl ?_|(refine fV ?_;first|refine aC rfl (fun _=>aR rfl rfl wF) rfl rfl ?_|refine aC rfl (fun _=>aS rfl rfl wF) rfl rfl ?_|refine aC rfl (fun _=>cZ rfl rfl wF) rfl rfl ?_|refine aC rfl (fun _=>dB rfl rfl (by omega) qF) rfl rfl ?_|refine aC rfl (fun _=>dA rfl rfl (by omega) rfl) rfl rfl ?_|refine aC rfl (fun _=>bW rfl rfl) rfl rfl ?_|refine aC rfl (fun _=>dK rfl rfl) rfl rfl ?_|refine aC rfl (fun _=>dI rfl rfl) rfl rfl ?_|refine aC rfl (fun _=>nI rfl rfl) rfl rfl ?_|refine aC rfl (fun _=>qB rfl rfl) rfl rfl ?_)|(refine bD ?_;first|refine aC rfl (fun _=>bY rfl wF) rfl rfl ?_)|(refine fQ ?_;first|refine aC rfl (fun _=>bM rfl wF) rfl rfl ?_)|(refine fO ?_;first|refine aC rfl (fun _=>aQ rfl) rfl rfl ?_|refine aC rfl (fun _=>bS rfl rfl) rfl rfl ?_|refine aC rfl (fun _=>bT rfl rfl) rfl rfl ?_|refine aC rfl (fun _=>bX rfl rfl rfl) rfl rfl ?_)|(refine fP ?_;first|refine fB rfl (by decide) rfl rfl ?_|refine iN rfl (by decide) rfl rfl ?_)|(refine fJ ?_;first|refine aC rfl (fun _=>bH rfl) rfl rfl ?_)|(refine fH ?_;first|refine iR rfl rfl gP rfl rfl ?_|refine iP jE rfl rfl gP aG iX rfl rfl ?_|refine iO jE rfl rfl gP aG iX rfl rfl ?_|refine aC rfl (fun _=>bA rfl rfl gP) rfl rfl ?_)|(refine fT ?_;first|(apply pR;exact jE;exact rfl;(focus ((repeat (first|with_reducible exact List.mem_cons_self|with_reducible assumption|with_reducible refine List.mem_cons_of_mem _ ?_));done));exact atY;exact rfl;exact rfl)|(apply kX;exact jE;exact rfl;(focus ((repeat (first|with_reducible exact List.mem_cons_self|with_reducible assumption|with_reducible refine List.mem_cons_of_mem _ ?_));done));exact atY;exact rfl;exact rfl)|(apply pE;exact jE;exact rfl;(focus ((repeat (first|with_reducible exact List.mem_cons_self|with_reducible assumption|with_reducible refine List.mem_cons_of_mem _ ?_));done));exact atY;exact rfl;exact rfl)|(apply pU;exact jE;exact rfl;(focus ((repeat (first|with_reducible exact List.mem_cons_self|with_reducible assumption|with_reducible refine List.mem_cons_of_mem _ ?_));done));exact atY;exact rfl;exact rfl)|(apply iA;exact jE;exact rfl;(focus ((repeat (first|with_reducible exact List.mem_cons_self|with_reducible assumption|with_reducible refine List.mem_cons_of_mem _ ?_));done));exact uO;exact rfl;exact rfl)|(apply fD;exact jE;exact rfl;(focus ((repeat (first|with_reducible exact List.mem_cons_self|with_reducible assumption|with_reducible refine List.mem_cons_of_mem _ ?_));done));exact uO;exact rfl;exact rfl)|(apply iU;exact jE;exact rfl;(focus ((repeat (first|with_reducible exact List.mem_cons_self|with_reducible assumption|with_reducible refine List.mem_cons_of_mem _ ?_));done));exact uO;exact rfl;exact rfl)|(apply iT;exact jE;exact rfl;(focus ((repeat (first|with_reducible exact List.mem_cons_self|with_reducible assumption|with_reducible refine List.mem_cons_of_mem _ ?_));done));exact uO;exact rfl;exact rfl))|(refine fK ?_;first|refine aC rfl (fun _=>bC rfl rfl) rfl rfl ?_|refine aC rfl (fun _=>bB rfl) rfl rfl ?_)|(refine gT ?_;first|refine lZ rfl rfl rfl qE stC rfl rfl ⟨okF,?_⟩|refine iE rfl rfl dE rQ qE qW rfl rfl ⟨okF,?_⟩)|(refine gU ?_;first|refine bK rfl ?_|refine bE rfl ?_|refine jM rfl (by omega) ?_|refine mO rfl (by omega) ?_)));exact hh.out)):p:=w ⟨h⟩
theorem yXh {p g:Prop} (h:g) (w:BoxP g→p:=by (intro hh;(first|refine aL ?_|refine dC ?_|refine jV ?_|refine gV ?_|refine dY ?_|refine dN ?_|refine gW ?_|refine eT ?_|refine eH ?_|refine eP ?_|refine jT ?_|refine jK ?_|refine jH ?_|refine jP rfl ?_|refine gG ?_|(refine fG ?_;first|refine fC rfl rfl rfl ?_|(refine fU rfl rfl ?_;refine dM rfl rfl rfl okF ?_)|refine fF rfl rfl (by omega) ?_|refine fE rfl rfl (by omega) ?_)|(refine bD ?_;refine aC rfl (fun _=>bV rfl) rfl rfl ?_)|refine aC rfl (fun _=>aM rfl) rfl rfl ?_|(refine fV ?_;first|refine aC rfl (fun _=>aR rfl rfl wF) rfl rfl ?_|refine aC rfl (fun _=>aS rfl rfl wF) rfl rfl ?_|refine aC rfl (fun _=>cZ rfl rfl wF) rfl rfl ?_|refine aC rfl (fun _=>dB rfl rfl (by omega) qF) rfl rfl ?_|refine aC rfl (fun _=>dA rfl rfl (by omega) rfl) rfl rfl ?_|refine aC rfl (fun _=>bW rfl rfl) rfl rfl ?_|refine aC rfl (fun _=>dK rfl rfl) rfl rfl ?_|refine aC rfl (fun _=>dI rfl rfl) rfl rfl ?_|refine aC rfl (fun _=>nI rfl rfl) rfl rfl ?_|refine aC rfl (fun _=>qB rfl rfl) rfl rfl ?_)|(refine bD ?_;first|refine aC rfl (fun _=>bY rfl wF) rfl rfl ?_)|(refine fQ ?_;first|refine aC rfl (fun _=>bM rfl wF) rfl rfl ?_)|(refine fO ?_;first|refine aC rfl (fun _=>aQ rfl) rfl rfl ?_|refine aC rfl (fun _=>bS rfl rfl) rfl rfl ?_|refine aC rfl (fun _=>bT rfl rfl) rfl rfl ?_|refine aC rfl (fun _=>bX rfl rfl rfl) rfl rfl ?_)|(refine fP ?_;first|refine fB rfl (by decide) rfl rfl ?_|refine iN rfl (by decide) rfl rfl ?_)|(refine fJ ?_;first|refine aC rfl (fun _=>bH rfl) rfl rfl ?_)|(refine fH ?_;first|refine iR rfl rfl gP rfl rfl ?_|refine iP jE rfl rfl gP aG iX rfl rfl ?_|refine iO jE rfl rfl gP aG iX rfl rfl ?_|refine aC rfl (fun _=>bA rfl rfl gP) rfl rfl ?_)|(refine fT ?_;first|(apply pR;exact jE;exact rfl;(focus ((repeat (first|with_reducible exact List.mem_cons_self|with_reducible assumption|with_reducible refine List.mem_cons_of_mem _ ?_));done));exact atY;exact rfl;exact rfl)|(apply kX;exact jE;exact rfl;(focus ((repeat (first|with_reducible exact List.mem_cons_self|with_reducible assumption|with_reducible refine List.mem_cons_of_mem _ ?_));done));exact atY;exact rfl;exact rfl)|(apply pE;exact jE;exact rfl;(focus ((repeat (first|with_reducible exact List.mem_cons_self|with_reducible assumption|with_reducible refine List.mem_cons_of_mem _ ?_));done));exact atY;exact rfl;exact rfl)|(apply pU;exact jE;exact rfl;(focus ((repeat (first|with_reducible exact List.mem_cons_self|with_reducible assumption|with_reducible refine List.mem_cons_of_mem _ ?_));done));exact atY;exact rfl;exact rfl)|(apply iA;exact jE;exact rfl;(focus ((repeat (first|with_reducible exact List.mem_cons_self|with_reducible assumption|with_reducible refine List.mem_cons_of_mem _ ?_));done));exact uO;exact rfl;exact rfl)|(apply fD;exact jE;exact rfl;(focus ((repeat (first|with_reducible exact List.mem_cons_self|with_reducible assumption|with_reducible refine List.mem_cons_of_mem _ ?_));done));exact uO;exact rfl;exact rfl)|(apply iU;exact jE;exact rfl;(focus ((repeat (first|with_reducible exact List.mem_cons_self|with_reducible assumption|with_reducible refine List.mem_cons_of_mem _ ?_));done));exact uO;exact rfl;exact rfl)|(apply iT;exact jE;exact rfl;(focus ((repeat (first|with_reducible exact List.mem_cons_self|with_reducible assumption|with_reducible refine List.mem_cons_of_mem _ ?_));done));exact uO;exact rfl;exact rfl))|(refine fK ?_;first|refine aC rfl (fun _=>bC rfl rfl) rfl rfl ?_|refine aC rfl (fun _=>bB rfl) rfl rfl ?_)|(refine gU ?_;first|refine bK rfl ?_|refine bE rfl ?_|refine jM rfl (by omega) ?_|refine mO rfl (by omega) ?_));(repeat (first|refine aL ?_|refine dC ?_|refine jV ?_|refine gV ?_|refine dY ?_|refine dN ?_|refine gW ?_|refine eT ?_|refine eH ?_|refine eP ?_|refine jT ?_|refine jK ?_|refine jH ?_|refine jP rfl ?_|refine gG ?_|(refine fG ?_;first|refine fC rfl rfl rfl ?_|(refine fU rfl rfl ?_;refine dM rfl rfl rfl okF ?_)|refine fF rfl rfl (by omega) ?_|refine fE rfl rfl (by omega) ?_)|(refine bD ?_;refine aC rfl (fun _=>bV rfl) rfl rfl ?_)|refine aC rfl (fun _=>aM rfl) rfl rfl ?_|(refine fV ?_;first|refine aC rfl (fun _=>aR rfl rfl wF) rfl rfl ?_|refine aC rfl (fun _=>aS rfl rfl wF) rfl rfl ?_|refine aC rfl (fun _=>cZ rfl rfl wF) rfl rfl ?_|refine aC rfl (fun _=>dB rfl rfl (by omega) qF) rfl rfl ?_|refine aC rfl (fun _=>dA rfl rfl (by omega) rfl) rfl rfl ?_|refine aC rfl (fun _=>bW rfl rfl) rfl rfl ?_|refine aC rfl (fun _=>dK rfl rfl) rfl rfl ?_|refine aC rfl (fun _=>dI rfl rfl) rfl rfl ?_|refine aC rfl (fun _=>nI rfl rfl) rfl rfl ?_|refine aC rfl (fun _=>qB rfl rfl) rfl rfl ?_)|(refine bD ?_;first|refine aC rfl (fun _=>bY rfl wF) rfl rfl ?_)|(refine fQ ?_;first|refine aC rfl (fun _=>bM rfl wF) rfl rfl ?_)|(refine fO ?_;first|refine aC rfl (fun _=>aQ rfl) rfl rfl ?_|refine aC rfl (fun _=>bS rfl rfl) rfl rfl ?_|refine aC rfl (fun _=>bT rfl rfl) rfl rfl ?_|refine aC rfl (fun _=>bX rfl rfl rfl) rfl rfl ?_)|(refine fP ?_;first|refine fB rfl (by decide) rfl rfl ?_|refine iN rfl (by decide) rfl rfl ?_)|(refine fJ ?_;first|refine aC rfl (fun _=>bH rfl) rfl rfl ?_)|(refine fH ?_;first|refine iR rfl rfl gP rfl rfl ?_|refine iP jE rfl rfl gP aG iX rfl rfl ?_|refine iO jE rfl rfl gP aG iX rfl rfl ?_|refine aC rfl (fun _=>bA rfl rfl gP) rfl rfl ?_)|(refine fT ?_;first|(apply pR;exact jE;exact rfl;(focus ((repeat (first|with_reducible exact List.mem_cons_self|with_reducible assumption|with_reducible refine List.mem_cons_of_mem _ ?_));done));exact atY;exact rfl;exact rfl)|(apply kX;exact jE;exact rfl;(focus ((repeat (first|with_reducible exact List.mem_cons_self|with_reducible assumption|with_reducible refine List.mem_cons_of_mem _ ?_));done));exact atY;exact rfl;exact rfl)|(apply pE;exact jE;exact rfl;(focus ((repeat (first|with_reducible exact List.mem_cons_self|with_reducible assumption|with_reducible refine List.mem_cons_of_mem _ ?_));done));exact atY;exact rfl;exact rfl)|(apply pU;exact jE;exact rfl;(focus ((repeat (first|with_reducible exact List.mem_cons_self|with_reducible assumption|with_reducible refine List.mem_cons_of_mem _ ?_));done));exact atY;exact rfl;exact rfl)|(apply iA;exact jE;exact rfl;(focus ((repeat (first|with_reducible exact List.mem_cons_self|with_reducible assumption|with_reducible refine List.mem_cons_of_mem _ ?_));done));exact uO;exact rfl;exact rfl)|(apply fD;exact jE;exact rfl;(focus ((repeat (first|with_reducible exact List.mem_cons_self|with_reducible assumption|with_reducible refine List.mem_cons_of_mem _ ?_));done));exact uO;exact rfl;exact rfl)|(apply iU;exact jE;exact rfl;(focus ((repeat (first|with_reducible exact List.mem_cons_self|with_reducible assumption|with_reducible refine List.mem_cons_of_mem _ ?_));done));exact uO;exact rfl;exact rfl)|(apply iT;exact jE;exact rfl;(focus ((repeat (first|with_reducible exact List.mem_cons_self|with_reducible assumption|with_reducible refine List.mem_cons_of_mem _ ?_));done));exact uO;exact rfl;exact rfl))|(refine fK ?_;first|refine aC rfl (fun _=>bC rfl rfl) rfl rfl ?_|refine aC rfl (fun _=>bB rfl) rfl rfl ?_)|(refine gU ?_;first|refine bK rfl ?_|refine bE rfl ?_|refine jM rfl (by omega) ?_|refine mO rfl (by omega) ?_)));exact hh.out)):p:=w ⟨h⟩
end Go.Fx
namespace Go.Proofs.Ytejbgkajdomgcaa
open Go Go.Fx
structure ZE where
 z:Int
 p:Option Addr
 c:Nat
instance ZE.inh:Inhabited ZE:=⟨⟨0,none,0⟩⟩
abbrev eN (e:ZE):List Value:=[.bool (B (e.z < 0)), .slice e.p (gr e.z.natAbs).length e.c]
abbrev nv (e:ZE):Value:= .agg #[.bool (B (e.z < 0)), .slice e.p (gr e.z.natAbs).length e.c]
abbrev zN:List Value:=[.bool false, .slice none 0 0]
instance ZE.szd:Sized eN 2:=⟨fun _=>rfl⟩
instance ZE.ones:Ones eN:=⟨fun m u hu=>by
 simp only [eN,List.mem_cons,List.not_mem_nil,or_false] at hu
 rcases hu with rfl|rfl <;>rfl⟩
abbrev isN (e:ZE) (k:Nat):aO:=qR (nv e) e.z k
def NQ (z:Int) (k:Nat) (M0:List Ent) (I0:List aO) (v:Value) (M:List Ent) (I:List aO):Prop:=M0=M∧∃e:ZE,v=nv e∧e.z=z∧I=isN e k::I0
/- rotations -/
abbrev eQ (q:Qn):List Value:=[.int .i64 q.a, .int .i64 q.b, .int .i64 q.c, .int .i64 q.d]
abbrev qv (q:Qn):Value:= .agg #[.int .i64 q.a, .int .i64 q.b, .int .i64 q.c, .int .i64 q.d]
abbrev zQ:List Value:=[.int .i64 0, .int .i64 0, .int .i64 0, .int .i64 0]
instance Qn.szd:Sized eQ 4:=⟨fun _=>rfl⟩
instance Qn.ones:Ones eQ:=⟨fun m u hu=>by
 simp only [eQ,List.mem_cons,List.not_mem_nil,or_false] at hu
 rcases hu with rfl|rfl|rfl|rfl <;>rfl⟩
def iQ (q:Qn):List Int:=[q.a,q.b,q.c,q.d]
theorem aIM:∀u v:Qn,iQ u=iQ v→u=v:=fun u v h=>by
 injection h with h1 h;injection h with h2 h;injection h with h3 h;injection h with h4 _
 exact Qn.ext4 h1 h2 h3 h4
abbrev Qn.fit (q:Qn):Prop:=(q.a.natAbs≤1048576∧q.b.natAbs≤1048576)∧q.c.natAbs≤1048576∧q.d.natAbs≤1048576
def gN (q:Qn):Int:=if q=Qn.zero then 1 else if q.fit then 0 else 3
theorem oO {q:Qn} (h:q.nz) (hf:q.fit):gN q=0:=by unfold gN;rw [if_neg h,if_pos hf]
theorem aLA {q:Qn} (h:gN q=0):q.nz∧q.fit:=by
 unfold gN at h
 by_cases h1:q=Qn.zero
 ·rw [if_pos h1] at h;exact absurd h (by decide)
 ·rw [if_neg h1] at h
  by_cases h2:q.fit
  ·exact ⟨h1,h2⟩
  ·rw [if_neg h2] at h;exact absurd h (by decide)
theorem zA {q:Qn}:(∀j:Nat,j < 4→(gt (iQ q) j).natAbs≤1048576)↔q.fit:=by
 constructor
 ·intro h;exact ⟨⟨h 0 (by decide),h 1 (by decide)⟩,h 2 (by decide),h 3 (by decide)⟩
 ·rintro ⟨⟨h1,h2⟩,h3,h4⟩ j hj
  obtain rfl|rfl|rfl|rfl:j=0∨j=1∨j=2∨j=3:=by omega
  ·exact h1
  ·exact h2
  ·exact h3
  ·exact h4
theorem iQ_at (q:Qn) {i:Nat} (h:i < 4):(eQ q)[((i:Nat):Int).toNat]?=some (.int .i64 (gt (iQ q) i)):=by
 obtain rfl|rfl|rfl|rfl:i=0∨i=1∨i=2∨i=3:=by omega
 all_goals rfl
section
variable {X:List Nat} {w0:World} {M0:List Ent} {I0:List aO}
theorem CD.nq {f:FuncId} {vs:List Value} {z:Int} {k:Nat} (h:CD Try.prog f vs X w0 M0 I0 (fun v M I=>M0=M∧I=qR v z k::I0)):CD Try.prog f vs X w0 M0 I0 (NQ z k M0 I0):=
 h.post (fun v M I w h hw=>by
  obtain ⟨rfl,rfl⟩:=h
  have hi:IsI v z k (muts M0) w:=(hw.imm _ (List.Mem.head _)).2
  obtain ⟨q,c,rfl,_⟩:=hi.ex
  exact ⟨M0,_,⟨rfl,⟨z,q,c⟩,rfl,rfl,rfl⟩,hw⟩)
theorem NOf {x:Int} (hx: -9223372036854775808≤x∧x≤9223372036854775807):CD Try.prog 52 [.int .i64 x] X w0 M0 I0 (NQ x 63 M0 I0):=CD.nq (aPI hx)
theorem aGD {q:Qn}:CD Try.prog 27 [qv q] X w0 M0 I0 (fun v M I=>M0=M∧I0=I∧v=qv q):=by
 refine eZ Try.func27 rfl Try.ntmps27 rfl ?_
 refine lU ?_
 refine rF rfl (fun b=>?_)
 refine aF (cs:=eQ q) .here ?_
 refine iL (fun b2=>?_)
 repeat refine aD ?_
 (refine aC rfl (fun _=>uY (vals:=eQ q) (cells:=eQ q) rfl ?hpl rfl ?hz) rfl rfl ?_;(case hpl=>exact (by intro v hv;repeat (first|exact absurd hv (List.not_mem_nil)|(rcases List.mem_cons.1 hv with rfl|hv; · rfl))));(case hz=>rfl))
 repeat refine aD ?_
 refine kT (cs:=eQ q) (.inl rfl) rfl rfl aG rfl M0 I0 bN bR ⟨rfl,rfl,rfl⟩
theorem qD {q:Qn}:CD Try.prog 14 [qv q] X w0 M0 I0 (fun v M I=>M0=M∧I0=I∧v= .int .i64 (gN q)):=by
 refine eZ Try.func14 rfl Try.ntmps14 rfl ?_
 refine lU ?_
 refine rF rfl (fun b=>?_)
 refine aF (cs:=eQ q) .here ?_
 repeat refine aD ?_
 (refine aC rfl (fun _=>aZ (pvs:=([]).zipIdx.map (fun p=>(p.2,p.1))) (cells:=zQ) rfl rfl) rfl rfl ?_)
 refine aC rfl (fun _=>xD (enc:=eQ) (ints:=iQ) (a:=q) (b:=Qn.zero) (fun _=>rfl) aIM (fun _=>rfl) inferInstance rfl rfl) rfl rfl ?_
 by_cases h0:q=Qn.zero
 ·have hc:gN q=1:=by unfold gN;rw [if_pos h0]
  repeat refine aD ?_
  refine lL rfl rfl (⟨rfl,rfl,congrArg _ hc.symm⟩)
 repeat refine aD ?_
 refine iM rfl (aGD) ?_
 repeat refine aD ?_
 refine qU [9] rfl (fun k G M I=>∃i:Nat,i≤4∧k=4 - i∧(∀j:Nat,j < i→(gt (iQ q) j).natAbs≤1048576)∧G=[(10, .int .i64 i)]∧M0=M∧I0=I) (4) (⟨0,by omega,rfl,fun j hj=>by omega,rfl,rfl,rfl⟩) ?_
 rintro kk G M I ⟨i,hi,rfl,hs,rfl,rfl,rfl⟩
 by_cases him:i < 4
 ·have hv:=iQ_at q him
  generalize hg:gt (iQ q) (i:Int)=g at hv
  have hno:¬g.natAbs≤1048576→gN q=3:=fun h=>by
   unfold gN
   rw [if_neg h0,if_neg (fun hf=>h (by rw [←hg];exact zA.2 hf i him))]
  repeat refine aD ?_
  (refine aC rfl (fun _=>zR (cs:=eQ q) rfl rfl ⟨by omega,by show (i:Int) < ((4:Nat):Int);omega⟩ rfl hv) rfl rfl ?_)
  by_cases h1:g < -1048576
  ·repeat refine aD ?_
   refine lL rfl rfl (⟨rfl,rfl,congrArg _ (hno (by omega)).symm⟩)
  by_cases h2:1048576 < g
  ·repeat refine aD ?_
   refine lL rfl rfl (⟨rfl,rfl,congrArg _ (hno (by omega)).symm⟩)
  repeat refine aD ?_
  refine mI (4 - (i+1)) (⟨i+1,by omega,rfl,fun j hj=>?_,rfl,rfl,rfl⟩)
  by_cases e:j=i
  ·subst e;omega
  ·exact hs j (by omega)
 ·obtain rfl:i=4:=by omega
  have hc:gN q=0:=oO h0 (zA.1 hs)
  repeat refine aD ?_
  refine lL rfl rfl (⟨rfl,rfl,congrArg _ hc.symm⟩)
def lD:List Qn→Int
 |[]=>0
 |q::l=>if gN q=0 then lD l else gN q
theorem wL:∀{l:List Qn},(∀j:Nat,j < l.length→gN (gt l j)=0)→lD l=0
 |[],_=>rfl
 |q::l,h=>by
  have h0:gN q=0:=h 0 (by simp)
  unfold lD
  rw [if_pos h0]
  exact wL (fun j hj=>h (j+1) (by simp;omega))
theorem yD:∀{l:List Qn} {i:Nat},i < l.length→(∀j:Nat,j < i→gN (gt l j)=0)→gN (gt l i)≠0→lD l=gN (gt l i)
 |q::l,0,_,_,hn=>by
  unfold lD
  exact if_neg hn
 |q::l,i+1,hi,h,hn=>by
  have h0:gN q=0:=h 0 (by omega)
  unfold lD
  rw [if_pos h0]
  exact yD (l:=l) (i:=i) (by simpa using hi) (fun j hj=>h (j+1) (by omega)) hn
theorem aBS {p:Option Addr} {c m:Nat} {l:List Qn} (hl:l.length=m) (hm:(m:Int)≤9223372036854775807) (hp:aN p (recs eQ l)∈I0):CD Try.prog 50 [.slice p m c] X w0 M0 I0 (fun v M I=>M0=M∧I0=I∧v= .int .i64 (lD l)):=by
 have hC:=fun (q:Qn) M0 I0=>qD (X:=X) (w0:=w0) (M0:=M0) (I0:=I0) (q:=q)
 refine eZ Try.func50 rfl Try.ntmps50 rfl ?_
 refine lU ?_
 repeat refine aD ?_
 refine qU [6,7] rfl (fun k G M I=>∃i:Nat,i≤m∧k=m - i∧(∀j:Nat,j < i→gN (gt l j)=0)∧G=[(8, .int .i64 i)]∧M0=M∧I0=I) (m) (⟨0,by omega,rfl,fun j hj=>by omega,rfl,rfl,rfl⟩) ?_
 rintro kk G M I ⟨i,hi,rfl,hs,rfl,rfl,rfl⟩
 by_cases him:i < m
 ·repeat refine aD ?_
  refine iL (fun b4=>?_)
  repeat refine aD ?_
  refine aF (cs:=eQ (gt l i)) .here ?_
  refine iM rfl (hC (gt l i) _ _) ?_
  by_cases hz:gN (gt l (i:Int))=0
  ·rw [hz]
   repeat refine aD ?_
   refine mI (m - (i+1)) (⟨i+1,by omega,rfl,fun j hj=>?_,rfl,rfl,rfl⟩)
   by_cases e:j=i
   ·subst e;exact hz
   ·exact hs j (by omega)
  ·have hc:=yD (by omega) hs hz
   generalize gN (gt l (i:Int))=z at hz hc
   repeat refine aD ?_
   refine lL rfl rfl (⟨rfl,rfl,congrArg _ hc.symm⟩)
 ·obtain rfl:i=m:=by omega
  have hc:lD l=0:=wL (fun j hj=>hs j (by omega))
  repeat refine aD ?_
  refine lL rfl rfl (⟨rfl,rfl,congrArg _ hc.symm⟩)
end
end Go.Proofs.Ytejbgkajdomgcaa
namespace Go.Fx
section
variable {P:Program} {ops:Array Oper} {Q:Exit→Act→World→Prop} {Cs Cs':Nat→World→Prop}
end
section
variable {P:Program} {n:Nat} {Q:Exit→Act→World→Prop} {G:Env} {X:List Nat} {w0:World} {M M1 M2:List Ent} {I I1 I2:List aO} {l:List Oper}
end
section
variable {P:Program} {n:Nat} {ops l:List Oper} {Q:Exit→Act→World→Prop} {m:Mode} {G:Env} {ty:TypeId} {pos:String} {af:Array Edge} {g:Option (Nat × Bool)} {X:List Nat} {w0:World} {M M':List Ent} {I:List aO}
/- a store into a row that may still grow -/
end
theorem nH {P:Program} {ops:Array Oper} {Q1 Q2:Exit→Act→World→Prop} (h:∀a w,Q1 .normal a w→Q2 .normal a w):∀(r:List Oper) (m:Mode) (a:Act) (w:World),wpM P ops Q1 m r a w→wpM P ops Q2 m r a w
 |[],_,a,w,hh=>h a w hh
 |o::r,m,a,w,hh=>⟨fun hw=>(hh.1 hw).imp (fun ⟨h1,v,h2,h3⟩=>⟨h1,v,h2,nH h r _ _ _ h3⟩) (fun ⟨h1,h2⟩=>⟨h1,Oper.wp_mono (fun a w ⟨x,y⟩=>⟨x,nH h r _ _ _ y⟩) h2⟩),fun hw=>⟨(hh.2 hw).1,nH h r _ _ _ (hh.2 hw).2⟩⟩
section
variable {P:Program} {n:Nat} {ops l:List Oper} {Q Q' Q1 Q2:Exit→Act→World→Prop} {m:Mode} {G:Env} {X:List Nat} {w0:World} {M M':List Ent} {I:List aO}
/- a cut from within a region that a test follows -/
theorem aES {c y:Code} (J:Env→List Ent→List aO→Prop) (h:RD P n ops (Then (c.wp P (Then (aFT n J X w0) Q1)) Q2) m l G X w0 M I) (k:∀G' M' I',J G' M' I'→TD P n y Q' G' X w0 M' I'):RD P n ops (Then (c.wp P (Then (y.wp P Q') Q1)) Q2) m l G X w0 M I:=
 ⟨fun w hw=>⟨fun a ha=>nH (fun a w q=>by
  unfold Then at q ⊢
  refine Code.wp_mono (fun e a w q=>?_) q
  cases e <;>first|exact q|(obtain ⟨G',⟨M',I',hJ,hm⟩,hh⟩:=q;exact ((k G' M' I' hJ).go w hm).go a hh)) l m a w ((h.go w hw).go a ha)⟩⟩
end
end Go.Fx
namespace Go.Proofs.Ytejbgkajdomgcaa
open Go Go.Fx
def CsT (K:Nat) (X:List Nat) (w0:World) (M1 M2:List Ent) (I1:List aO):Nat→World→Prop:=fun s w=>Mem X w0 M2 I1 w∧(s≤K→Mem X w0 M1 I1 w)
section
variable {P:Program} {n:Nat} {Q:Exit→Act→World→Prop} {G:Env} {X:List Nat} {w0:World} {M M1 M2:List Ent} {I I1:List aO} {l:List Oper} {K:Nat}
end
section
variable {P:Program} {n:Nat} {Q Q':Exit→Act→World→Prop} {G:Env} {X:List Nat} {w0:World} {M:List Ent} {I:List aO}
/- a cut from within a block -/
end
end Go.Proofs.Ytejbgkajdomgcaa
namespace Go.Fx
section
variable {α:Type} (key:α→Int)
def mg:List α→List α→List α
 |[],ys=>ys
 |x::xs,[]=>x::xs
 |x::xs,y::ys=>if key x≤key y then x::mg xs (y::ys) else y::mg (x::xs) ys
termination_by xs ys=>xs.length+ys.length
theorem lX (xs:List α):mg key xs []=xs:=by cases xs <;>simp [mg]
theorem kC (xs:List α):mg key [] xs=xs:=by simp [mg]
theorem bP (x:α) (xs:List α) (y:α) (ys:List α):mg key (x::xs) (y::ys)=if key x≤key y then x::mg key xs (y::ys) else y::mg key (x::xs) ys:=by
 rw [mg]
theorem zU:∀(xs ys:List α),(mg key xs ys).length=xs.length+ys.length
 |[],ys=>by simp [mg]
 |x::xs,[]=>by simp [mg]
 |x::xs,y::ys=>by
  rw [bP]
  split
  ·simp [zU xs (y::ys)];omega
  ·simp [zU (x::xs) ys];omega
termination_by xs ys=>xs.length+ys.length
theorem vM:∀(xs ys:List α) (z:α),z∈mg key xs ys↔z∈xs∨z∈ys
 |[],ys,z=>by simp [mg]
 |x::xs,[],z=>by simp [mg]
 |x::xs,y::ys,z=>by
  rw [bP]
  split
  ·simp only [List.mem_cons,vM xs (y::ys) z]
   constructor
   ·rintro (h|h|h|h) <;>simp [h]
   ·rintro ((h|h)|h|h) <;>simp [h]
  ·simp only [List.mem_cons,vM (x::xs) ys z]
   constructor
   ·rintro (h|(h|h)|h) <;>simp [h]
   ·rintro ((h|h)|h|h) <;>simp [h]
termination_by xs ys=>xs.length+ys.length
theorem jO:∀(X1 Y1 X2 Y2:List α),(∀x∈X1,∀y∈Y2,key x≤key y)→(∀y∈Y1,∀x∈X2,key y < key x)→mg key (X1++X2) (Y1++Y2)=mg key X1 Y1++mg key X2 Y2
 |[],[],X2,Y2,_,_=>by simp [kC]
 |[],y::Y1,[],Y2,_,_=>by simp [kC]
 |[],y::Y1,x::X2,Y2,h1,h2=>by
  have h:=h2 y (by simp) x (by simp)
  have ih:=jO [] Y1 (x::X2) Y2 (by simp) (fun y' hy=>h2 y' (by simp [hy]))
  simp only [List.nil_append,kC] at ih ⊢
  rw [List.cons_append,bP,if_neg (by omega),ih]
  rfl
 |x::X1,[],X2,[],_,_=>by simp [lX]
 |x::X1,[],X2,y::Y2,h1,h2=>by
  have h:=h1 x (by simp) y (by simp)
  have ih:=jO X1 [] X2 (y::Y2) (fun x' hx=>h1 x' (by simp [hx])) (by simp)
  simp only [List.nil_append,lX] at ih ⊢
  rw [List.cons_append,bP,if_pos h,ih]
  rfl
 |x::X1,y::Y1,X2,Y2,h1,h2=>by
  rw [List.cons_append,List.cons_append,bP,bP]
  split
  ·have ih:=jO X1 (y::Y1) X2 Y2 (fun x' hx=>h1 x' (by simp [hx])) h2
   rw [←List.cons_append,ih]
   rfl
  ·have ih:=jO (x::X1) Y1 X2 Y2 h1 (fun y' hy=>h2 y' (by simp [hy]))
   rw [←List.cons_append,ih]
   rfl
termination_by X1 Y1=>X1.length+Y1.length
theorem nE:∀(X Y Z:List α),mg key (mg key X Y) Z=mg key X (mg key Y Z)
 |[],Y,Z=>by simp [kC]
 |x::X,[],Z=>by simp [lX,kC]
 |x::X,y::Y,[]=>by simp [lX]
 |x::X,y::Y,z::Z=>by
  by_cases hxy:key x≤key y
  ·by_cases hyz:key y≤key z
   ·have ih:=nE X (y::Y) (z::Z)
    rw [bP key x X y Y,if_pos hxy,bP,if_pos (by omega),ih,bP key y Y z Z,if_pos hyz,bP,if_pos hxy]
   ·by_cases hxz:key x≤key z
    ·have ih:=nE X (y::Y) (z::Z)
     rw [bP key x X y Y,if_pos hxy,bP,if_pos hxz,ih,bP key y Y z Z,if_neg hyz,bP,if_pos hxz]
    ·have ih:=nE (x::X) (y::Y) Z
     rw [bP key x X y Y,if_pos hxy] at ih ⊢
     rw [bP,if_neg hxz,ih,bP key y Y z Z,if_neg hyz,bP,if_neg hxz]
  ·by_cases hyz:key y≤key z
   ·have ih:=nE (x::X) Y (z::Z)
    rw [bP key x X y Y,if_neg hxy,bP,if_pos hyz,ih,bP key y Y z Z,if_pos hyz,bP,if_neg hxy]
   ·have ih:=nE (x::X) (y::Y) Z
    rw [bP key x X y Y,if_neg hxy] at ih ⊢
    rw [bP,if_neg hyz,ih,bP key y Y z Z,if_neg hyz,bP,if_neg (by omega)]
termination_by X Y Z=>X.length+Y.length+Z.length
def Asc (l:List α):Prop:=l.Pairwise (fun a b=>key a≤key b)
theorem Asc.mg:∀{X Y:List α},Asc key X→Asc key Y→Asc key (mg key X Y)
 |[],Y,_,hY=>by simpa [kC] using hY
 |x::X,[],hX,_=>by simpa [lX] using hX
 |x::X,y::Y,hX,hY=>by
  have hX':=List.pairwise_cons.1 hX
  have hY':=List.pairwise_cons.1 hY
  rw [bP]
  split
  ·refine List.pairwise_cons.2 ⟨fun z hz=>?_,Asc.mg hX'.2 hY⟩
   rcases (vM key _ _ _).1 hz with hz|hz
   ·exact hX'.1 z hz
   ·rcases List.mem_cons.1 hz with rfl|hz
    ·assumption
    ·have:=hY'.1 z hz;omega
  ·refine List.pairwise_cons.2 ⟨fun z hz=>?_,Asc.mg hX hY'.2⟩
   rcases (vM key _ _ _).1 hz with hz|hz
   ·rcases List.mem_cons.1 hz with rfl|hz
    ·omega
    ·have:=hX'.1 z hz;omega
   ·exact hY'.1 z hz
termination_by X Y=>X.length+Y.length
def jG (l:List α):List α:=l.foldl (fun acc x=>mg key acc [x]) []
theorem qY:jG key ([]:List α)=[]:=rfl
theorem kW (l:List α) (x:α):jG key (l++[x])=mg key (jG key l) [x]:=by simp [jG,List.foldl_append]
theorem wJ (A:List α):∀(n:Nat) (B:List α),B.length=n→jG key (A++B)=mg key (jG key A) (jG key B)
 |0,B,hB=>by
  have:B=[]:=List.eq_nil_of_length_eq_zero hB
  subst this
  simp [qY,lX]
 |n+1,B,hB=>by
  have hne:B≠[]:=by intro h;subst h;simp at hB
  obtain ⟨B',x,rfl⟩:∃B' x,B=B'++[x]:=⟨B.dropLast,B.getLast hne,(List.dropLast_concat_getLast hne).symm⟩
  rw [←List.append_assoc,kW,kW,wJ A n B' (by simpa using hB),nE]
theorem sO:∀(n:Nat) (l:List α),l.length=n→Asc key (jG key l)∧(jG key l).length=l.length
 |0,l,h=>by
  have:l=[]:=List.eq_nil_of_length_eq_zero h
  subst this
  exact ⟨List.Pairwise.nil,rfl⟩
 |n+1,l,h=>by
  have hne:l≠[]:=by intro e;subst e;simp at h
  obtain ⟨B',x,rfl⟩:∃B' x,l=B'++[x]:=⟨l.dropLast,l.getLast hne,(List.dropLast_concat_getLast hne).symm⟩
  have ih:=sO n B' (by simpa using h)
  rw [kW]
  exact ⟨Asc.mg key ih.1 (List.pairwise_singleton _ _),by rw [zU,ih.2];simp⟩
theorem pW (l:List α):Asc key (jG key l):=(sO key _ l rfl).1
theorem mR (l:List α):(jG key l).length=l.length:=(sO key _ l rfl).2
theorem kR (z:α):∀(n:Nat) (l:List α),l.length=n→(z∈jG key l↔z∈l)
 |0,l,h=>by
  have:l=[]:=List.eq_nil_of_length_eq_zero h
  subst this
  simp [qY]
 |n+1,l,h=>by
  have hne:l≠[]:=by intro e;subst e;simp at h
  obtain ⟨B',x,rfl⟩:∃B' x,l=B'++[x]:=⟨l.dropLast,l.getLast hne,(List.dropLast_concat_getLast hne).symm⟩
  rw [kW,vM,kR z n B' (by simpa using h)]
  simp
theorem wG {P1 P2:List α} {x:α} (h1:∀y∈P1,key y≤key x) (h2:∀y∈P2,key x < key y):mg key (P1++P2) [x]=P1++x::P2:=by
 have:=jO key P1 [] P2 [x] (fun a ha b hb=>by simp at hb;subst hb;exact h1 a ha) (by simp)
 simp only [List.nil_append,lX] at this
 rw [this]
 congr 1
 have:=jO key [] [x] P2 [] (by simp) (fun y hy a ha=>by simp at hy;subst hy;exact h2 a ha)
 simpa [kC,lX] using this
theorem aOD {P1 P2:List α} {x:α} (h1:∀y∈P1,key y < key x) (h2:∀y∈P2,key x≤key y):mg key [x] (P1++P2)=P1++x::P2:=by
 have:=jO key [] P1 [x] P2 (by simp) (fun y hy a ha=>by simp at ha;subst ha;exact h1 y hy)
 simp only [List.nil_append,kC] at this
 rw [this]
 congr 1
 have:=jO key [x] [] [] P2 (fun a ha b hb=>by simp at ha;subst ha;exact h2 b hb) (by simp)
 simpa [kC,lX] using this
theorem Asc.left {A B:List α} (h:Asc key (A++B)):Asc key A:=(List.pairwise_append.1 h).1
theorem Asc.right {A B:List α} (h:Asc key (A++B)):Asc key B:=(List.pairwise_append.1 h).2.1
theorem Asc.cross {A B:List α} (h:Asc key (A++B)):∀a∈A,∀b∈B,key a≤key b:=(List.pairwise_append.1 h).2.2
theorem Asc.at [Inhabited α] {l:List α} (h:Asc key l) {i j:Nat} (hij:i≤j) (hj:j < l.length):key (gt l (i:Int))≤key (gt l (j:Int)):=by
 rw [aP hj,aP (show i < l.length by omega)]
 by_cases e:i=j
 ·subst e;exact Int.le_refl _
 ·exact List.pairwise_iff_getElem.1 h i j _ _ (by omega)
/- parts -/
theorem jD [Inhabited α] (A B:List α) (k:Nat):gt (A++B) (k:Int)=if k < A.length then gt A (k:Int) else gt B ((k - A.length:Nat):Int):=by
 rw [yX,yX,yX]
 simp only [List.getD]
 split
 ·rename_i h;rw [List.getElem?_append_left h]
 ·rename_i h;rw [List.getElem?_append_right (by omega)]
theorem uF [Inhabited α] {A B:List α} {x:α} {i:Int} (h:i=A.length):gt (A++x::B) i=x:=by
 subst h
 rw [jD,if_neg (by omega)]
 simp [gt]
theorem aDP {A B:List α} {x y:α} {i:Int} (h:i=A.length):st (A++x::B) i y=A++y::B:=by
 subst h
 simp [st]
theorem swap2 {A B:List α} {x y:α} {i j:Int} (hi:i=A.length) (hj:j=A.length+1):st (st (A++x::y::B) i y) j x=A++y::x::B:=by
 rw [aDP hi]
 have:A++y::y::B=(A++[y])++y::B:=by simp
 rw [this,aDP (by simp;omega)]
 simp
theorem aCR {A B:List α} {x y:α} {i j:Int} (hi:i=A.length) (hj:j=A.length+1):st (st (A++x::y::B) j x) i y=A++y::x::B:=by
 have:A++x::y::B=(A++[x])++y::B:=by simp
 rw [this,aDP (by simp;omega)]
 have:(A++[x])++x::B=A++x::x::B:=by simp
 rw [this,aDP hi]
theorem aCI [Inhabited α] {P U V W S D:List α} (hUW:U.length=W.length) (hl:D.length=(P++U++V++W++S).length)
  (h:∀k:Nat,k < D.length→gt D (k:Int)=if P.length≤k∧k < P.length+U.length then gt (P++U++V++W++S) ((k+U.length+V.length:Nat):Int)
   else if P.length+U.length+V.length≤k∧k < P.length+U.length+V.length+W.length then gt (P++U++V++W++S) ((k - (U.length+V.length):Nat):Int) else gt (P++U++V++W++S) (k:Int)):
  D=P++W++V++U++S:=by
 have hl2:D.length=P.length+U.length+V.length+W.length+S.length:=by rw [hl];simp [Nat.add_assoc]
 apply List.ext_getElem
 ·rw [hl2];simp;omega
 intro k h1 h2
 have e:=h k h1
 rw [aP h1] at e
 rw [e,←aP h2]
 simp only [jD,List.length_append]
 split <;>rename_i c1
 ·rw [if_neg (show ¬k+U.length+V.length < P.length+U.length+V.length by omega),if_pos (show k+U.length+V.length < P.length+U.length+V.length+W.length by omega)]
  rw [if_neg (show ¬k < P.length by omega),if_pos (show k < P.length+W.length by omega),if_pos (show k < P.length+W.length+V.length by omega),if_pos (show k < P.length+W.length+V.length+U.length by omega)]
  congr 2
  omega
 ·split <;>rename_i c2
  ·rw [if_pos (show k - (U.length+V.length) < P.length+U.length+V.length+W.length by omega),if_pos (show k - (U.length+V.length) < P.length+U.length+V.length by omega),if_pos (show k - (U.length+V.length) < P.length+U.length by omega),if_neg (show ¬k - (U.length+V.length) < P.length by omega)]
   rw [if_pos (show k < P.length+W.length+V.length+U.length by omega),if_neg (show ¬k < P.length+W.length+V.length by omega)]
   congr 2
   omega
  ·by_cases c3:k < P.length
   ·rw [if_pos (by omega),if_pos (by omega),if_pos (by omega),if_pos c3,if_pos (by omega),if_pos (by omega),if_pos (by omega),if_pos c3]
   ·by_cases c4:k < P.length+U.length+V.length
    ·rw [if_pos (by omega),if_pos c4,if_neg (by omega),if_pos (by omega),if_pos (by omega),if_neg (by omega)]
     congr 2
     omega
    ·rw [if_neg (by omega),if_neg (by omega)]
     congr 2
     omega
end
end Go.Fx
namespace Go.Proofs.Ytejbgkajdomgcaa
theorem lK {α:Type} {P:List α→Prop} (h0:P []) (h1:∀l a,P l→P (l++[a])) (l:List α):P l:=by
 have:∀r:List α,P r.reverse:=fun r=>by
  induction r with
  |nil=>exact h0
  |cons a r ih=>rw [List.reverse_cons];exact h1 _ _ ih
 rw [←List.reverse_reverse l]
 exact this _
inductive Con (E:List (Int × Int)):Int→Int→Prop
 |refl (x:Int):Con E x x
 |link {a b:Int}:(a,b)∈E→Con E a b
 |symm {a b:Int}:Con E a b→Con E b a
 |trans {a b c:Int}:Con E a b→Con E b c→Con E a c
theorem Con.mono {E E':List (Int × Int)} (h:∀e∈E,Con E' e.1 e.2) {x y:Int} (hc:Con E x y):Con E' x y:=by
 induction hc with
 |refl x=>exact .refl x
 |link h1=>exact h _ h1
 |symm _ ih=>exact ih.symm
 |trans _ _ ih1 ih2=>exact ih1.trans ih2
theorem Con.sub {E E':List (Int × Int)} (h:∀e∈E,e∈E') {x y:Int} (hc:Con E x y):Con E' x y:=hc.mono (fun e he=> .link (h e he))
theorem Con.nil {x y:Int} (h:Con [] x y):x=y:=by
 induction h with
 |refl x=>rfl
 |link h=>simp at h
 |symm _ ih=>exact ih.symm
 |trans _ _ i1 i2=>exact i1.trans i2
def wN (f:Int→Int) (e:Int × Int) (x:Int):Int:=if f x=max (f e.1) (f e.2) then min (f e.1) (f e.2) else f x
def lo (E:List (Int × Int)):Int→Int:=E.foldl wN id
theorem aOK (x:Int):lo [] x=x:=rfl
theorem mJ (E:List (Int × Int)) (e:Int × Int):lo (E++[e])=wN (lo E) e:=by simp [lo,List.foldl_append]
theorem lo_le (E:List (Int × Int)) (x:Int):lo E x≤x:=by
 induction E using lK with
 |h0=>exact Int.le_refl _
 |h1 E e ih=>
  rw [mJ]
  unfold wN
  split
  ·rename_i h
   omega
  ·exact ih
theorem zH (E:List (Int × Int)) (x:Int):Con E x (lo E x):=by
 induction E using lK generalizing x with
 |h0=>exact .refl _
 |h1 E e ih=>
  have hs:∀{a b:Int},Con E a b→Con (E++[e]) a b:=fun h=>h.sub (fun e he=>by simp [he])
  have hl:Con (E++[e]) e.1 e.2:= .link (by simp)
  have h1:=hs (ih e.1)
  have h2:=hs (ih e.2)
  have hx:=hs (ih x)
  have h12:Con (E++[e]) (lo E e.1) (lo E e.2):=h1.symm.trans (hl.trans h2)
  rw [mJ]
  unfold wN
  split
  ·rename_i h
   rcases Int.le_total (lo E e.1) (lo E e.2) with h3|h3
   ·rw [Int.max_eq_right h3] at h
    rw [Int.min_eq_left h3]
    rw [h] at hx
    exact hx.trans h12.symm
   ·rw [Int.max_eq_left h3] at h
    rw [Int.min_eq_right h3]
    rw [h] at hx
    exact hx.trans h12
  ·exact hx
theorem mg_eq {f:Int→Int} {e:Int × Int} {x y:Int} (h:f x=f y):wN f e x=wN f e y:=by unfold wN;rw [h]
theorem aMN (f:Int→Int) (e:Int × Int):wN f e e.1=wN f e e.2:=by
 unfold wN
 split <;>split <;>omega
theorem aML {E:List (Int × Int)} {e:Int × Int} (h:e∈E):lo E e.1=lo E e.2:=by
 induction E using lK with
 |h0=>simp at h
 |h1 E d ih=>
  rw [mJ]
  rcases List.mem_append.1 h with h|h
  ·exact mg_eq (ih h)
  ·simp only [List.mem_cons,List.not_mem_nil,or_false] at h
   subst h
   exact aMN _ _
theorem aNG {E:List (Int × Int)} {x y:Int} (h:Con E x y):lo E x=lo E y:=by
 induction h with
 |refl x=>rfl
 |link h=>exact aML h
 |symm _ ih=>exact ih.symm
 |trans _ _ i1 i2=>exact i1.trans i2
theorem lo_iff {E:List (Int × Int)} {x y:Int}:lo E x=lo E y↔Con E x y:=⟨fun h=>(zH E x).trans (h ▸ (zH E y).symm),aNG⟩
theorem aNK (E:List (Int × Int)) (x:Int):lo E (lo E x)=lo E x:=(aNG (zH E x)).symm
def Nds (n:Int) (E:List (Int × Int)):Prop:=∀e∈E,(0≤e.1∧e.1 < n)∧(0≤e.2∧e.2 < n)
theorem aIH {n:Int} {E:List (Int × Int)} (hE:Nds n E) {x:Int} (hx:0≤x∧x < n):0≤lo E x∧lo E x < n:=by
 have h:=zH E x
 have key:∀{a b:Int},Con E a b→((0≤a∧a < n)↔(0≤b∧b < n)):=fun hc=>by
  induction hc with
  |refl x=>rfl
  |link h=>exact ⟨fun _=>(hE _ h).2,fun _=>(hE _ h).1⟩
  |symm _ ih=>exact ih.symm
  |trans _ _ i1 i2=>exact i1.trans i2
 exact (key h).1 hx
def cnt (n:Nat) (p:Int→Bool):Nat:=((List.range n).filter (fun i:Nat=>p (i:Int))).length
theorem nL (n:Nat) (p:Int→Bool):cnt (n+1) p=cnt n p+(if p (n:Int) then 1 else 0):=by
 unfold cnt
 rw [List.range_succ,List.filter_append,List.length_append]
 congr 1
 by_cases h:p (n:Int) <;>simp [List.filter,h]
theorem aBZ (n:Nat) (p:Int→Bool):cnt n p≤n:=by
 have:=List.length_filter_le (fun i=>p ((i:Nat):Int)) (List.range n)
 rwa [List.length_range] at this
theorem aIA (n:Nat):cnt n (fun _=>true)=n:=by
 unfold cnt
 rw [List.filter_eq_self.2 (fun _ _=>rfl),List.length_range]
theorem cnt_mono {n:Nat} {p q:Int→Bool} (h:∀x:Int,0≤x→x < n→p x=true→q x=true):cnt n p≤cnt n q:=by
 induction n with
 |zero=>exact Nat.le_refl _
 |succ n ih=>
  rw [nL,nL]
  have h1:=ih (fun x h0 hx=>h x h0 (by omega))
  have h2:=h (n:Int) (by omega) (by omega)
  cases hp:p (n:Int) <;>cases hq:q (n:Int) <;>simp_all <;>omega
theorem cnt_lt {n:Nat} {p q:Int→Bool} (h:∀x:Int,0≤x→x < n→p x=true→q x=true) {z:Int} (h0:0≤z) (hz:z < n) (hp:p z=false) (hq:q z=true):cnt n p < cnt n q:=by
 induction n with
 |zero=>omega
 |succ n ih=>
  rw [nL,nL]
  have h1:=cnt_mono (n:=n) (fun x h0 hx=>h x h0 (by omega))
  by_cases e:z=n
  ·subst e;rw [hp,hq];simp;omega
  ·have h2:=ih (fun x h0 hx=>h x h0 (by omega)) (by omega)
   have h3:=h (n:Int) (by omega) (by omega)
   cases hp:p (n:Int) <;>cases hq:q (n:Int) <;>simp_all <;>omega
structure Lw (n:Nat) (E:List (Int × Int)) (l:Int→Int):Prop where
 le:∀x:Int,0≤x→x < n→l x≤x
 ge:∀x:Int,0≤x→x < n→lo E x≤l x
def atL (E:List (Int × Int)) (l:Int→Int) (x:Int):Bool:=decide (l x=lo E x)
end Go.Proofs.Ytejbgkajdomgcaa
namespace Go.Proofs.Ytejbgkajdomgcaa
open Go Go.Fx
structure Rp (n:Nat) (u:List Int) (f:Int→Int):Prop where
 len:u.length=n
 dn:∀x:Int,0≤x→x < n→0≤gt u x∧gt u x≤x
 up:∀x:Int,0≤x→x < n→f (gt u x)=f x
 fx:∀x:Int,0≤x→x < n→gt u x=x→f x=x
theorem Rp.rootN {n:Nat} {u:List Int} {f:Int→Int} (h:Rp n u f):∀m:Nat,∀x:Int,0≤x→x < n→x.toNat < m→(0≤f x∧f x≤x)∧gt u (f x)=f x:=by
 intro m
 induction m with
 |zero=>intro x _ _ hm;omega
 |succ m ih=>
  intro x h0 hx hm
  by_cases e:gt u x=x
  ·rw [h.fx x h0 hx e]
   exact ⟨⟨h0,Int.le_refl _⟩,e⟩
  ·have h1:=h.dn x h0 hx
   have h2:=ih (gt u x) h1.1 (by omega) (by omega)
   rw [h.up x h0 hx] at h2
   exact ⟨⟨h2.1.1,by omega⟩,h2.2⟩
theorem Rp.root {n:Nat} {u:List Int} {f:Int→Int} (h:Rp n u f) {x:Int} (h0:0≤x) (hx:x < n):(0≤f x∧f x≤x)∧gt u (f x)=f x:=h.rootN (x.toNat+1) x h0 hx (by omega)
theorem Rp.halve {n:Nat} {u:List Int} {f:Int→Int} (h:Rp n u f) {x:Int} (h0:0≤x) (hx:x < n):Rp n (st u x (gt u (gt u x))) f:=by
 have h1:=h.dn x h0 hx
 have h2:=h.dn (gt u x) h1.1 (by omega)
 have hl:0≤x∧x < u.length:=by rw [h.len];exact ⟨h0,hx⟩
 have key:∀y:Int,0≤y→y < n→gt (st u x (gt u (gt u x))) y=if y=x then gt u (gt u x) else gt u y:=fun y hy _=>gM _ hl hy
 refine ⟨by rw [aY,h.len],fun y hy0 hy=>?_,fun y hy0 hy=>?_,fun y hy0 hy e=>?_⟩
 ·rw [key y hy0 hy]
  have:=h.dn y hy0 hy
  split <;>omega
 ·rw [key y hy0 hy]
  split
  ·rename_i e;subst e
   rw [h.up _ h1.1 (by omega),h.up _ hy0 hy]
  ·exact h.up y hy0 hy
 ·rw [key y hy0 hy] at e
  split at e
  ·rename_i e2;subst e2
   exact h.fx _ hy0 hy (by omega)
  ·exact h.fx y hy0 hy e
theorem Rp.join {n:Nat} {u:List Int} {f:Int→Int} (h:Rp n u f) {e:Int × Int} (h1:0≤e.1∧e.1 < n) (h2:0≤e.2∧e.2 < n):Rp n (st u (max (f e.1) (f e.2)) (min (f e.1) (f e.2))) (wN f e):=by
 have r1:=h.root h1.1 h1.2
 have r2:=h.root h2.1 h2.2
 obtain ⟨a,ha⟩:∃a,f e.1=a:=⟨_,rfl⟩
 obtain ⟨b,hb⟩:∃b,f e.2=b:=⟨_,rfl⟩
 unfold wN
 rw [ha] at r1
 rw [hb] at r2
 rw [ha,hb]
 have hM:0≤max a b∧max a b < n:=by omega
 have hl:0≤max a b∧max a b < u.length:=by rw [h.len];exact hM
 have key:∀y:Int,0≤y→y < n→gt (st u (max a b) (min a b)) y=if y=max a b then min a b else gt u y:=fun y hy _=>gM _ hl hy
 have fa:f a=a:=h.fx a r1.1.1 (by omega) r1.2
 have fb:f b=b:=h.fx b r2.1.1 (by omega) r2.2
 have fM:f (max a b)=max a b:=by
  rcases Int.le_total a b with h3|h3
  ·rw [Int.max_eq_right h3];exact fb
  ·rw [Int.max_eq_left h3];exact fa
 have fm:f (min a b)=min a b:=by
  rcases Int.le_total a b with h3|h3
  ·rw [Int.min_eq_left h3];exact fa
  ·rw [Int.min_eq_right h3];exact fb
 refine ⟨by rw [aY,h.len],fun y hy0 hy=>?_,fun y hy0 hy=>?_,fun y hy0 hy e=>?_⟩
 ·rw [key y hy0 hy]
  have:=h.dn y hy0 hy
  split <;>omega
 ·rw [key y hy0 hy]
  split
  ·rename_i e;subst e
   rw [fM,fm]
   simp
  ·rw [h.up y hy0 hy]
 ·rw [key y hy0 hy] at e
  split at e
  ·rename_i e2
   rw [e2,fM,if_pos rfl]
   omega
  ·have:=h.fx y hy0 hy e
   rw [this,if_neg (by assumption)]
theorem Rp.new (n:Nat):Rp n ((List.range n).map (fun i=>((i:Nat):Int))) id:=by
 have key:∀x:Int,0≤x→x < n→gt ((List.range n).map (fun i=>((i:Nat):Int))) x=x:=fun x h0 hx=>by
  obtain ⟨y,rfl⟩:∃y:Nat,x=y:=⟨x.toNat,by omega⟩
  rw [aP (by simp;omega)]
  simp
 refine ⟨by simp,fun x h0 hx=>?_,fun x h0 hx=>?_,fun x h0 hx _=>rfl⟩
 ·rw [key x h0 hx];omega
 ·rw [key x h0 hx]
def Fst:List (Int × Int)→List (Int × Int)→Prop
 |_,[]=>True
 |E,e::F=>¬Con E e.1 e.2∧Fst (E++[e]) F
theorem Fst.snoc {E F:List (Int × Int)} {e:Int × Int}:Fst E (F++[e])↔Fst E F∧¬Con (E++F) e.1 e.2:=by
 induction F generalizing E with
 |nil=>simp [Fst]
 |cons d F ih=>
  rw [List.cons_append,Fst,Fst,ih,List.append_assoc,List.singleton_append]
  exact ⟨fun ⟨a,b,c⟩=>⟨⟨a,b⟩,c⟩,fun ⟨⟨a,b⟩,c⟩=>⟨a,b,c⟩⟩
theorem Fst.anti {E E' F:List (Int × Int)} (h:∀e∈E',e∈E) (hf:Fst E F):Fst E' F:=by
 induction F generalizing E E' with
 |nil=>trivial
 |cons d F ih=>exact ⟨fun hc=>hf.1 (hc.sub h),ih (fun e he=>by
   rcases List.mem_append.1 he with h1|h1
   ·exact List.mem_append.2 (.inl (h e h1))
   ·exact List.mem_append.2 (.inr h1)) hf.2⟩
def aFS (n:Nat) (E:List (Int × Int)):Nat:=cnt n (fun x=>decide (lo E x=x))
theorem aJW (n:Nat):aFS n []=n:=by
 rw [aFS,show (fun x=>decide (lo [] x=x))=(fun _=>true) from funext (fun x=>decide_eq_true (aOK x))]
 exact aIA n
theorem aFO {n:Nat} {p q:Int→Bool} (h:∀x:Int,0≤x→x < n→p x=q x):cnt n p=cnt n q:=
 Nat.le_antisymm (cnt_mono (fun x h0 hx e=>(h x h0 hx) ▸ e)) (cnt_mono (fun x h0 hx e=>(h x h0 hx).symm ▸ e))
theorem aMF {n:Nat} {p q:Int→Bool} {z:Int} (h0:0≤z) (hz:z < n) (hp:p z=false) (hq:q z=true) (h:∀x:Int,0≤x→x < n→x≠z→p x=q x):cnt n p+1=cnt n q:=by
 induction n with
 |zero=>omega
 |succ n ih=>
  rw [nL,nL]
  by_cases e:z=n
  ·subst e
   rw [hp,hq,aFO (n:=n) (fun x h0 hx=>h x h0 (by omega) (by omega))]
   rfl
  ·have h1:=ih (by omega) (fun x h0 hx hn=>h x h0 (by omega) hn)
   rw [h (n:Int) (by omega) (by omega) (fun e2=>e e2.symm)]
   omega
theorem aFM {n:Nat} {E:List (Int × Int)} {e:Int × Int} (hE:Nds n E) (h1:0≤e.1∧e.1 < n) (h2:0≤e.2∧e.2 < n) (hn:¬Con E e.1 e.2):aFS n (E++[e])+1=aFS n E:=by
 have r1:=aIH hE h1
 have r2:=aIH hE h2
 have hne:lo E e.1≠lo E e.2:=fun h=>hn (lo_iff.1 h)
 refine aMF (z:=max (lo E e.1) (lo E e.2)) (by omega) (by omega) (decide_eq_false ?_) (decide_eq_true ?_) (fun x h0 hx hxz=>?_)
 ·rw [mJ]
  unfold wN
  split
  ·omega
  ·rename_i h
   exact fun h3=>h h3
 ·rcases Int.le_total (lo E e.1) (lo E e.2) with h3|h3
  ·rw [Int.max_eq_right h3,aNK]
  ·rw [Int.max_eq_left h3,aNK]
 ·apply decide_eq_decide.2
  rw [mJ]
  unfold wN
  split
  ·rename_i h
   constructor
   ·intro h3
    exfalso
    have hl:=lo_le E x
    omega
   ·intro h3
    exact absurd (h3.symm.trans h) hxz
  ·exact Iff.rfl
theorem Nds.snoc {n:Int} {E:List (Int × Int)} {e:Int × Int}:Nds n (E++[e])↔Nds n E∧((0≤e.1∧e.1 < n)∧(0≤e.2∧e.2 < n)):=by
 simp only [Nds,List.mem_append,List.mem_cons,List.not_mem_nil,or_false]
 exact ⟨fun h=>⟨fun d hd=>h d (.inl hd),h e (.inr rfl)⟩,fun h d hd=>hd.elim (h.1 d) (fun e2=>e2 ▸ h.2)⟩
theorem tZ {n:Nat} {F:List (Int × Int)} (hF:Nds n F) (hf:Fst [] F):F.length+aFS n F=n:=by
 induction F using lK with
 |h0=>rw [aJW];simp
 |h1 F e ih=>
  obtain ⟨h1,h2,h3⟩:=Nds.snoc.1 hF
  obtain ⟨h4,h5⟩:=Fst.snoc.1 hf
  have:=ih h1 h4
  have:=aFM h1 h2 h3 h5
  rw [List.length_append,List.length_singleton]
  omega
def cutS (t:Int):List Int→Int
 |[]=>0
 |x::r=>min x t+cutS t r
def wQ:List Int→Int
 |[]=>0
 |x::r=>x+wQ r
def upTo (t:Int) (l:List Int):Nat:=(l.filter (fun x=>decide (x≤t))).length
end Go.Proofs.Ytejbgkajdomgcaa
