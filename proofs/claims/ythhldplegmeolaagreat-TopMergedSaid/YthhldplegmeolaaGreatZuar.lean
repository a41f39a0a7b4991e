/- The walk, kept once. -/
import Derived.Test.YthhldplegmeolaaGreatZuap
import Derived.Test.YthhldplegmeolaaGreatZuag
import Derived.Test.YthhldplegmeolaaGreatZuaq
import Derived.Test.YthhldplegmeolaaGreatZuao
set_option linter.unusedSimpArgs false
set_option linter.unusedVariables false
set_option maxRecDepth 100000
set_option maxHeartbeats 4000000
namespace Go.Fx
theorem aC {p g:Prop} (h:g) (w:BoxP g→p:=by (intro hh;(first|refine aF ?_|refine fJ ?_|refine lQ ?_|refine jI ?_|refine iB ?_|refine gM ?_|refine jJ ?_|refine iW ?_|refine gY ?_|refine gV ?_|refine lY ?_|refine lV ?_|refine mD ?_|refine lU rfl ?_|refine bG ?_|(refine iT ?_;first|refine iV rfl rfl rfl ?_|(refine iQ rfl rfl ?_;refine fV rfl rfl rfl okF ?_)|refine iI rfl rfl (by omega) ?_|refine iK rfl rfl (by omega) ?_)|(refine cK ?_;refine aB rfl (fun _=>dP rfl) rfl rfl ?_)|refine aB rfl (fun _=>aZ rfl) rfl rfl ?_|(refine iP ?_;first|refine aB rfl (fun _=>bL rfl rfl wF) rfl rfl ?_|refine aB rfl (fun _=>bK rfl rfl wF) rfl rfl ?_|refine aB rfl (fun _=>fD rfl rfl wF) rfl rfl ?_|refine aB rfl (fun _=>fE rfl rfl (by omega) qF) rfl rfl ?_|refine aB rfl (fun _=>fC rfl rfl (by omega) rfl) rfl rfl ?_|refine aB rfl (fun _=>dS rfl rfl) rfl rfl ?_|refine aB rfl (fun _=>eX rfl rfl) rfl rfl ?_|refine aB rfl (fun _=>fA rfl rfl) rfl rfl ?_|refine aB rfl (fun _=>qW rfl rfl) rfl rfl ?_|refine aB rfl (fun _=>tC rfl rfl) rfl rfl ?_)|(refine cK ?_;first|refine aB rfl (fun _=>eD rfl wF) rfl rfl ?_)|(refine iU ?_;first|refine aB rfl (fun _=>dI rfl wF) rfl rfl ?_)|(refine iX ?_;first|refine aB rfl (fun _=>bM rfl) rfl rfl ?_|refine aB rfl (fun _=>dV rfl rfl) rfl rfl ?_|refine aB rfl (fun _=>dW rfl rfl) rfl rfl ?_|refine aB rfl (fun _=>dX rfl rfl rfl) rfl rfl ?_)|(refine iM ?_;first|refine iN rfl (by decide) rfl rfl ?_|refine kR rfl (by decide) rfl rfl ?_)|(refine iJ ?_;first|refine aB rfl (fun _=>dH rfl) rfl rfl ?_)|(refine iO ?_;first|refine kL rfl rfl jE rfl rfl ?_|refine kM iY rfl rfl jE aA kT rfl rfl ?_|refine kK iY rfl rfl jE aA kT rfl rfl ?_|refine aB rfl (fun _=>bZ rfl rfl jE) rfl rfl ?_)|(refine gF ?_;first|(apply mE;exact iY;exact rfl;(focus ((repeat (first|with_reducible exact List.mem_cons_self|with_reducible assumption|with_reducible refine List.mem_cons_of_mem _ ?_));done));exact atY;exact rfl;exact rfl)|(apply nM;exact iY;exact rfl;(focus ((repeat (first|with_reducible exact List.mem_cons_self|with_reducible assumption|with_reducible refine List.mem_cons_of_mem _ ?_));done));exact atY;exact rfl;exact rfl)|(apply pG;exact iY;exact rfl;(focus ((repeat (first|with_reducible exact List.mem_cons_self|with_reducible assumption|with_reducible refine List.mem_cons_of_mem _ ?_));done));exact atY;exact rfl;exact rfl)|(apply oZ;exact iY;exact rfl;(focus ((repeat (first|with_reducible exact List.mem_cons_self|with_reducible assumption|with_reducible refine List.mem_cons_of_mem _ ?_));done));exact atY;exact rfl;exact rfl)|(apply kP;exact iY;exact rfl;(focus ((repeat (first|with_reducible exact List.mem_cons_self|with_reducible assumption|with_reducible refine List.mem_cons_of_mem _ ?_));done));exact uE;exact rfl;exact rfl)|(apply iL;exact iY;exact rfl;(focus ((repeat (first|with_reducible exact List.mem_cons_self|with_reducible assumption|with_reducible refine List.mem_cons_of_mem _ ?_));done));exact uE;exact rfl;exact rfl)|(apply kQ;exact iY;exact rfl;(focus ((repeat (first|with_reducible exact List.mem_cons_self|with_reducible assumption|with_reducible refine List.mem_cons_of_mem _ ?_));done));exact uE;exact rfl;exact rfl)|(apply kS;exact iY;exact rfl;(focus ((repeat (first|with_reducible exact List.mem_cons_self|with_reducible assumption|with_reducible refine List.mem_cons_of_mem _ ?_));done));exact uE;exact rfl;exact rfl))|(refine iR ?_;first|refine aB rfl (fun _=>bY rfl rfl) rfl rfl ?_|refine aB rfl (fun _=>bQ rfl) rfl rfl ?_)|(refine kZ ?_;first|refine nS rfl rfl rfl mW stC rfl rfl ⟨okF,?_⟩|refine iG rfl rfl iE xN mW xP rfl rfl ⟨okF,?_⟩)|(refine jL ?_;first|refine dJ rfl ?_|refine cO rfl ?_|refine lX rfl (by omega) ?_|refine pM rfl (by omega) ?_));(repeat (first|refine aF ?_|refine fJ ?_|refine lQ ?_|refine jI ?_|refine iB ?_|refine gM ?_|refine jJ ?_|refine iW ?_|refine gY ?_|refine gV ?_|refine lY ?_|refine lV ?_|refine mD ?_|refine lU rfl ?_|refine bG ?_|(refine iT ?_;first|refine iV rfl rfl rfl ?_|(refine iQ rfl rfl ?_;refine fV rfl rfl rfl okF ?_)|refine iI rfl rfl (by omega) ?_|refine iK rfl rfl (by omega) ?_)|(refine cK ?_;refine aB rfl (fun _=>dP rfl) rfl rfl ?_)|refine aB rfl (fun _=>aZ rfl) rfl rfl ?_|(refine iP ?_;first|refine aB rfl (fun _=>bL rfl rfl wF) rfl rfl ?_|refine aB rfl (fun _=>bK rfl rfl wF) rfl rfl ?_|refine aB rfl (fun _=>fD rfl rfl wF) rfl rfl ?_|refine aB rfl (fun _=>fE rfl rfl (by omega) qF) rfl rfl ?_|refine aB rfl (fun _=>fC rfl rfl (by omega) rfl) rfl rfl ?_|refine aB rfl (fun _=>dS rfl rfl) rfl rfl ?_|refine aB rfl (fun _=>eX rfl rfl) rfl rfl ?_|refine aB rfl (fun _=>fA rfl rfl) rfl rfl ?_|refine aB rfl (fun _=>qW rfl rfl) rfl rfl ?_|refine aB rfl (fun _=>tC rfl rfl) rfl rfl ?_)|(refine cK ?_;first|refine aB rfl (fun _=>eD rfl wF) rfl rfl ?_)|(refine iU ?_;first|refine aB rfl (fun _=>dI rfl wF) rfl rfl ?_)|(refine iX ?_;first|refine aB rfl (fun _=>bM rfl) rfl rfl ?_|refine aB rfl (fun _=>dV rfl rfl) rfl rfl ?_|refine aB rfl (fun _=>dW rfl rfl) rfl rfl ?_|refine aB rfl (fun _=>dX rfl rfl rfl) rfl rfl ?_)|(refine iM ?_;first|refine iN rfl (by decide) rfl rfl ?_|refine kR rfl (by decide) rfl rfl ?_)|(refine iJ ?_;first|refine aB rfl (fun _=>dH rfl) rfl rfl ?_)|(refine iO ?_;first|refine kL rfl rfl jE rfl rfl ?_|refine kM iY rfl rfl jE aA kT rfl rfl ?_|refine kK iY rfl rfl jE aA kT rfl rfl ?_|refine aB rfl (fun _=>bZ rfl rfl jE) rfl rfl ?_)|(refine gF ?_;first|(apply mE;exact iY;exact rfl;(focus ((repeat (first|with_reducible exact List.mem_cons_self|with_reducible assumption|with_reducible refine List.mem_cons_of_mem _ ?_));done));exact atY;exact rfl;exact rfl)|(apply nM;exact iY;exact rfl;(focus ((repeat (first|with_reducible exact List.mem_cons_self|with_reducible assumption|with_reducible refine List.mem_cons_of_mem _ ?_));done));exact atY;exact rfl;exact rfl)|(apply pG;exact iY;exact rfl;(focus ((repeat (first|with_reducible exact List.mem_cons_self|with_reducible assumption|with_reducible refine List.mem_cons_of_mem _ ?_));done));exact atY;exact rfl;exact rfl)|(apply oZ;exact iY;exact rfl;(focus ((repeat (first|with_reducible exact List.mem_cons_self|with_reducible assumption|with_reducible refine List.mem_cons_of_mem _ ?_));done));exact atY;exact rfl;exact rfl)|(apply kP;exact iY;exact rfl;(focus ((repeat (first|with_reducible exact List.mem_cons_self|with_reducible assumption|with_reducible refine List.mem_cons_of_mem _ ?_));done));exact uE;exact rfl;exact rfl)|(apply iL;exact iY;exact rfl;(focus ((repeat (first|with_reducible exact List.mem_cons_self|with_reducible assumption|with_reducible refine List.mem_cons_of_mem _ ?_));done));exact uE;exact rfl;exact rfl)|(apply kQ;exact iY;exact rfl;(focus ((repeat (first|with_reducible exact List.mem_cons_self|with_reducible assumption|with_reducible refine List.mem_cons_of_mem _ ?_));done));exact uE;exact rfl;exact rfl)|(apply kS;exact iY;exact rfl;(focus ((repeat (first|with_reducible exact List.mem_cons_self|with_reducible assumption|with_reducible refine List.mem_cons_of_mem _ ?_));done));exact uE;exact rfl;exact rfl))|(refine iR ?_;first|refine aB rfl (fun _=>bY rfl rfl) rfl rfl ?_|refine aB rfl (fun _=>bQ rfl) rfl rfl ?_)|(refine kZ ?_;first|refine nS rfl rfl rfl mW stC rfl rfl ⟨okF,?_⟩|refine iG rfl rfl iE xN mW xP rfl rfl ⟨okF,?_⟩)|(refine jL ?_;first|refine dJ rfl ?_|refine cO rfl ?_|refine lX rfl (by omega) ?_|refine pM rfl (by omega) ?_)));exact hh.out)):p:=w ⟨h⟩
theorem yXh {p g:Prop} (h:g) (w:BoxP g→p:=by (intro hh;(first|refine aF ?_|refine fJ ?_|refine lQ ?_|refine jI ?_|refine iB ?_|refine gM ?_|refine jJ ?_|refine iW ?_|refine gY ?_|refine gV ?_|refine lY ?_|refine lV ?_|refine mD ?_|refine lU rfl ?_|refine bG ?_|(refine iT ?_;first|refine iV rfl rfl rfl ?_|(refine iQ rfl rfl ?_;refine fV rfl rfl rfl okF ?_)|refine iI rfl rfl (by omega) ?_|refine iK rfl rfl (by omega) ?_)|(refine cK ?_;refine aB rfl (fun _=>dP rfl) rfl rfl ?_)|refine aB rfl (fun _=>aZ rfl) rfl rfl ?_|(refine iP ?_;first|refine aB rfl (fun _=>bL rfl rfl wF) rfl rfl ?_|refine aB rfl (fun _=>bK rfl rfl wF) rfl rfl ?_|refine aB rfl (fun _=>fD rfl rfl wF) rfl rfl ?_|refine aB rfl (fun _=>fE rfl rfl (by omega) qF) rfl rfl ?_|refine aB rfl (fun _=>fC rfl rfl (by omega) rfl) rfl rfl ?_|refine aB rfl (fun _=>dS rfl rfl) rfl rfl ?_|refine aB rfl (fun _=>eX rfl rfl) rfl rfl ?_|refine aB rfl (fun _=>fA rfl rfl) rfl rfl ?_|refine aB rfl (fun _=>qW rfl rfl) rfl rfl ?_|refine aB rfl (fun _=>tC rfl rfl) rfl rfl ?_)|(refine cK ?_;first|refine aB rfl (fun _=>eD rfl wF) rfl rfl ?_)|(refine iU ?_;first|refine aB rfl (fun _=>dI rfl wF) rfl rfl ?_)|(refine iX ?_;first|refine aB rfl (fun _=>bM rfl) rfl rfl ?_|refine aB rfl (fun _=>dV rfl rfl) rfl rfl ?_|refine aB rfl (fun _=>dW rfl rfl) rfl rfl ?_|refine aB rfl (fun _=>dX rfl rfl rfl) rfl rfl ?_)|(refine iM ?_;first|refine iN rfl (by decide) rfl rfl ?_|refine kR rfl (by decide) rfl rfl ?_)|(refine iJ ?_;first|refine aB rfl (fun _=>dH rfl) rfl rfl ?_)|(refine iO ?_;first|refine kL rfl rfl jE rfl rfl ?_|refine kM iY rfl rfl jE aA kT rfl rfl ?_|refine kK iY rfl rfl jE aA kT rfl rfl ?_|refine aB rfl (fun _=>bZ rfl rfl jE) rfl rfl ?_)|(refine gF ?_;first|(apply mE;exact iY;exact rfl;(focus ((repeat (first|with_reducible exact List.mem_cons_self|with_reducible assumption|with_reducible refine List.mem_cons_of_mem _ ?_));done));exact atY;exact rfl;exact rfl)|(apply nM;exact iY;exact rfl;(focus ((repeat (first|with_reducible exact List.mem_cons_self|with_reducible assumption|with_reducible refine List.mem_cons_of_mem _ ?_));done));exact atY;exact rfl;exact rfl)|(apply pG;exact iY;exact rfl;(focus ((repeat (first|with_reducible exact List.mem_cons_self|with_reducible assumption|with_reducible refine List.mem_cons_of_mem _ ?_));done));exact atY;exact rfl;exact rfl)|(apply oZ;exact iY;exact rfl;(focus ((repeat (first|with_reducible exact List.mem_cons_self|with_reducible assumption|with_reducible refine List.mem_cons_of_mem _ ?_));done));exact atY;exact rfl;exact rfl)|(apply kP;exact iY;exact rfl;(focus ((repeat (first|with_reducible exact List.mem_cons_self|with_reducible assumption|with_reducible refine List.mem_cons_of_mem _ ?_));done));exact uE;exact rfl;exact rfl)|(apply iL;exact iY;exact rfl;(focus ((repeat (first|with_reducible exact List.mem_cons_self|with_reducible assumption|with_reducible refine List.mem_cons_of_mem _ ?_));done));exact uE;exact rfl;exact rfl)|(apply kQ;exact iY;exact rfl;(focus ((repeat (first|with_reducible exact List.mem_cons_self|with_reducible assumption|with_reducible refine List.mem_cons_of_mem _ ?_));done));exact uE;exact rfl;exact rfl)|(apply kS;exact iY;exact rfl;(focus ((repeat (first|with_reducible exact List.mem_cons_self|with_reducible assumption|with_reducible refine List.mem_cons_of_mem _ ?_));done));exact uE;exact rfl;exact rfl))|(refine iR ?_;first|refine aB rfl (fun _=>bY rfl rfl) rfl rfl ?_|refine aB rfl (fun _=>bQ rfl) rfl rfl ?_)|(refine jL ?_;first|refine dJ rfl ?_|refine cO rfl ?_|refine lX rfl (by omega) ?_|refine pM rfl (by omega) ?_));(repeat (first|refine aF ?_|refine fJ ?_|refine lQ ?_|refine jI ?_|refine iB ?_|refine gM ?_|refine jJ ?_|refine iW ?_|refine gY ?_|refine gV ?_|refine lY ?_|refine lV ?_|refine mD ?_|refine lU rfl ?_|refine bG ?_|(refine iT ?_;first|refine iV rfl rfl rfl ?_|(refine iQ rfl rfl ?_;refine fV rfl rfl rfl okF ?_)|refine iI rfl rfl (by omega) ?_|refine iK rfl rfl (by omega) ?_)|(refine cK ?_;refine aB rfl (fun _=>dP rfl) rfl rfl ?_)|refine aB rfl (fun _=>aZ rfl) rfl rfl ?_|(refine iP ?_;first|refine aB rfl (fun _=>bL rfl rfl wF) rfl rfl ?_|refine aB rfl (fun _=>bK rfl rfl wF) rfl rfl ?_|refine aB rfl (fun _=>fD rfl rfl wF) rfl rfl ?_|refine aB rfl (fun _=>fE rfl rfl (by omega) qF) rfl rfl ?_|refine aB rfl (fun _=>fC rfl rfl (by omega) rfl) rfl rfl ?_|refine aB rfl (fun _=>dS rfl rfl) rfl rfl ?_|refine aB rfl (fun _=>eX rfl rfl) rfl rfl ?_|refine aB rfl (fun _=>fA rfl rfl) rfl rfl ?_|refine aB rfl (fun _=>qW rfl rfl) rfl rfl ?_|refine aB rfl (fun _=>tC rfl rfl) rfl rfl ?_)|(refine cK ?_;first|refine aB rfl (fun _=>eD rfl wF) rfl rfl ?_)|(refine iU ?_;first|refine aB rfl (fun _=>dI rfl wF) rfl rfl ?_)|(refine iX ?_;first|refine aB rfl (fun _=>bM rfl) rfl rfl ?_|refine aB rfl (fun _=>dV rfl rfl) rfl rfl ?_|refine aB rfl (fun _=>dW rfl rfl) rfl rfl ?_|refine aB rfl (fun _=>dX rfl rfl rfl) rfl rfl ?_)|(refine iM ?_;first|refine iN rfl (by decide) rfl rfl ?_|refine kR rfl (by decide) rfl rfl ?_)|(refine iJ ?_;first|refine aB rfl (fun _=>dH rfl) rfl rfl ?_)|(refine iO ?_;first|refine kL rfl rfl jE rfl rfl ?_|refine kM iY rfl rfl jE aA kT rfl rfl ?_|refine kK iY rfl rfl jE aA kT rfl rfl ?_|refine aB rfl (fun _=>bZ rfl rfl jE) rfl rfl ?_)|(refine gF ?_;first|(apply mE;exact iY;exact rfl;(focus ((repeat (first|with_reducible exact List.mem_cons_self|with_reducible assumption|with_reducible refine List.mem_cons_of_mem _ ?_));done));exact atY;exact rfl;exact rfl)|(apply nM;exact iY;exact rfl;(focus ((repeat (first|with_reducible exact List.mem_cons_self|with_reducible assumption|with_reducible refine List.mem_cons_of_mem _ ?_));done));exact atY;exact rfl;exact rfl)|(apply pG;exact iY;exact rfl;(focus ((repeat (first|with_reducible exact List.mem_cons_self|with_reducible assumption|with_reducible refine List.mem_cons_of_mem _ ?_));done));exact atY;exact rfl;exact rfl)|(apply oZ;exact iY;exact rfl;(focus ((repeat (first|with_reducible exact List.mem_cons_self|with_reducible assumption|with_reducible refine List.mem_cons_of_mem _ ?_));done));exact atY;exact rfl;exact rfl)|(apply kP;exact iY;exact rfl;(focus ((repeat (first|with_reducible exact List.mem_cons_self|with_reducible assumption|with_reducible refine List.mem_cons_of_mem _ ?_));done));exact uE;exact rfl;exact rfl)|(apply iL;exact iY;exact rfl;(focus ((repeat (first|with_reducible exact List.mem_cons_self|with_reducible assumption|with_reducible refine List.mem_cons_of_mem _ ?_));done));exact uE;exact rfl;exact rfl)|(apply kQ;exact iY;exact rfl;(focus ((repeat (first|with_reducible exact List.mem_cons_self|with_reducible assumption|with_reducible refine List.mem_cons_of_mem _ ?_));done));exact uE;exact rfl;exact rfl)|(apply kS;exact iY;exact rfl;(focus ((repeat (first|with_reducible exact List.mem_cons_self|with_reducible assumption|with_reducible refine List.mem_cons_of_mem _ ?_));done));exact uE;exact rfl;exact rfl))|(refine iR ?_;first|refine aB rfl (fun _=>bY rfl rfl) rfl rfl ?_|refine aB rfl (fun _=>bQ rfl) rfl rfl ?_)|(refine jL ?_;first|refine dJ rfl ?_|refine cO rfl ?_|refine lX rfl (by omega) ?_|refine pM rfl (by omega) ?_)));exact hh.out)):p:=w ⟨h⟩
end Go.Fx
namespace Go.Proofs.YthhldplegmeolaaGreat
open Go Go.Fx
/- ---------- IndexFunc, ContainsFunc of []fiducial/api.Rat ---------- -/
section
variable {X:List Nat} {w0:World} {M0:List Ent} {I0:List aN}
theorem aOT {q:Option Addr} {a:List RW} {c:Nat} {g:FuncId} [FnOk Tryz.prog g] {fs cs:Array Value} (pr:RW→Prop) [DecidablePred pr] (hn:(a.length:Int)≤9223372036854775807) (ha:aD q (recs eW a)∈I0)
  (hg:∀i:Nat,i < a.length→CD Tryz.prog g (fs.toList++[wv (gt a i)]++cs.toList) X w0 M0 I0 (fun v M I=>M0=M∧I0=I∧v= .bool (B (pr (gt a i))))):
  CD Tryz.prog 84 [.slice q a.length c, .func (.func g) fs cs] X w0 M0 I0 (fun v M I=>M0=M∧I0=I∧∃r:Int,v= .int .i64 r∧((∃i:Nat,i < a.length∧r=i∧pr (gt a i)∧∀j:Nat,j < i→¬pr (gt a j))∨(r= -1∧∀j:Nat,j < a.length→¬pr (gt a j)))):=by
 refine aP Tryz.func84 rfl Tryz.ntmps84 rfl ?_
 repeat refine aC ?_
 refine pU [0,1,7] rfl (fun k G M I=>∃i:Nat,i≤a.length∧k=a.length - i∧(∀j:Nat,j < i→¬pr (gt a j))∧G=[(8, .int .i64 i)]∧M=M0∧I=I0) (a.length) (⟨0,by omega,rfl,fun j hj=>by omega,rfl,rfl,rfl⟩) ?_
 rintro k G M I ⟨i,hi,rfl,hs,rfl,rfl,rfl⟩
 repeat' (first|refine aC ?_|refine aI rfl (fun h=>?_) (fun h=>?_)|refine aH rfl rfl (fun h=>?_) (fun h=>?_)|fail)
 ·have hlt:i < a.length:=by omega
  (refine fT rfl rfl (hg i hlt) rfl rfl rfl ?_;rintro _ _ _ ⟨rfl,rfl,rfl⟩;refine aU ?_)
  repeat' (first|refine aC ?_|refine aI rfl (fun h=>?_) (fun h=>?_)|refine aH rfl rfl (fun h=>?_) (fun h=>?_)|fail)
  ·refine aT (by first|exact .inl rfl|exact .inr rfl) rfl rfl _ _ aK aJ (⟨rfl,rfl,_,rfl, .inl ⟨i,hlt,rfl,by assumption,hs⟩⟩)
  ·refine lN (a.length - (i+1)) (⟨i+1,by omega,rfl,fun j hj=>?_,rfl,rfl,rfl⟩)
   by_cases e:j=i
   ·subst e;assumption
   ·exact hs j (by omega)
 ·refine aT (by first|exact .inl rfl|exact .inr rfl) rfl rfl _ _ aK aJ (⟨rfl,rfl,_,rfl, .inr ⟨rfl,fun j hj=>hs j (by omega)⟩⟩)
theorem yM {q:Option Addr} {a:List RW} {c:Nat} {g:FuncId} [FnOk Tryz.prog g] {fs cs:Array Value} (pr:RW→Prop) [DecidablePred pr] (hn:(a.length:Int)≤9223372036854775807) (ha:aD q (recs eW a)∈I0)
  (hg:∀i:Nat,i < a.length→CD Tryz.prog g (fs.toList++[wv (gt a i)]++cs.toList) X w0 M0 I0 (fun v M I=>M0=M∧I0=I∧v= .bool (B (pr (gt a i))))):
  CD Tryz.prog 44 [.slice q a.length c, .func (.func g) fs cs] X w0 M0 I0 (fun v M I=>M0=M∧I0=I∧v= .bool (B (∃x∈a,pr x))):=by
 refine aP Tryz.func44 rfl Tryz.ntmps44 rfl ?_
 repeat refine aC ?_
 (refine bA rfl (aOT pr hn ha hg) ?_;rintro _ _ _ ⟨rfl,rfl,r,rfl,h⟩;refine aU ?_)
 repeat refine aC ?_
 refine iZ rfl rfl (⟨rfl,rfl,congrArg Value.bool (gP ?_)⟩)
 rcases h with ⟨i,hi,rfl,hp,_⟩|⟨rfl,h⟩
 ·exact ⟨fun _=>⟨gt a i,by rw [eY hi];exact List.getElem_mem hi,hp⟩,fun _=>by omega⟩
 ·refine ⟨fun h=>by omega,?_⟩
  rintro ⟨x,hx,hp⟩
  obtain ⟨j,hj,rfl⟩:=List.mem_iff_getElem.1 hx
  exact absurd (by rw [eY hj];exact hp) (h j hj)
end
/- ---------- IndexFunc, ContainsFunc of fiducial/api.Matrix ---------- -/
section
variable {X:List Nat} {w0:World} {M0:List Ent} {I0:List aN}
theorem aOL {q:Option Addr} {a:List WL} {c:Nat} {g:FuncId} [FnOk Tryz.prog g] {fs cs:Array Value} (pr:WL→Prop) [DecidablePred pr] (hn:(a.length:Int)≤9223372036854775807) (ha:aD q (recs uX a)∈I0)
  (hg:∀i:Nat,i < a.length→CD Tryz.prog g (fs.toList++[wE (gt a i)]++cs.toList) X w0 M0 I0 (fun v M I=>M0=M∧I0=I∧v= .bool (B (pr (gt a i))))):
  CD Tryz.prog 166 [.slice q a.length c, .func (.func g) fs cs] X w0 M0 I0 (fun v M I=>M0=M∧I0=I∧∃r:Int,v= .int .i64 r∧((∃i:Nat,i < a.length∧r=i∧pr (gt a i)∧∀j:Nat,j < i→¬pr (gt a j))∨(r= -1∧∀j:Nat,j < a.length→¬pr (gt a j)))):=by
 refine aP Tryz.func166 rfl Tryz.ntmps166 rfl ?_
 repeat refine aC ?_
 refine pU [0,1,7] rfl (fun k G M I=>∃i:Nat,i≤a.length∧k=a.length - i∧(∀j:Nat,j < i→¬pr (gt a j))∧G=[(8, .int .i64 i)]∧M=M0∧I=I0) (a.length) (⟨0,by omega,rfl,fun j hj=>by omega,rfl,rfl,rfl⟩) ?_
 rintro k G M I ⟨i,hi,rfl,hs,rfl,rfl,rfl⟩
 repeat' (first|refine aC ?_|refine aI rfl (fun h=>?_) (fun h=>?_)|refine aH rfl rfl (fun h=>?_) (fun h=>?_)|fail)
 ·have hlt:i < a.length:=by omega
  (refine fT rfl rfl (hg i hlt) rfl rfl rfl ?_;rintro _ _ _ ⟨rfl,rfl,rfl⟩;refine aU ?_)
  repeat' (first|refine aC ?_|refine aI rfl (fun h=>?_) (fun h=>?_)|refine aH rfl rfl (fun h=>?_) (fun h=>?_)|fail)
  ·refine aT (by first|exact .inl rfl|exact .inr rfl) rfl rfl _ _ aK aJ (⟨rfl,rfl,_,rfl, .inl ⟨i,hlt,rfl,by assumption,hs⟩⟩)
  ·refine lN (a.length - (i+1)) (⟨i+1,by omega,rfl,fun j hj=>?_,rfl,rfl,rfl⟩)
   by_cases e:j=i
   ·subst e;assumption
   ·exact hs j (by omega)
 ·refine aT (by first|exact .inl rfl|exact .inr rfl) rfl rfl _ _ aK aJ (⟨rfl,rfl,_,rfl, .inr ⟨rfl,fun j hj=>hs j (by omega)⟩⟩)
theorem aEU {q:Option Addr} {a:List WL} {c:Nat} {g:FuncId} [FnOk Tryz.prog g] {fs cs:Array Value} (pr:WL→Prop) [DecidablePred pr] (hn:(a.length:Int)≤9223372036854775807) (ha:aD q (recs uX a)∈I0)
  (hg:∀i:Nat,i < a.length→CD Tryz.prog g (fs.toList++[wE (gt a i)]++cs.toList) X w0 M0 I0 (fun v M I=>M0=M∧I0=I∧v= .bool (B (pr (gt a i))))):
  CD Tryz.prog 158 [.slice q a.length c, .func (.func g) fs cs] X w0 M0 I0 (fun v M I=>M0=M∧I0=I∧v= .bool (B (∃x∈a,pr x))):=by
 refine aP Tryz.func158 rfl Tryz.ntmps158 rfl ?_
 repeat refine aC ?_
 (refine bA rfl (aOL pr hn ha hg) ?_;rintro _ _ _ ⟨rfl,rfl,r,rfl,h⟩;refine aU ?_)
 repeat refine aC ?_
 refine iZ rfl rfl (⟨rfl,rfl,congrArg Value.bool (gP ?_)⟩)
 rcases h with ⟨i,hi,rfl,hp,_⟩|⟨rfl,h⟩
 ·exact ⟨fun _=>⟨gt a i,by rw [eY hi];exact List.getElem_mem hi,hp⟩,fun _=>by omega⟩
 ·refine ⟨fun h=>by omega,?_⟩
  rintro ⟨x,hx,hp⟩
  obtain ⟨j,hj,rfl⟩:=List.mem_iff_getElem.1 hx
  exact absurd (by rw [eY hj];exact hp) (h j hj)
end
section
variable {X:List Nat} {w0:World} {M0:List Ent} {I0:List aN}
theorem aMR {r:RW} (hw:Hv I0 (isW r)):CD Tryz.prog 43 [wv r] X w0 M0 I0 (fun v M I=>M0=M∧I0=I∧v= .bool (B r.brief)):=by
 refine aFQ hw (fun hf=>?_)
 have l1:=hf.l1
 have l2:=hf.l2
 refine aV Tryz.func43 rfl Tryz.ntmps43 rfl ?_
 refine fG ?_
 refine fQ rfl (fun b=>?_)
 repeat refine aC ?_
 (repeat refine aF ?_);refine dD [0,1,2,3,4,5,6,7] [0,0,0,0,0,0,0,0] mixed (by kernel_rfl) ?_
 by_cases c1:r.g1.length≤1
 ·by_cases c2:r.g2.length≤1
  ·by_cases c3:r.g1.length=0
   ·by_cases c4:r.g2.length=0
    ·repeat refine aC ?_
     refine iZ rfl rfl (⟨rfl,rfl,congrArg Value.bool (bV ⟨c1,c2, .inl c3, .inl c4⟩).symm⟩)
    ·repeat refine aC ?_
     refine iZ rfl rfl (⟨rfl,rfl,congrArg Value.bool (gP ⟨fun e=>⟨c1,c2, .inl c3, .inr e⟩,fun e=>e.2.2.2.resolve_left c4⟩)⟩)
   ·by_cases c5:gt r.g1 0 < 100000
    ·by_cases c4:r.g2.length=0
     ·repeat refine aC ?_
      refine iZ rfl rfl (⟨rfl,rfl,congrArg Value.bool (bV ⟨c1,c2, .inr c5, .inl c4⟩).symm⟩)
     ·repeat refine aC ?_
      refine iZ rfl rfl (⟨rfl,rfl,congrArg Value.bool (gP ⟨fun e=>⟨c1,c2, .inr c5, .inr e⟩,fun e=>e.2.2.2.resolve_left c4⟩)⟩)
    ·repeat refine aC ?_
     refine iZ rfl rfl (⟨rfl,rfl,congrArg Value.bool (aW (fun e=>c5 (e.2.2.1.resolve_left c3))).symm⟩)
  ·repeat refine aC ?_
   refine iZ rfl rfl (⟨rfl,rfl,congrArg Value.bool (aW (fun e=>c2 e.2.1)).symm⟩)
 ·repeat refine aC ?_
  refine iZ rfl rfl (⟨rfl,rfl,congrArg Value.bool (aW (fun e=>c1 e.1)).symm⟩)
theorem aAN {r:RW} (hs:r.sml) (hw:Hv I0 (isW r)):CD Tryz.prog 161 [wv r] X w0 M0 I0 (fun v M I=>M0=M∧I0=I∧v= .bool (B (¬r.good))):=by
 refine aV Tryz.func161 rfl Tryz.ntmps161 rfl ?_
 refine fG ?_
 refine fQ rfl (fun b=>?_)
 repeat refine aC ?_
 refine dC rfl (aCA (r:=r) hs hw) ?_
 repeat refine aC ?_
 refine iZ rfl rfl (⟨rfl,rfl,rfl⟩)
theorem uF {r:WL} (hs:r.sml) (hw:jN r∈I0):CD Tryz.prog 135 [wE r] X w0 M0 I0 (fun v M I=>M0=M∧I0=I∧v= .bool (B r.good)):=by
 refine aL (φ:=aD r.p (recs eW r.es)) (Hv.wlsl hw) ?_
 have hl:=hs.1
 refine aV Tryz.func135 rfl Tryz.ntmps135 rfl ?_
 repeat refine aC ?_
 refine dC rfl (yM (g:=161) (fs:=#[]) (cs:=#[]) (fun (x:RW)=>¬x.good) (by omega) (List.Mem.head _) (fun i hi=>aAN (hs.2 _ (cB (by omega))) (Hv.wlel (List.Mem.tail _ hw) (by omega)))) ?_
 repeat refine aC ?_
 refine iZ rfl rfl (⟨rfl,rfl,congrArg Value.bool (gP ?_)⟩)
 exact ⟨fun e x hx=>Decidable.of_not_not (fun hn=>e ⟨x,hx,hn⟩),fun e ⟨x,hx,hn⟩=>hn (e x hx)⟩
end
def WM.code (m:WM):Int:=if m.ok then 0 else 1
def codeL (ms:List WM):Int:=if ∀m∈ms,m.ok then 0 else 1
def bothC (a b:WM):Int:=if a.ok∧b.ok then (if a.rows.length=b.rows.length∧(gt a.rows 0).es.length=(gt b.rows 0).es.length then 0 else 4) else 1
def sqC (a:WM):Int:=if a.ok then (if a.rows.length=(gt a.rows 0).es.length then 0 else 4) else 1
section
variable {P:Program} {n:Nat} {Q:Exit→Act→World→Prop} {G:Env} {X:List Nat} {w0:World} {M M':List Ent} {I I':List aN} {ops l:List Oper} {m:Fx.Mode} {ty:TypeId} {pos:String} {af:Array Edge} {g:Option (Nat × Bool)}
theorem nY {d:Nat} {t:TypeId} {x:Operand} {q:Option Addr} {len c:Nat} (hx:ev G x=some (.slice q len c)) (hg:lW ops G g=some true) (hd:Nat.ble (d+1) n=true)
  (k:∀b,OkD m X w0 (.blk b [.slice q len c] t::M) I∧RD P n ops Q m.nextE l ((d, .pointer (some ⟨b,0,none⟩))::G) X w0 M (aD (some ⟨b,0,none⟩) [.slice q len c]::I)):
  RD P n ops Q m (⟨some d, .box t x,ty,pos,af,g⟩::l) G X w0 M I:=aOI hx hg hd (fun b=>⟨(k b).1,aG .here (k b).2⟩)
end
section
variable {X:List Nat} {w0:World} {M0:List Ent} {I0:List aN}
theorem aCB {m:WM} {b:Nat} {r:WL} (hR:1≤m.rows.length) (hs:r.sml) (h:Hv I0 (jN r)) (hm:pR m∈I0) (hb:aD (some ⟨b,0,none⟩) [.slice m.p m.rows.length m.c]∈I0):
  CD Tryz.prog 159 [wE r, .pointer (some ⟨b,0,none⟩)] X w0 M0 I0 (fun v M I=>M0=M∧I0=I∧v= .bool (B (¬(r.es.length=(gt m.rows 0).es.length∧r.good)))):=by
 refine aL (φ:=jN r) h ?_
 refine aL (φ:=aD m.p (recs uX m.rows)) (Hv.wmsl (List.Mem.tail _ hm)) ?_
 by_cases he:r.es.length=(gt m.rows 0).es.length
 ·have hq:B (¬r.good)=B (¬(r.es.length=(gt m.rows 0).es.length∧r.good)):=gP (not_congr ⟨fun h=>⟨he,h⟩,fun h=>h.2⟩)
  refine aP Tryz.func159 rfl Tryz.ntmps159 rfl ?_
  repeat refine aC ?_
  refine dC rfl (uF (r:=r) hs aA) ?_
  repeat refine aC ?_
  refine iZ rfl rfl (⟨rfl,rfl,congrArg Value.bool hq⟩)
 ·have hn:¬(r.es.length=(gt m.rows 0).es.length∧r.good):=fun e=>he e.1
  have hq:B (¬(r.es.length=(gt m.rows 0).es.length∧r.good))=true:=bV hn
  refine aP Tryz.func159 rfl Tryz.ntmps159 rfl ?_
  repeat refine aC ?_
  refine iZ rfl rfl (⟨rfl,rfl,congrArg Value.bool hq.symm⟩)
theorem WM.code_ok {m:WM} (h:m.ok):m.code=0:=if_pos h
theorem WM.code_no {m:WM} (h:¬m.ok):m.code=1:=if_neg h
theorem yY {m:WM} (hs:m.sml) (hm:pR m∈I0):CD Tryz.prog 133 [mvW m] X w0 M0 I0 (fun v M I=>M0=M∧I0=I∧v= .int .i64 m.code):=by
 refine aL (φ:=aD m.p (recs uX m.rows)) (Hv.wmsl hm) ?_
 have hl:=hs.1
 by_cases hsh:1≤m.rows.length∧m.rows.length≤64∧1≤(gt m.rows 0).es.length∧(gt m.rows 0).es.length≤64
 ·obtain ⟨s1,s2,s3,s4⟩:=hsh
  by_cases hall:∃r∈m.rows,¬(r.es.length=(gt m.rows 0).es.length∧r.good)
  ·have hno:¬m.ok:=fun e=>by obtain ⟨r,hr,hn⟩:=hall;exact hn (e.2 r hr)
   rw [WM.code_no hno]
   refine aV Tryz.func133 rfl Tryz.ntmps133 rfl ?_
   refine fG ?_
   (refine nY rfl rfl rfl ?_;intro b;refine aU ?_)
   repeat refine aC ?_
   refine dC rfl (aEU (g:=159) (fs:=#[]) (cs:=#[.pointer (some ⟨b,0,none⟩)]) (fun (r:WL)=>¬(r.es.length=(gt m.rows 0).es.length∧r.good)) (by omega) aA (fun i hi=>aCB (m:=m) (b:=b) s1 (hs.2 _ (cB (by omega))) (Hv.wmrow aA (by omega)) aA aA)) ?_
   rw [bV hall]
   repeat refine aC ?_
   refine iZ rfl rfl (⟨rfl,rfl,rfl⟩)
  ·have hok:m.ok:=⟨⟨s1,s2,s3,s4⟩,fun r hr=>Decidable.of_not_not (fun hn=>hall ⟨r,hr,hn⟩)⟩
   rw [WM.code_ok hok]
   refine aV Tryz.func133 rfl Tryz.ntmps133 rfl ?_
   refine fG ?_
   (refine nY rfl rfl rfl ?_;intro b;refine aU ?_)
   repeat refine aC ?_
   refine dC rfl (aEU (g:=159) (fs:=#[]) (cs:=#[.pointer (some ⟨b,0,none⟩)]) (fun (r:WL)=>¬(r.es.length=(gt m.rows 0).es.length∧r.good)) (by omega) aA (fun i hi=>aCB (m:=m) (b:=b) s1 (hs.2 _ (cB (by omega))) (Hv.wmrow aA (by omega)) aA aA)) ?_
   rw [aW hall]
   repeat refine aC ?_
   refine iZ rfl rfl (⟨rfl,rfl,rfl⟩)
 ·have hno:¬m.ok:=fun e=>hsh e.1
  rw [WM.code_no hno]
  refine aV Tryz.func133 rfl Tryz.ntmps133 rfl ?_
  refine fG ?_
  (refine nY rfl rfl rfl ?_;intro b;refine aU ?_)
  by_cases c1:1≤m.rows.length
  ·by_cases c2:m.rows.length≤64
   ·by_cases c3:1≤(gt m.rows 0).es.length
    ·repeat refine aC ?_
     refine iZ rfl rfl (⟨rfl,rfl,rfl⟩)
    ·repeat refine aC ?_
     refine iZ rfl rfl (⟨rfl,rfl,rfl⟩)
   ·repeat refine aC ?_
    refine iZ rfl rfl (⟨rfl,rfl,rfl⟩)
  ·repeat refine aC ?_
   refine iZ rfl rfl (⟨rfl,rfl,rfl⟩)
theorem aJP {a:WM} (sa:a.sml) (ha:pR a∈I0):CD Tryz.prog 103 [mvW a] X w0 M0 I0 (fun v M I=>M0=M∧I0=I∧v= .int .i64 (sqC a)):=by
 have hC:=fun M0 I0 h1=>yY (X:=X) (w0:=w0) (M0:=M0) (I0:=I0) (m:=a) sa h1
 unfold sqC
 by_cases hok:a.ok
 ·rw [WM.code_ok hok] at hC
  rw [if_pos hok]
  obtain ⟨a1,a2,a3,a4⟩:=hok.1
  refine aL (φ:=aD a.p (recs uX a.rows)) (Hv.wmsl ha) ?_
  refine aV Tryz.func103 rfl Tryz.ntmps103 rfl ?_
  repeat refine aC ?_
  refine dC rfl (hC _ _ aA) ?_
  by_cases e1:a.rows.length=(gt a.rows 0).es.length
  ·rw [if_pos e1]
   repeat refine aC ?_
   refine iZ rfl rfl (⟨rfl,rfl,rfl⟩)
  ·rw [if_neg e1]
   repeat refine aC ?_
   refine iZ rfl rfl (⟨rfl,rfl,rfl⟩)
 ·rw [WM.code_no hok] at hC
  rw [if_neg hok]
  refine aV Tryz.func103 rfl Tryz.ntmps103 rfl ?_
  repeat refine aC ?_
  refine dC rfl (hC _ _ aA) ?_
  repeat refine aC ?_
  refine iZ rfl rfl (⟨rfl,rfl,rfl⟩)
end
end Go.Proofs.YthhldplegmeolaaGreat
namespace Go.Proofs.YthhldplegmeolaaGreat
open Go Go.Fx
structure AllL (rows:List RL) (k:Nat) (X:List Nat) (w:World):Prop where
 go:∀r∈rows,IsL r k X w
abbrev lJ (rows:List RL) (k:Nat):aN:=AllL rows k
instance (rows:List RL) (k:Nat):Fx.Good (AllL rows k):=⟨fun X Y w w' h he hY=>⟨fun r hm=>Fx.Good.go (φ:=IsL _ _) X Y w w' (h.go r hm) he hY⟩⟩
theorem Hv.nilL {I:List aN} {k:Nat}:Hv I (lJ [] k):=⟨fun X w _=>⟨fun x hx=>by simp at hx⟩⟩
theorem Hv.snocL {I:List aN} {rows:List RL} {r:RL} {k:Nat} (h1:lJ rows k∈I) (h2:dL r k∈I):Hv I (lJ (rows++[r]) k):=⟨fun X w hw=>⟨fun x hx=>by
 rcases List.mem_append.1 hx with hx|hx
 ·exact (hw _ h1:AllL rows k X w).go x hx
 ·rw [List.mem_singleton.1 hx];exact hw _ h2⟩⟩
section
variable {X:List Nat} {w0:World} {M:List Ent} {I:List aN}
theorem Mem.toL {w:World} {q:Option Addr} {c k:Nat} {es:List RE} {ty:TypeId} {sz:Nat} (h:Mem X w0 (.row q es.length c (recs eR es) ty sz::M) I w) (ha:aX es k∈I):Mem X w0 M (dL ⟨q,c,es⟩ k::I) w:=by
 have ho:=h.rowS List.mem_cons_self
 have hc:=h.rowLe List.mem_cons_self
 have h1:=h.freezeR .here
 refine (h1.add (φ:=dL ⟨q,c,es⟩ k) ⟨(h1.sl (List.Mem.head _)),(((h1.imm _ (List.Mem.tail _ ha)).2:AllR es k _ w)).go,⟨hc,ho.2.imp id And.right⟩⟩).inc (.of fun φ hφ=>?_)
 rcases List.mem_cons.1 hφ with rfl|hφ
 ·exact List.Mem.head _
 ·exact List.Mem.tail _ (List.Mem.tail _ hφ)
theorem Mem.toX {w:World} {q:Option Addr} {c k:Nat} {rows:List RL} {ty:TypeId} {sz:Nat} (h:Mem X w0 (.row q rows.length c (recs eL rows) ty sz::M) I w) (ha:lJ rows k∈I):Mem X w0 M (gQ ⟨q,c,rows⟩ k::I) w:=by
 have ho:=h.rowS List.mem_cons_self
 have hc:=h.rowLe List.mem_cons_self
 have h1:=h.freezeR .here
 refine (h1.add (φ:=gQ ⟨q,c,rows⟩ k) ⟨(h1.sl (List.Mem.head _)),(((h1.imm _ (List.Mem.tail _ ha)).2:AllL rows k _ w)).go,⟨hc,ho.2.imp id And.right⟩⟩).inc (.of fun φ hφ=>?_)
 rcases List.mem_cons.1 hφ with rfl|hφ
 ·exact List.Mem.head _
 ·exact List.Mem.tail _ (List.Mem.tail _ hφ)
variable {P:Program} {n:Nat} {Q:Exit→Act→World→Prop} {G:Env}
theorem aLN {ops l:List Oper} {m:Fx.Mode} {q:Option Addr} {c k:Nat} {es:List RE} {ty:TypeId} {sz:Nat} (ha:aX es k∈I) (h:RD P n ops Q m l G X w0 M (dL ⟨q,c,es⟩ k::I)):RD P n ops Q m l G X w0 (.row q es.length c (recs eR es) ty sz::M) I:=mO (fun _ hw=>Mem.toL hw ha) h
theorem aSL {cd:Code} {q:Option Addr} {c k:Nat} {es:List RE} {ty:TypeId} {sz:Nat} (ha:aX es k∈I) (h:TD P n cd Q G X w0 M (dL ⟨q,c,es⟩ k::I)):TD P n cd Q G X w0 (.row q es.length c (recs eR es) ty sz::M) I:=aCN (fun _ hw=>Mem.toL hw ha) h
theorem sO {ex:Exit} {q:Option Addr} {c k:Nat} {es:List RE} {ty:TypeId} {sz:Nat} (ha:aX es k∈I) (h:ND n Q ex G X w0 M (dL ⟨q,c,es⟩ k::I)):ND n Q ex G X w0 (.row q es.length c (recs eR es) ty sz::M) I:=rU (fun _ hw=>Mem.toL hw ha) h
theorem aSJ {ex:Exit} {q:Option Addr} {c k:Nat} {rows:List RL} {ty:TypeId} {sz:Nat} (ha:lJ rows k∈I) (h:ND n Q ex G X w0 M (gQ ⟨q,c,rows⟩ k::I)):ND n Q ex G X w0 (.row q rows.length c (recs eL rows) ty sz::M) I:=rU (fun _ hw=>Mem.toX hw ha) h
end
end Go.Proofs.YthhldplegmeolaaGreat
namespace Go.Proofs.YthhldplegmeolaaGreat
def sm:Nat→(Nat→Rat)→Rat
 |0,_=>0
 |n+1,f=>sm n f+f n
theorem bS {n:Nat} {f g:Nat→Rat} (h:∀i,i < n→f i=g i):sm n f=sm n g:=by
 induction n with
 |zero=>rfl
 |succ n ih=>simp only [sm];rw [ih (fun i hi=>h i (by omega)),h n (by omega)]
theorem rE {n:Nat} {f:Nat→Rat} (h:∀i,i < n→f i=0):sm n f=0:=by
 induction n with
 |zero=>rfl
 |succ n ih=>simp only [sm];rw [ih (fun i hi=>h i (by omega)),h n (by omega)];grind
theorem aCT {n:Nat} {f g:Nat→Rat}:sm n (fun i=>f i+g i)=sm n f+sm n g:=by
 induction n with
 |zero=>simp only [sm];grind
 |succ n ih=>simp only [sm];rw [ih];grind
theorem sm_mul {n:Nat} {f:Nat→Rat} {c:Rat}:sm n (fun i=>c*f i)=c*sm n f:=by
 induction n with
 |zero=>simp only [sm];grind
 |succ n ih=>simp only [sm];rw [ih];grind
theorem aGP {n:Nat} {f g:Nat→Rat} {c d:Rat}:sm n (fun i=>c*f i+d*g i)=c*sm n f+d*sm n g:=by
 rw [aCT,sm_mul,sm_mul]
theorem aHS {n m:Nat} {f:Nat→Nat→Rat}:sm n (fun i=>sm m (fun j=>f i j))=sm m (fun j=>sm n (fun i=>f i j)):=by
 induction n with
 |zero=>simp only [sm];rw [rE (fun _ _=>rfl)]
 |succ n ih=>simp only [sm];rw [ih,←aCT]
theorem rH {n p:Nat} {f:Nat→Rat} (hp:p < n) (h:∀i,i < n→i≠p→f i=0):sm n f=f p:=by
 induction n with
 |zero=>omega
 |succ n ih=>
  simp only [sm]
  by_cases e:p=n
  ·subst e
   rw [rE (fun i hi=>h i (by omega) (by omega))];grind
  ·rw [ih (by omega) (fun i hi hne=>h i (by omega) hne),h n (by omega) (fun e'=>e e'.symm)];grind
def sk (j k:Nat):Nat:=if k < j then k else k+1
theorem aPJ {n j:Nat} {g:Nat→Rat} (hj:j≤n):sm (n+1) g=g j+sm n (fun k=>g (sk j k)):=by
 induction n with
 |zero=>
  obtain rfl:j=0:=by omega
  simp only [sm];grind
 |succ n ih=>
  by_cases e:j=n+1
  ·subst e
   have:sm (n+1) (fun k=>g (sk (n+1) k))=sm (n+1) g:=bS (fun i hi=>by simp only [sk];rw [if_pos (by omega)])
   rw [this]
   simp only [sm];grind
  ·have h1:=ih (by omega)
   have h2:sm (n+1) (fun k=>g (sk j k))=sm n (fun k=>g (sk j k))+g (n+1):=by
    simp only [sm]
    have:sk j n=n+1:=by simp only [sk];rw [if_neg (by omega)]
    rw [this]
   rw [h2]
   show sm (n+1) g+g (n+1)=_
   rw [h1];grind
def sgd (j:Nat):Rat:=if j % 2=0 then 1 else -1
def dt:Nat→(Nat→Nat→Rat)→Rat
 |0,_=>1
 |n+1,f=>sm (n+1) (fun j=>sgd j*f 0 j*dt n (fun i k=>f (i+1) (sk j k)))
theorem jO:∀{n:Nat} {f g:Nat→Nat→Rat},(∀i j,i < n→j < n→f i j=g i j)→dt n f=dt n g
 |0,_,_,_=>rfl
 |n+1,f,g,h=>by
  simp only [dt]
  apply bS
  intro j hj
  rw [h 0 j (by omega) hj,jO (n:=n) (f:=fun i k=>f (i+1) (sk j k)) (g:=fun i k=>g (i+1) (sk j k)) (fun i k hi hk=>h _ _ (by omega) (by simp only [sk];split <;>omega))]
def uY (f:Nat→Nat→Rat) (i:Nat) (r:Nat→Rat):Nat→Nat→Rat:=fun a b=>if a=i then r b else f a b
theorem aGO:∀{n:Nat} {f:Nat→Nat→Rat} {i:Nat} {r s:Nat→Rat} {x y:Rat},i < n→dt n (uY f i (fun b=>x*r b+y*s b))=x*dt n (uY f i r)+y*dt n (uY f i s)
 |0,_,_,_,_,_,_,h=>by omega
 |n+1,f,0,r,s,x,y,_=>by
  have hm:∀(t:Nat→Rat) (j:Nat),(fun i k=>uY f 0 t (i+1) (sk j k))=fun i k=>f (i+1) (sk j k):=fun t j=>by
   funext i k;simp only [uY];rw [if_neg (by omega)]
  have h0:∀(t:Nat→Rat) (j:Nat),uY f 0 t 0 j=t j:=fun t j=>by simp [uY]
  simp only [dt,hm,h0]
  rw [←aGP]
  apply bS
  intro j _
  grind
 |n+1,f,i+1,r,s,x,y,h=>by
  have hm:∀(t:Nat→Rat) (j:Nat),(fun a k=>uY f (i+1) t (a+1) (sk j k))=uY (fun a k=>f (a+1) (sk j k)) i (fun k=>t (sk j k)):=fun t j=>by
   funext a k;simp only [uY]
   by_cases e:a=i
   ·rw [if_pos (by omega),if_pos e]
   ·rw [if_neg (by omega),if_neg e]
  have h0:∀(t:Nat→Rat) (j:Nat),uY f (i+1) t 0 j=f 0 j:=fun t j=>by simp only [uY];rw [if_neg (by omega)]
  simp only [dt,hm,h0]
  rw [←aGP]
  apply bS
  intro j _
  rw [aGO (n:=n) (f:=fun a k=>f (a+1) (sk j k)) (i:=i) (r:=fun k=>r (sk j k)) (s:=fun k=>s (sk j k)) (by omega)]
  grind
def swn (f:Nat→Nat→Rat) (i:Nat):Nat→Nat→Rat:=fun a b=>if a=i then f (i+1) b else if a=i+1 then f i b else f a b
def usk (j k:Nat):Nat:=if k < j then k else k - 1
theorem aSS (j k:Nat):usk j (sk j k)=k:=by
 by_cases h:k < j
 ·simp [usk,sk,h]
 ·simp [usk,sk,h,show ¬k+1 < j by omega]
theorem aSB {n j:Nat} {g:Nat→Rat} (hj:j≤n):sm n (fun k=>g (sk j k))=sm (n+1) (fun k=>if k=j then 0 else g k):=by
 rw [aPJ (g:=fun k=>if k=j then 0 else g k) hj,if_pos rfl]
 have:sm n (fun k=>(fun k=>if k=j then (0:Rat) else g k) (sk j k))=sm n (fun k=>g (sk j k)):=bS (fun k _=>by
  have:sk j k≠j:=by simp only [sk];split <;>omega
  simp only [if_neg this])
 rw [this];grind
def tw (j k:Nat):Rat:=sgd j*sgd (usk j k)
theorem aEK {j:Nat} (h:0 < j):sgd (j - 1)= - sgd j:=by
 unfold sgd
 by_cases a:j % 2=0
 ·have:¬(j - 1) % 2=0:=by omega
  simp [a,this]
 ·have:(j - 1) % 2=0:=by omega
  simp [a,this]
theorem aQL {j k:Nat} (h:j≠k):tw j k= - tw k j:=by
 unfold tw
 rcases Nat.lt_or_ge k j with h1|h1
 ·have e1:usk j k=k:=by simp [usk,h1]
  have e2:usk k j=j - 1:=by simp [usk,show ¬j < k by omega]
  rw [e1,e2,aEK (by omega)];grind
 ·have e1:usk j k=k - 1:=by simp [usk,show ¬k < j by omega]
  have e2:usk k j=j:=by simp [usk,show j < k by omega]
  rw [e1,e2,aEK (by omega)];grind
theorem aSV {j k l:Nat} (h:j≠k):sk j (sk (usk j k) l)=sk k (sk (usk k j) l):=by
 simp only [sk,usk]
 repeat' split
 all_goals omega
theorem aOU {n:Nat} {f:Nat→Nat→Rat}:dt (n+2) f=sm (n+2) (fun j=>sm (n+2) (fun k=>if k=j then 0 else tw j k*f 0 j*f 1 k*dt n (fun i l=>f (i+2) (sk j (sk (usk j k) l))))):=by
 show sm (n+2) (fun j=>sgd j*f 0 j*dt (n+1) (fun i k=>f (i+1) (sk j k)))=_
 apply bS
 intro j hj
 rw [←aSB (g:=fun k=>tw j k*f 0 j*f 1 k*dt n (fun i l=>f (i+2) (sk j (sk (usk j k) l)))) (by omega)]
 show sgd j*f 0 j*sm (n+1) (fun k=>sgd k*f 1 (sk j k)*dt n (fun i l=>f (i+2) (sk j (sk k l))))=_
 rw [←sm_mul]
 apply bS
 intro k _
 simp only [aSS,tw]
 grind
theorem aNE {n:Nat} {f:Nat→Nat→Rat}:dt (n+2) (swn f 0)= - dt (n+2) f:=by
 rw [aOU,aOU,aHS]
 have e:∀x:Rat, -x= -1*x:=fun x=>by grind
 rw [e,←sm_mul]
 apply bS
 intro j hj
 rw [←sm_mul]
 apply bS
 intro k hk
 by_cases h:j=k
 ·rw [if_pos h,if_pos h.symm];grind
 ·rw [if_neg h,if_neg (fun e=>h e.symm),aQL (j:=k) (k:=j) (fun e=>h e.symm)]
  have h0:swn f 0 0 k=f 1 k:=by simp [swn]
  have h1:swn f 0 1 j=f 0 j:=by simp [swn]
  have h2:(fun i l=>swn f 0 (i+2) (sk k (sk (usk k j) l)))=fun i l=>f (i+2) (sk j (sk (usk j k) l)):=by
   funext i l
   rw [aSV h]
   simp only [swn]
   rw [if_neg (by omega),if_neg (by omega)]
  rw [h0,h1,h2]
  grind
theorem aGG:∀{n i:Nat} {f:Nat→Nat→Rat},i+1 < n→dt n (swn f i)= - dt n f
 |0,_,_,h=>by omega
 |1,_,_,h=>by omega
 |n+2,0,f,_=>aNE
 |n+2,i+1,f,h=>by
  have hm:∀j:Nat,(fun a k=>swn f (i+1) (a+1) (sk j k))=swn (fun a k=>f (a+1) (sk j k)) i:=fun j=>by
   funext a k;simp only [swn]
   by_cases e:a=i
   ·rw [if_pos (by omega),if_pos e]
   ·rw [if_neg (by omega),if_neg e]
    by_cases e2:a=i+1
    ·rw [if_pos (by omega),if_pos e2]
    ·rw [if_neg (by omega),if_neg e2]
  have h0:∀j:Nat,swn f (i+1) 0 j=f 0 j:=fun j=>by simp only [swn];rw [if_neg (by omega),if_neg (by omega)]
  show sm (n+2) (fun j=>sgd j*swn f (i+1) 0 j*dt (n+1) (fun a k=>swn f (i+1) (a+1) (sk j k)))= - sm (n+2) (fun j=>sgd j*f 0 j*dt (n+1) (fun a k=>f (a+1) (sk j k)))
  have e:∀x:Rat, -x= -1*x:=fun x=>by grind
  rw [e,←sm_mul]
  apply bS
  intro j _
  rw [hm,h0,aGG (n:=n+1) (i:=i) (by omega)]
  grind
theorem aSK {n i:Nat} {f:Nat→Nat→Rat} (h:i+1 < n) (he:∀b,f i b=f (i+1) b):dt n f=0:=by
 have h1:=aGG (f:=f) h
 have h2:swn f i=f:=by
  funext a b;simp only [swn]
  by_cases e:a=i
  ·rw [if_pos e,e];exact (he b).symm
  ·rw [if_neg e]
   by_cases e2:a=i+1
   ·rw [if_pos e2,e2];exact he b
   ·rw [if_neg e2]
 rw [h2] at h1
 grind
theorem aHC:∀{d n p:Nat} {f:Nat→Nat→Rat},p+d+1 < n→(∀b,f p b=f (p+d+1) b)→dt n f=0
 |0,_,_,_,h,he=>aSK h he
 |d+1,n,p,f,h,he=>by
  have h1:=aGG (n:=n) (i:=p+d+1) (f:=f) (by omega)
  have h2:dt n (swn f (p+d+1))=0:=by
   apply aHC (d:=d) (p:=p) (by omega)
   intro b
   have e1:swn f (p+d+1) p b=f p b:=by simp [swn,show ¬p=p+d+1 by omega,show ¬p=p+d+1+1 by omega]
   have e2:swn f (p+d+1) (p+d+1) b=f (p+d+1+1) b:=by simp [swn]
   rw [e1,e2]
   exact he b
  rw [h2] at h1
  grind
theorem dt_eq {n p q:Nat} {f:Nat→Nat→Rat} (hp:p < n) (hq:q < n) (hpq:p≠q) (he:∀b,f p b=f q b):dt n f=0:=by
 rcases Nat.lt_or_ge p q with h|h
 ·obtain ⟨d,rfl⟩:∃d,q=p+d+1:=⟨q - p - 1,by omega⟩
  exact aHC hq he
 ·obtain ⟨d,rfl⟩:∃d,p=q+d+1:=⟨p - q - 1,by omega⟩
  exact aHC hp (fun b=>(he b).symm)
theorem aFI {f:Nat→Nat→Rat} {i:Nat}:uY f i (f i)=f:=by
 funext a b;simp only [uY];split
 ·rename_i h;rw [h]
 ·rfl
theorem sW {n i p:Nat} {f:Nat→Nat→Rat} {c:Rat} (hi:i < n) (hp:p < n) (hne:p≠i):dt n (uY f i (fun b=>f i b+c*f p b))=dt n f:=by
 have h1:=aGO (n:=n) (f:=f) (i:=i) (r:=f i) (s:=f p) (x:=1) (y:=c) hi
 have h2:(fun b=>(1:Rat)*f i b+c*f p b)=fun b=>f i b+c*f p b:=by funext b;grind
 have h3:dt n (uY f i (f p))=0:=dt_eq (p:=p) (q:=i) hp hi hne (fun b=>by simp [uY,hne])
 rw [h2,h3,aFI] at h1
 rw [h1];grind
theorem zZ {n i:Nat} {f:Nat→Nat→Rat} {c:Rat} (hi:i < n):dt n (uY f i (fun b=>c*f i b))=c*dt n f:=by
 have h1:=aGO (n:=n) (f:=f) (i:=i) (r:=f i) (s:=f i) (x:=c) (y:=0) hi
 have h2:(fun b=>c*f i b+0*f i b)=fun b=>c*f i b:=by funext b;grind
 rw [h2,aFI] at h1
 rw [h1];grind
def tr (r k a:Nat):Nat:=if a=r then k else if a=k then r else a
theorem zW {r k a n:Nat} (hr:r < n) (hk:k < n) (ha:a < n):tr r k a < n:=by simp only [tr];split;assumption;split <;>assumption
theorem aQX {n r k:Nat} {f:Nat→Nat→Rat} (hr:r < n) (hk:k < n) (h:r≠k):dt n (fun a b=>f (tr r k a) b)= - dt n f:=by
 have a1:=sW (n:=n) (i:=r) (p:=k) (f:=f) (c:=1) hr hk (fun e=>h e.symm)
 obtain ⟨f1,hf1⟩:∃f1,f1=uY f r (fun b=>f r b+1*f k b):=⟨_,rfl⟩
 rw [←hf1] at a1
 have a2:=sW (n:=n) (i:=k) (p:=r) (f:=f1) (c:= -1) hk hr h
 obtain ⟨f2,hf2⟩:∃f2,f2=uY f1 k (fun b=>f1 k b+ -1*f1 r b):=⟨_,rfl⟩
 rw [←hf2] at a2
 have a3:=sW (n:=n) (i:=r) (p:=k) (f:=f2) (c:=1) hr hk (fun e=>h e.symm)
 obtain ⟨f3,hf3⟩:∃f3,f3=uY f2 r (fun b=>f2 r b+1*f2 k b):=⟨_,rfl⟩
 rw [←hf3] at a3
 have a4:=zZ (n:=n) (i:=k) (f:=f3) (c:= -1) hk
 have e:uY f3 k (fun b=> -1*f3 k b)=fun a b=>f (tr r k a) b:=by
  funext a b
  simp only [hf3,hf2,hf1,uY,tr]
  have hkr:¬k=r:=fun e=>h e.symm
  by_cases e1:a=k
  ·subst e1
   simp only [if_true,if_neg hkr,if_neg h]
   grind
  ·by_cases e2:a=r
   ·subst e2
    simp only [if_neg h,if_neg hkr,if_true]
    grind
   ·simp only [if_neg e1,if_neg e2]
 rw [e,a3,a2,a1] at a4
 rw [a4];grind
theorem aJB:∀{n:Nat} {f:Nat→Nat→Rat},(∀i,i < n+1→f i 0=0)→dt (n+1) f=0
 |0,f,h=>by simp only [dt,sm];rw [h 0 (by omega)];grind
 |n+1,f,h=>by
  show sm (n+2) (fun j=>sgd j*f 0 j*dt (n+1) (fun i k=>f (i+1) (sk j k)))=0
  apply rE
  intro j hj
  by_cases e:j=0
  ·subst e;rw [h 0 (by omega)];grind
  ·rw [aJB (n:=n) (fun i hi=>by show f (i+1) (sk j 0)=0;simp only [sk];rw [if_pos (by omega)];exact h _ (by omega))];grind
theorem aLO {n:Nat} {f:Nat→Nat→Rat} (h:∀i,1≤i→i < n+1→f i 0=0):dt (n+1) f=f 0 0*dt n (fun i k=>f (i+1) (k+1)):=by
 show sm (n+1) (fun j=>sgd j*f 0 j*dt n (fun i k=>f (i+1) (sk j k)))=_
 rw [rH (p:=0) (by omega)]
 ·have:(fun i k=>f (i+1) (sk 0 k))=fun i k=>f (i+1) (k+1):=by
   funext i k;simp only [sk];rw [if_neg (by omega)]
  rw [this]
  have:sgd 0=1:=by simp [sgd]
  rw [this];grind
 ·intro j hj hne
  cases n with
  |zero=>omega
  |succ n=>
   rw [aJB (n:=n) (fun i hi=>by show f (i+1) (sk j 0)=0;simp only [sk];rw [if_pos (by omega)];exact h _ (by omega) (by omega))];grind
theorem aQR {n i:Nat} {f:Nat→Nat→Rat} (hi:i < n) (h:∀j,j < n→f i j=0):dt n f=0:=by
 have h1:=zZ (n:=n) (i:=i) (f:=f) (c:=0) hi
 have h2:dt n (uY f i (fun b=>0*f i b))=dt n f:=jO (fun a b _ hb=>by
  simp only [uY];split
  ·rename_i e;rw [e,h b hb];grind
  ·rfl)
 rw [h2] at h1
 rw [h1];grind
theorem aQG {n r:Nat} {f:Nat→Nat→Rat} {c:Nat→Rat} (hr:r < n):dt n (fun a b=>if a=r then f r b else f a b - c a*f r b)=dt n f:=by
 have step:∀m,m≤n→dt n (fun a b=>if a=r then f r b else if a < m then f a b - c a*f r b else f a b)=dt n f:=by
  intro m
  induction m with
  |zero=>intro _;exact jO (fun a b _ _=>by by_cases e:a=r <;>simp [e])
  |succ m ih=>
   intro hm
   have h1:=ih (by omega)
   by_cases e:m=r
   ·rw [←h1]
    apply jO
    intro a b _ _
    by_cases ea:a=r
    ·rw [if_pos ea,if_pos ea]
    ·rw [if_neg ea,if_neg ea]
     by_cases em:a < m
     ·rw [if_pos em,if_pos (by omega)]
     ·rw [if_neg em,if_neg (by omega)]
   ·obtain ⟨g,hg⟩:∃g:Nat→Nat→Rat,g=fun a b=>if a=r then f r b else if a < m then f a b - c a*f r b else f a b:=⟨_,rfl⟩
    rw [←hg] at h1
    have h2:=sW (n:=n) (i:=m) (p:=r) (f:=g) (c:= - c m) (by omega) hr (fun e'=>e e'.symm)
    rw [h1] at h2
    rw [←h2]
    apply jO
    intro a b _ _
    have hgr:∀b,g r b=f r b:=fun b=>by rw [hg];simp
    have hgm:∀b,g m b=f m b:=fun b=>by rw [hg];simp [e]
    simp only [uY]
    by_cases ea:a=r
    ·subst ea
     rw [if_pos rfl,if_neg (fun e'=>e e'.symm),hgr]
    ·rw [if_neg ea]
     by_cases em:a=m
     ·subst em
      rw [if_pos (by omega),if_pos rfl,hgm,hgr];grind
     ·rw [if_neg em,hg]
      by_cases el:a < m
      ·simp [ea,el,show a < m+1 by omega]
      ·simp [ea,el,show ¬a < m+1 by omega]
 rw [←step n (Nat.le_refl _)]
 apply jO
 intro a b ha _
 by_cases ea:a=r
 ·rw [if_pos ea,if_pos ea]
 ·rw [if_neg ea,if_neg ea,if_pos ha]
def elm (r k:Nat) (κ:Rat) (c:Nat→Rat) (f:Nat→Nat→Rat):Nat→Nat→Rat:=fun a b=>if a=r then κ*f (tr r k r) b else f (tr r k a) b - c a*(κ*f (tr r k r) b)
def esg (r k:Nat):Rat:=if r=k then 1 else -1
theorem aST {n r k:Nat} {κ:Rat} {c:Nat→Rat} {f:Nat→Nat→Rat} (hr:r < n) (hk:k < n):dt n (elm r k κ c f)=esg r k*κ*dt n f:=by
 obtain ⟨g,hg⟩:∃g:Nat→Nat→Rat,g=fun a b=>f (tr r k a) b:=⟨_,rfl⟩
 have h1:dt n g=esg r k*dt n f:=by
  rw [hg]
  unfold esg
  by_cases e:r=k
  ·subst e
   rw [if_pos rfl,show (fun a b=>f (tr r r a) b)=f by funext a b;simp only [tr];split <;>simp_all];grind
  ·rw [if_neg e,aQX hr hk e];grind
 have h2:=zZ (n:=n) (i:=r) (f:=g) (c:=κ) hr
 obtain ⟨s,hs⟩:∃s,s=uY g r (fun b=>κ*g r b):=⟨_,rfl⟩
 rw [←hs] at h2
 have h3:=aQG (n:=n) (r:=r) (f:=s) (c:=c) hr
 have h4:elm r k κ c f=fun a b=>if a=r then s r b else s a b - c a*s r b:=by
  funext a b
  have hsr:s r b=κ*f (tr r k r) b:=by rw [hs,hg];simp [uY]
  simp only [elm]
  rw [hsr]
  by_cases e:a=r
  ·rw [if_pos e,if_pos e]
  ·rw [if_neg e,if_neg e,hs,hg];simp [uY,e]
 rw [h4,h3,h2,h1];grind
end Go.Proofs.YthhldplegmeolaaGreat
