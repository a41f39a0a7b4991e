/- integer: the numbers: made, Valid, groups, Sign, Neg, Mul slices.Backward at slices of uin -/
import Derived.Test.YtejbgkajdomgcaaZvag
import Derived.Test.YtejbgkajdomgcaaZvaf
import Derived.RangeFuncNested
import Derived.RangeFuncBound
import Derived.RangeFuncCalls
import Derived.RangeFuncLeaves
import Derived.Shelf.Abstract
import Derived.WalkKit
import Derived.OwnWalkIn
import Derived.TacticsInMore
import Derived.LoopNIn
import Derived.LoopIn
import Derived.Test.YtejbgkajdomgcaaZvae
set_option linter.unusedSimpArgs false
set_option linter.unusedVariables false
set_option maxRecDepth 100000
set_option maxHeartbeats 4000000
namespace Go.Proofs.Ytejbgkajdomgcaa
open Go Go.Fx
def iv (q:Option Addr) (c:Nat) (z:Int):Value:= .agg #[.bool (B (z < 0)), .slice q (gr z.natAbs).length c]
abbrev uE (q:Option Addr) (n c:Nat):Prop:=(gr n).length≤c∧(Ok q∨((gr n).length=0∧c=0))
structure IsI (u:Value) (z:Int) (k:Nat) (X:List Nat) (w:World):Prop where
 ex:∃q c,u=iv q c z∧uE q z.natAbs c∧z.natAbs≤2 ^ k∧Sl X w q (recs eG (gr z.natAbs))
abbrev qR (u:Value) (z:Int) (k:Nat):aO:=IsI u z k
instance (u:Value) (z:Int) (k:Nat):Fx.Good (IsI u z k):=⟨fun X Y w w' h he hY=>by
 obtain ⟨q,c,h1,h2,h3,h4⟩:=h.ex
 exact ⟨q,c,h1,h2,h3,Sl.carry h4 he hY⟩⟩
def sg (p:Prop) [Decidable p] (n:Nat):Int:=if p then -(n:Int) else n
theorem aNO (p:Prop) [Decidable p] (n:Nat):(sg p n).natAbs=n:=by unfold sg;split <;>omega
theorem aPO (z:Int):sg (¬z < 0) z.natAbs= -z:=by unfold sg;split <;>omega
theorem sg_lt {p:Prop} [Decidable p] {n:Nat} (h:n≠0):sg p n < 0↔p:=by unfold sg;split <;>simp_all <;>omega
section
variable {P:Program} {n:Nat} {Q:Exit→Act→World→Prop} {G:Env} {X:List Nat} {w0:World} {M M':List Ent} {I I':List aO}
theorem nU {f:FuncId} {vs:List Value} {K:Value→List Ent→List aO→Prop} {u:Value} {z:Int} {k:Nat} (hu:qR u z k∈I)
  (h:∀q c,u=iv q c z→uE q z.natAbs c→z.natAbs≤2 ^ k→CD P f vs X w0 M (aN q (recs eG (gr z.natAbs))::I) K):CD P f vs X w0 M I K:=
 ⟨fun w hw=>by
  obtain ⟨q,c,h1,h2,h3,h4⟩:=((hw.imm _ hu).2).ex
  exact (h q c h1 h2 h3).go w (hw.add (φ:=aN q _) ⟨h4⟩)⟩
theorem aOC {w:World} {q:Option Addr} {c:Nat} {z:Int} {k:Nat} (hw:Mem X w0 M I w) (hm:aN q (recs eG (gr z.natAbs))∈I) (hc:uE q z.natAbs c) (hk:z.natAbs≤2 ^ k):Mem X w0 M (qR (iv q c z) z k::I) w:=
 hw.add (φ:=qR _ z k) ⟨q,c,rfl,hc,hk,hw.sl hm⟩
theorem xN {ex:Exit} {q:Option Addr} {c:Nat} {z:Int} {k:Nat} (hm:aN q (recs eG (gr z.natAbs))∈I) (hc:uE q z.natAbs c) (hk:z.natAbs≤2 ^ k) (h:ND n Q ex G X w0 M (qR (iv q c z) z k::I)):ND n Q ex G X w0 M I:=zO (fun _ hw=>aOC hw hm hc hk) h
theorem jR {ops l:List Oper} {m:Fx.Mode} {u:Value} {z:Int} {k:Nat} (hu:qR u z k∈I)
  (h:∀q c,u=iv q c z→uE q z.natAbs c→z.natAbs≤2 ^ k→RD P n ops Q m l G X w0 M (aN q (recs eG (gr z.natAbs))::I)):RD P n ops Q m l G X w0 M I:=
 ⟨fun w hw=>by
  obtain ⟨q,c,h1,h2,h3,h4⟩:=((hw.imm _ hu).2).ex
  exact (h q c h1 h2 h3).go w (hw.add (φ:=aN q _) ⟨h4⟩)⟩
end
theorem aDI {n k:Nat} (h:n≤2 ^ k) (hk:k≤1000000000000):(gr n).length≤40000000000:=by
 have:=dJ h
 omega
/- ---------- IndexFunc, ContainsFunc of []uint32 ---------- -/
section
variable {X:List Nat} {w0:World} {M0:List Ent} {I0:List aO}
theorem aLC {q:Option Addr} {a:List Int} {c:Nat} {g:FuncId} [FnOk Try.prog g] {fs cs:Array Value} (pr:Int→Prop) [DecidablePred pr] (hn:(a.length:Int)≤9223372036854775807) (ha:aN q (recs eG a)∈I0)
  (hg:∀i:Nat,i < a.length→CD Try.prog g (fs.toList++[Value.int .u32 (gt a i)]++cs.toList) X w0 M0 I0 (fun v M I=>M0=M∧I0=I∧v= .bool (B (pr (gt a i))))):
  CD Try.prog 99 [.slice q a.length c, .func (.func g) fs cs] X w0 M0 I0 (fun v M I=>M0=M∧I0=I∧∃r:Int,v= .int .i64 r∧((∃i:Nat,i < a.length∧r=i∧pr (gt a i)∧∀j:Nat,j < i→¬pr (gt a j))∨(r= -1∧∀j:Nat,j < a.length→¬pr (gt a j)))):=by
 refine aX Try.func99 rfl Try.ntmps99 rfl ?_
 repeat refine jY ?_
 refine aU [0,1,7] rfl (fun k G M I=>∃i:Nat,i≤a.length∧k=a.length - i∧(∀j:Nat,j < i→¬pr (gt a j))∧G=[(8, .int .i64 i)]∧M=M0∧I=I0) (a.length) _ _ _ aT aJ aI (⟨0,by omega,rfl,fun j hj=>by omega,rfl,rfl,rfl⟩) ?_
 rintro k G M I ⟨i,hi,rfl,hs,rfl,rfl,rfl⟩
 repeat' (first|refine jY ?_|refine bG rfl (fun h=>?_) (fun h=>?_)|refine bI rfl rfl (fun h=>?_) (fun h=>?_)|fail)
 ·have hlt:i < a.length:=by omega
  (refine nG rfl rfl (hg i hlt) rfl rfl rfl ?_;rintro _ _ _ ⟨rfl,rfl,rfl⟩;refine ⟨okJ,?_⟩)
  repeat' (first|refine jY ?_|refine bG rfl (fun h=>?_) (fun h=>?_)|refine bI rfl rfl (fun h=>?_) (fun h=>?_)|fail)
  ·refine bF (by first|exact .inl rfl|exact .inr rfl) rfl rfl _ _ aJ aI (⟨rfl,rfl,_,rfl, .inl ⟨i,hlt,rfl,by assumption,hs⟩⟩)
  ·refine aK (a.length - (i+1)) _ _ _ (by first|omega|(simp only [List.length_append,List.length_cons,List.length_nil];omega)) aT aJ aI (⟨i+1,by omega,rfl,fun j hj=>?_,rfl,rfl,rfl⟩)
   by_cases e:j=i
   ·subst e;assumption
   ·exact hs j (by omega)
 ·refine bF (by first|exact .inl rfl|exact .inr rfl) rfl rfl _ _ aJ aI (⟨rfl,rfl,_,rfl, .inr ⟨rfl,fun j hj=>hs j (by omega)⟩⟩)
theorem aLJ {q:Option Addr} {a:List Int} {c:Nat} {g:FuncId} [FnOk Try.prog g] {fs cs:Array Value} (pr:Int→Prop) [DecidablePred pr] (hn:(a.length:Int)≤9223372036854775807) (ha:aN q (recs eG a)∈I0)
  (hg:∀i:Nat,i < a.length→CD Try.prog g (fs.toList++[Value.int .u32 (gt a i)]++cs.toList) X w0 M0 I0 (fun v M I=>M0=M∧I0=I∧v= .bool (B (pr (gt a i))))):
  CD Try.prog 94 [.slice q a.length c, .func (.func g) fs cs] X w0 M0 I0 (fun v M I=>M0=M∧I0=I∧v= .bool (B (∃x∈a,pr x))):=by
 refine aX Try.func94 rfl Try.ntmps94 rfl ?_
 repeat refine jY ?_
 (refine dS rfl (aLC pr hn ha hg) ?_;rintro _ _ _ ⟨rfl,rfl,r,rfl,h⟩;refine cK ?_)
 repeat refine jY ?_
 refine bF (by first|exact .inl rfl|exact .inr rfl) rfl rfl _ _ aJ aI (⟨rfl,rfl,congrArg Value.bool (qA ?_)⟩)
 rcases h with ⟨i,hi,rfl,hp,_⟩|⟨rfl,h⟩
 ·exact ⟨fun _=>⟨gt a i,by rw [aP hi];exact List.getElem_mem hi,hp⟩,fun _=>by omega⟩
 ·refine ⟨fun h=>by omega,?_⟩
  rintro ⟨x,hx,hp⟩
  obtain ⟨j,hj,rfl⟩:=List.mem_iff_getElem.1 hx
  exact absurd (by rw [aP hj];exact hp) (h j hj)
end
/- ---------- Clone of []uint32 ---------- -/
section
variable {X:List Nat} {w0:World} {M0:List Ent} {I0:List aO}
theorem tO {q:Option Addr} {a:List Int} {c:Nat} (hn:(a.length:Int)*4≤140737488355328) (hok:Ok q∨(a.length=0∧c=0)) (ha:aN q (recs eG a)∈I0):
  CD Try.prog 81 [.slice q a.length c] X w0 M0 I0 (fun v M I=>I0=I∧∃q' c',v= .slice q' a.length c'∧M= .row q' a.length c' (recs eG a) 113 1::M0):=by
 refine aX Try.func81 rfl Try.ntmps81 rfl ?_
 repeat refine jY ?_
 refine aC rfl (fun _=>aAO rfl) rfl rfl ?_
 cases q with
 |some ad=>
  repeat refine jY ?_
  refine uU (cs:=recs eG []) ([]) rfl (fun b1=>?_)
  repeat refine jY ?_
  refine aAF (mm:=0) 1 mH rfl (by omega) ?_
  refine uS (xs:=[]) (ys:=a) 0 rfl rfl rfl (Src.imm aH hok) (by decide) rfl (by simp;omega) (by simp;omega) rfl rfl ?_
  intro a2 c2
  refine ⟨okJ,?_⟩
  repeat refine jY ?_
  refine bF (by first|exact .inl rfl|exact .inr rfl) rfl rfl _ _ aJ aI (⟨rfl,a2,c2,by simp,by simp⟩)
 |none=>
  obtain ⟨h0,rfl⟩:a.length=0∧c=0:=hok.resolve_left (fun h=>by obtain ⟨b,o,e⟩:=h.cases;cases e)
  have hnil:a=[]:=List.eq_nil_of_length_eq_zero h0
  subst hnil
  repeat refine jY ?_
  refine aLD 113 1 ?_
  refine bF (by first|exact .inl rfl|exact .inr rfl) rfl rfl _ _ aJ aI (⟨rfl,none,0,rfl,rfl⟩)
end
section
variable {X:List Nat} {w0:World} {M0:List Ent} {I0:List aO}
theorem lH {p:Prop} [Decidable p] {q:Option Addr} {n c k:Nat} (hl:(gr n).length≤100000000000) (hc:uE q n c) (hk:n≤2 ^ k) (hq:aN q (recs eG (gr n))∈I0):
  CD Try.prog 70 [.bool (B p), .slice q (gr n).length c] X w0 M0 I0 (fun v M I=>M0=M∧I=qR v (sg p n) k::I0):=by
 refine aX Try.func70 rfl Try.ntmps70 rfl ?_
 refine lU ?_
 refine iL (fun b=>?_)
 repeat refine jY ?_
 (refine dS rfl (oI (l:=gr n) rfl (by omega) hc.1 hq) ?_;rintro _ _ _ ⟨rfl,rfl,rfl⟩;refine cK ?_)
 rw [aAJ (vQ n)]
 by_cases h0:(gr n).length=0
 ·have hn:n=0:=oW.1 (List.eq_nil_of_length_eq_zero h0)
  subst hn
  repeat refine jY ?_
  (refine aC rfl (fun _=>aZ (pvs:=([]).zipIdx.map (fun p=>(p.2,p.1))) (cells:=[.bool false, .slice none 0 0]) rfl rfl) rfl rfl ?_)
  repeat refine jY ?_
  have hz:sg p 0=0:=by unfold sg;split <;>rfl
  rw [hz]
  have hg0:gr (0:Int).natAbs=[]:=eF
  refine rC none ?_
  refine xN (q:=none) (c:=0) (z:=0) (k:=k) (by rw [hg0];exact aH) ⟨by rw [hg0];simp, .inr ⟨by rw [hg0];rfl,rfl⟩⟩ (by simp) ?_
  have hiv:iv none 0 0= .agg #[.bool false, .slice none 0 0]:=by unfold iv;rw [hg0,bQ (by omega)];rfl
  rw [hiv]
  refine kT (cs:=[.bool false, .slice none 0 0]) (.inl rfl) rfl rfl aH rfl _ _ aJ aI ⟨rfl,rfl⟩
 ·have hn:n≠0:=fun e=>h0 (by rw [e,eF];rfl)
  repeat refine jY ?_
  (refine aC rfl (fun _=>aZ (pvs:=([.bool (B p), .slice q (gr n).length c]).zipIdx.map (fun p=>(p.2,p.1))) (cells:=[.bool (B p), .slice q (gr n).length c]) rfl rfl) rfl rfl ?_)
  repeat refine jY ?_
  have ha:=aNO p n
  refine xN (q:=q) (c:=c) (z:=sg p n) (k:=k) (by rw [ha];exact aH) (by rw [ha];exact hc) (by rw [ha];exact hk) ?_
  have hiv:iv q c (sg p n)= .agg #[.bool (B p), .slice q (gr n).length c]:=by unfold iv;rw [ha,qA (sg_lt hn)]
  rw [hiv]
  refine kT (cs:=[.bool (B p), .slice q (gr n).length c]) (.inl rfl) rfl rfl aH rfl _ _ aJ aI ⟨rfl,rfl⟩
theorem aLN {x:Int}:CD Try.prog 95 [.int .u32 x] X w0 M0 I0 (fun v M I=>M0=M∧I0=I∧v= .bool (B (1000000000≤x))):=by
 refine aX Try.func95 rfl Try.ntmps95 rfl ?_
 repeat refine jY ?_
 refine bF (by first|exact .inl rfl|exact .inr rfl) rfl rfl _ _ aJ aI (⟨rfl,rfl,rfl⟩)
def aAQ (neg:Bool) (gs:List Int):Prop:=(gs=[]∧neg=false)∨(gs≠[]∧Top gs∧¬∃x∈gs,1000000000≤x)
instance (neg:Bool) (gs:List Int):Decidable (aAQ neg gs):=by unfold aAQ;exact inferInstance
theorem yG {gs:List Int} (h:0 < gs.length):gs.getLastD 1=gt gs ((gs.length:Int) - 1):=by
 rcases List.eq_nil_or_concat gs with rfl|⟨r,x,e⟩
 ·simp at h
 ·rw [List.concat_eq_append] at e
  subst e
  have e1:(((r++[x]).length:Int) - 1)=((r.length:Nat):Int):=by simp
  rw [e1,gtD]
  simp
theorem aHO {neg:Bool} {q:Option Addr} {gs:List Int} {c:Nat} (hn:(gs.length:Int)≤9223372036854775807) (hq:aN q (recs eG gs)∈I0):
  CD Try.prog 88 [.agg #[.bool neg, .slice q gs.length c]] X w0 M0 I0 (fun v M I=>M0=M∧I0=I∧v= .bool (B (aAQ neg gs))):=by
 refine aX Try.func88 rfl Try.ntmps88 rfl ?_
 refine lU ?_
 refine tyX rfl (fun b=>?_)
 by_cases h0:gs.length=0
 ·have hg:gs=[]:=List.eq_nil_of_length_eq_zero h0
  subst hg
  repeat refine jY ?_
  refine bF (by first|exact .inl rfl|exact .inr rfl) rfl rfl _ _ aJ aI (⟨rfl,rfl,by rw [show (!neg)=B (aAQ neg []) by rw [oP];cases neg <;>simp [aAQ]]⟩)
 ·have hgs:gs≠[]:=fun e=>h0 (by rw [e];rfl)
  have hlast:=yG (gs:=gs) (by omega)
  repeat' (first|refine jY ?_|refine bG rfl (fun h=>?_) (fun h=>?_)|refine bI rfl rfl (fun h=>?_) (fun h=>?_)|fail)
  ·refine iM rfl (aLJ (fun x=>1000000000≤x) hn hq (fun i hi=>aLN)) ?_
   repeat refine jY ?_
   refine bF (by first|exact .inl rfl|exact .inr rfl) rfl rfl _ _ aJ aI (⟨rfl,rfl,congrArg Value.bool (qA ?_)⟩)
   unfold aAQ Top
   rw [hlast]
   exact ⟨fun h=> .inr ⟨hgs,by assumption,h⟩,fun h=>h.elim (fun h=>absurd h.1 hgs) (fun h=>h.2.2)⟩
  ·refine bF (by first|exact .inl rfl|exact .inr rfl) rfl rfl _ _ aJ aI (⟨rfl,rfl,congrArg Value.bool (bQ ?_).symm⟩)
   unfold aAQ Top
   rw [hlast]
   rintro (h|h)
   ·exact hgs h.1
   ·exact absurd h.2.1 (by assumption)
theorem aON (z:Int):aAQ (B (z < 0)) (gr z.natAbs):=by
 by_cases h:z.natAbs=0
 ·refine .inl ⟨by rw [h,eF],bQ (by omega)⟩
 ·refine .inr ⟨fun e=>h (oW.1 e),vQ _,?_⟩
  rintro ⟨x,hx,h1⟩
  have:=dF z.natAbs x hx
  omega
theorem kD {q:Option Addr} {c k:Nat} {z:Int} (hz:z.natAbs≤2 ^ k) (hk:k≤1000000000000) (hq:aN q (recs eG (gr z.natAbs))∈I0):
  CD Try.prog 78 [iv q c z] X w0 M0 I0 (fun v M I=>M0=M∧I0=I∧v= .slice q (gr z.natAbs).length c):=by
 have hl:=aDI hz hk
 unfold iv
 refine aX Try.func78 rfl Try.ntmps78 rfl ?_
 refine lU ?_
 refine tyX rfl (fun b=>?_)
 repeat refine jY ?_
 refine iM rfl (aHO (neg:=B (z < 0)) (gs:=gr z.natAbs) (by omega) hq) ?_
 rw [dX (aON z)]
 repeat refine jY ?_
 refine bF (by first|exact .inl rfl|exact .inr rfl) rfl rfl _ _ aJ aI (⟨rfl,rfl,rfl⟩)
theorem aEG {u:Value} {z:Int} {k:Nat} (hk:k≤1000000000000) (hu:qR u z k∈I0):CD Try.prog 66 [u] X w0 M0 I0 (fun v M I=>M0=M∧I0=I∧v= .int .i64 z.sign):=by
 refine nU hu (fun q c e hc hz=>?_)
 subst e
 unfold iv
 refine aX Try.func66 rfl Try.ntmps66 rfl ?_
 refine lU ?_
 refine tyX rfl (fun b=>?_)
 repeat refine jY ?_
 refine iM rfl (kD (c:=c) hz hk aH) ?_
 have hnil:(gr z.natAbs).length=0↔z=0:=by
  rw [List.length_eq_zero_iff,oW];omega
 by_cases h0:z=0
 ·have:=hnil.2 h0
  repeat refine jY ?_
  refine bF (by first|exact .inl rfl|exact .inr rfl) rfl rfl _ _ aJ aI (⟨rfl,rfl,by rw [h0];rfl⟩)
 ·have:¬(gr z.natAbs).length=0:=fun h=>h0 (hnil.1 h)
  repeat' (first|refine jY ?_|refine bG rfl (fun h=>?_) (fun h=>?_)|refine bI rfl rfl (fun h=>?_) (fun h=>?_)|fail)
  ·refine bF (by first|exact .inl rfl|exact .inr rfl) rfl rfl _ _ aJ aI (⟨rfl,rfl,by rw [Int.sign_eq_neg_one_of_neg (by assumption)]⟩)
  ·refine bF (by first|exact .inl rfl|exact .inr rfl) rfl rfl _ _ aJ aI (⟨rfl,rfl,by rw [Int.sign_eq_one_of_pos (by omega)]⟩)
theorem aOT {u:Value} {z:Int} {k:Nat} (hk:k≤1000000000000) (hu:qR u z k∈I0):CD Try.prog 67 [u] X w0 M0 I0 (fun v M I=>M0=M∧I=qR v (-z) k::I0):=by
 refine nU hu (fun q c e hc hz=>?_)
 subst e
 have hl:=aDI hz hk
 unfold iv
 refine aX Try.func67 rfl Try.ntmps67 rfl ?_
 refine lU ?_
 refine tyX rfl (fun b=>?_)
 refine iL (fun b2=>?_)
 repeat refine jY ?_
 (repeat refine aL ?_);refine kG 3 [0,1,2,3,4,5,6,7] [3,3,2,2,0,0,0,0] mixed (by kernel_rfl) ?_
 repeat refine jY ?_
 refine iM rfl (kD (c:=c) hz hk aH) ?_
 repeat refine jY ?_
 (refine dS rfl (tO (a:=gr z.natAbs) (by omega) hc.2 aH) ?_;rintro _ _ _ ⟨rfl,q',c',rfl,rfl⟩;refine cK ?_)
 refine qZ (fun w hw=>And.intro (hw.rowLe (List.Mem.head _)) ((hw.rowS (List.Mem.head _)).2.imp id And.right)) (fun hc'=>?_)
 refine kF uJ ?_
 repeat refine jY ?_
 rw [←aPO z]
 (refine bZ rfl (lH (p:=¬z < 0) (k:=k) (by omega) hc' hz aH) rfl rfl ?_;rintro _ _ _ ⟨rfl,rfl⟩;refine ⟨okJ,?_⟩;refine jR (List.Mem.head _) (fun q2 c2 e__ hc2 hz2=>?_);subst e__)
 unfold iv
 repeat refine jY ?_
 refine kT (cs:=[.bool (B (sg (¬z < 0) z.natAbs < 0)), .slice q2 (gr (sg (¬z < 0) z.natAbs).natAbs).length c2]) (.inl rfl) rfl rfl aH rfl _ _ aJ aI ⟨rfl,rfl⟩
end
end Go.Proofs.Ytejbgkajdomgcaa
namespace Go.Proofs.Ytejbgkajdomgcaa
open Go Go.Fx Go.RowKit Go.Shelf
attribute [local go_sem] Oper.semAt_some
abbrev Dg (zs:List Int):={j:Nat // j < zs.length}
def nO (zs:List Int):Nat→List (Dg zs)
 |0=>[]
 |k+1=>nO zs k++(if h:zs.length - 1 - k < zs.length then [⟨zs.length - 1 - k,h⟩] else [])
theorem nM {zs:List Int} {k:Nat} (h:k < zs.length):nO zs (k+1)=nO zs k++[⟨zs.length - 1 - k,by omega⟩]:=by rw [nO,dif_pos (by omega)]
theorem vW {zs:List Int}:∀{k:Nat},k≤zs.length→(nO zs k).length=k
 |0,_=>rfl
 |k+1,h=>by rw [nM (by omega),List.length_append,vW (by omega)];rfl
def dgE (zs:List Int) (x:Dg zs):Array Value:=#[.int .i64 (x.1:Int), .int .u32 (zs[x.1]?.getD 0)]
structure KpB (n₀ Bs:Nat) (A B:World):Prop where
 below:Below n₀ A B
 box:∀v,A.cell? ⟨Bs,0,none⟩=some v→B.cell? ⟨Bs,0,none⟩=some v
theorem KpB.refl (n₀ Bs:Nat) (A:World):KpB n₀ Bs A A:=⟨Below.refl _ _,fun _ h=>h⟩
theorem KpB.trans {n₀ Bs:Nat} {A B C:World} (h:KpB n₀ Bs A B) (k:KpB n₀ Bs B C):KpB n₀ Bs A C:=⟨h.below.trans k.below,fun v hv=>k.box v (h.box v hv)⟩
theorem aDY {n₀ Bs:Nat} {w:World} (hn:n₀≤w.heap.size) (W:World) (l:Nat) (o o':Obj) (hl:w.heap.size≤l) (h:W.heap[l]?=some o) (hc:o.isCells=false) (hw:o.isWalk=false):KpB n₀ Bs W (W.putObj l o'):=
 ⟨belowK_b hn W l o o' hl h hc hw,fun _ hv=>cell_kept hv (grownBy_putObj' W l o') (fun r e=>by cases e;exact ⟨o,h,hc⟩)⟩
theorem mU {W:World} {B:Nat} {v:Value} {t:TypeId} (h:W.heap[B]?=some (.cells #[v] t (0,0))):W.cell? ⟨B,0,none⟩=some v∧W.frozen? ⟨B,0,none⟩=false:=by
 constructor <;>simp [World.cell?,World.frozen?,h]
theorem iD (W:World) (v:Value) (t:TypeId):(W.alloc (.cells #[v] t)).cell? ⟨W.heap.size,0,none⟩=some v∧(W.alloc (.cells #[v] t)).frozen? ⟨W.heap.size,0,none⟩=false:=
 mU (World.alloc_heap_new W _)
theorem bJ {W:World} {a:Addr} {v:Value} (o:Obj) (h:W.cell? a=some v):(W.alloc o).cell? a=some v:=cell_kept h (World.grownBy_alloc W o none) (fun r e=>by cases e)
theorem cO {W:World} {a:Addr} {v:Value} (o:Obj) (h:W.cell? a=some v) (hf:W.frozen? a=false):(W.alloc o).frozen? a=false:=(frozen_kept h (World.grownBy_alloc W o none) (fun r e=>by cases e)).trans hf
theorem Ext.of_below {w w':World} (h:Below w.heap.size w w'):Ext [] w w':=⟨h.os,h.tape,h.output,h.size,fun k hk _=>h.block k hk⟩
theorem aIV (F:Fence) (n:Nat) (h:F.fn 93) (hro:F.round=none) (hn:1≤n) (l Bs n₀ b off cap:Nat) (zs:List Int) (hreach:zs.length*4≤140737488351232) (hb:b < n₀) (J Jx:List (Dg zs)→World→Prop)
  (hY:∀pre x W,J pre W→pre.length < zs.length→YieldAt F (n - 1) Try.prog l (dgE zs x) W fun e W'=>
   (e= .returned (.bool true)∧J (pre++[x]) W'∧KpB n₀ Bs W W')∨(e= .returned (.bool false)∧Jx (pre++[x]) W'))
  (W:World) (hBs:W.cell? ⟨Bs,0,none⟩=some (.slice (some ⟨b,off,none⟩) zs.length cap)) (hc:∀j,j < zs.length→W.cell? ⟨b,off+j,none⟩=some (.int .u32 (zs[j]?.getD 0))) (h0:J [] W):
  CallsIn F n Try.prog 93 #[.func (.yield l) #[] #[], .pointer (some ⟨Bs,0,none⟩)] W fun e W'=>(∃v,e= .returned v)∧
   ((∃ys,ys=nO zs zs.length∧J ys W')∨(∃pre,(∃k,k≤zs.length∧pre=nO zs k)∧Jx pre W')):=by
 refine callsIn_of_wp Try.func93 rfl h ?_ hro
 simp only [Try.ntmps93,List.size_toArray,List.length_cons,List.length_nil,Nat.reduceAdd,Nat.reduceSub,Array.replicate_succ,Array.replicate_zero,List.push_toArray,List.append_toArray,List.nil_append,List.cons_append]
 gi_wp2
 gi_loopw [3] (fun i wr=>∃k:Nat,k≤zs.length∧i= .int .i64 ((zs.length:Int) - 1 - k)∧J (nO zs k) wr∧KpB n₀ Bs W wr)
  (fun i _=>(intOf i+1).toNat)
 case atStart=>exact ⟨0,Nat.zero_le _,by simp,h0,KpB.refl _ _ _⟩
 case round=>
  obtain ⟨k,hk,rfl,hJs,hnx⟩:=hrel
  have hBs':wr.cell? ⟨Bs,0,none⟩=some (.slice (some ⟨b,off,none⟩) zs.length cap):=hnx.box _ hBs
  have hcx:k < zs.length→wr.cell? ⟨b,off+(zs.length - 1 - k),none⟩=some (.int .u32 (zs[zs.length - 1 - k]?.getD 0)):=fun h=>(hnx.below.cell (p:=⟨b,off+(zs.length - 1 - k),none⟩) hb).trans (hc _ (by omega))
  by_cases hlt:k < zs.length
  ·obtain ⟨fn,tmps,assign,body,hy,hR⟩:=hY _ ⟨zs.length - 1 - k,by omega⟩ wr hJs (by rw [vW hk];exact hlt)
   dsimp only [dgE] at hy
   have hcx':=hcx hlt
   have hidx:(zs.length:Int) - 1 - k=((zs.length - 1 - k:Nat):Int):=by omega
   rw [hidx]
   gi_wp2
   refine hR.mono ?_
   rintro e W3 (⟨rfl,hJ3,hk3⟩|⟨rfl,hJx3⟩)
   ·gi_wp2
    go_roundw
    case rel=>exact ⟨k+1,by omega,by simp;omega,by rw [nM hlt];exact hJ3,hnx.trans hk3⟩
    case measure=>simp [intOf]
   ·gi_wp2
    refine bodyPost_ret (results_none rfl _ _ _) rfl ?_
    exact ⟨⟨_,rfl⟩, .inr ⟨_,⟨k+1,by omega,(nM hlt).symm⟩,hJx3⟩⟩
  ·obtain rfl:k=zs.length:=by omega
   gi_wp2
   go_end0
   exact ⟨⟨_,rfl⟩, .inl ⟨_,rfl,hJs⟩⟩
theorem yS (F:Fence) (n:Nat) (h:F.fn 93) (hro:F.round=none) (l Bs c:Nat) {α:Type} (a:Option Addr) (J:List α→World→Prop) (W:World) (hBs:W.cell? ⟨Bs,0,none⟩=some (.slice a 0 c)) (h0:J [] W):
  CallsIn F n Try.prog 93 #[.func (.yield l) #[] #[], .pointer (some ⟨Bs,0,none⟩)] W fun e W'=>(∃v,e= .returned v)∧J [] W':=by
 refine callsIn_of_wp Try.func93 rfl h ?_ hro
 simp only [Try.ntmps93,List.size_toArray,List.length_cons,List.length_nil,Nat.reduceAdd,Nat.reduceSub,Array.replicate_succ,Array.replicate_zero,List.push_toArray,List.append_toArray,List.nil_append,List.cons_append]
 gi_wp2
 gi_loopw [3] (fun i wr=>i= .int .i64 (-1)∧J [] wr) (fun _ _=>0)
 case atStart=>exact ⟨rfl,h0⟩
 case round=>
  obtain ⟨rfl,hJs⟩:=hrel
  gi_wp2
  go_end0
  exact ⟨⟨_,rfl⟩,hJs⟩
theorem rE (F:Fence) (n:Nat) (h:F.fn 84) (hro:F.round=none) (a:Option Addr) (len cap:Nat) (w:World):
  CallsIn F n Try.prog 84 #[.slice a len cap] w fun e w'=>e= .returned (.func (.func 93) #[] #[.pointer (some ⟨w.heap.size,0,none⟩)])∧w'=w.alloc (.cells #[.slice a len cap] 98):=by
 refine callsIn_of_wp Try.func84 rfl h ?_ hro
 simp only [Try.ntmps84,List.size_toArray,List.length_cons,List.length_nil,Nat.reduceAdd,Nat.reduceSub,Array.replicate_succ,Array.replicate_zero,List.push_toArray,List.append_toArray,List.nil_append,List.cons_append]
 gi_wp2
 go_ret
 exact ⟨rfl,rfl⟩
theorem qO {w:World} {b off:Nat} {zs:List Int} (h:Sl [] w (some ⟨b,off,none⟩) (recs eG zs)):∀j,j < zs.length→w.cell? ⟨b,off+j,none⟩=some (.int .u32 (zs[j]?.getD 0)):=by
 intro j hj
 have h1:(recs eG zs)[j]?=some (.int .u32 (zs[j]?.getD 0)):=by
  rw [kP,List.getElem?_map]
  simp [hj]
 exact (h j _ h1).2.2
theorem sJ (F:Fence) (n:Nat) (h:F.fn 93) (hro:F.round=none) (hn:1≤n) (Bs n₀:Nat) (a:Option Addr) (cap:Nat) (zs:List Int) (hreach:zs.length*4≤140737488351232) (w:World) (hBs:Bs < w.heap.size) (hn₀:n₀≤w.heap.size)
  (hc:w.cell? ⟨Bs,0,none⟩=some (.slice a zs.length cap)) (hI:Sl [] w a (recs eG zs)) (hlt:0 < zs.length→∀b,a.map (·.block)=some b→b < n₀):
  SeqStopsK F n Try.prog 93 #[.pointer (some ⟨Bs,0,none⟩)] (dgE zs) (KpB n₀ Bs) (fun ys=>ys=nO zs zs.length) (fun pre=>∃k,k≤zs.length∧pre=nO zs k) zs.length w:=fun l J Jx W hW _ _ hY h0=>by
 have hc':=(hW.cell (p:=⟨Bs,0,none⟩) (show Bs < w.heap.size from hBs)).trans hc
 by_cases hz:zs.length=0
 ·rw [hz] at hc'
  exact (yS F n h hro l Bs cap a J W hc' h0).mono fun e W' ⟨he,hj⟩=>⟨he, .inl ⟨_,by rw [hz];rfl,hj⟩⟩
 ·obtain ⟨b,off,rfl⟩:=(Sl.ok hI (by rw [fZ];omega)).cases
  have hb:b < n₀:=hlt (by omega) b rfl
  have hcs:=qO hI
  refine (aIV F n h hro hn l Bs n₀ b off cap zs hreach hb J Jx hY W hc' (fun j hj=>(hW.cell (p:=⟨b,off+j,none⟩) (show b < w.heap.size from Nat.lt_of_lt_of_le hb hn₀)).trans (hcs j hj)) h0).mono ?_
  rintro e W' ⟨he,⟨ys,rfl,hj⟩|⟨pre,⟨k,hk,rfl⟩,hj⟩⟩
  ·exact ⟨he, .inl ⟨_,rfl,hj⟩⟩
  ·exact ⟨he, .inr ⟨_,⟨k,hk,rfl⟩,hj⟩⟩
def wdS (s g:Int):Int:=IntKind.u64.wrap (IntKind.u64.wrap (s*1000000000)+IntKind.u64.wrap g)
def uK (zs:List Int) (pre:List (Dg zs)):Int:=pre.foldl (fun s x=>wdS s (zs[x.1]?.getD 0)) 0
theorem aAE (zs:List Int) (pre:List (Dg zs)) (x:Dg zs):uK zs (pre++[x])=wdS (uK zs pre) (zs[x.1]?.getD 0):=by simp [uK]
theorem aLU (a:Option Addr) (cap:Nat) (zs:List Int) (w:World) (hz:zs.length≤2) (hI:Sl [] w a (recs eG zs)) (hlt:0 < zs.length→∀b,a.map (·.block)=some b→b < w.heap.size):
  CallsIn Fence.wide 5 Try.prog 79 #[.slice a zs.length cap] w fun e w'=>e= .returned (.tuple #[.int .u64 (uK zs (nO zs zs.length)), .bool true])∧Below w.heap.size w w':=by
 refine callsIn_of_wp_marks Try.func79 rfl trivial ?_ rfl
 simp only [Try.ntmps79,List.size_toArray,List.length_cons,List.length_nil,Nat.reduceAdd,Nat.reduceSub,Array.replicate_succ,Array.replicate_zero,List.push_toArray,List.append_toArray,List.nil_append,List.cons_append]
 have hz':¬(2 < (zs.length:Int)):=by omega
 gi_wp2_with (refine ⟨trivial,?_⟩;gi_at_call 84;refine (rE Fence.wide _ trivial rfl _ _ _ _).mono ?_;rintro e w' ⟨rfl,rfl⟩)
 have hs:=iD w (.int .u64 0) 115
 have hb:=iD (w.alloc (.cells #[.int .u64 0] 115)) (.slice a zs.length cap) 98
 rw [World.size_alloc] at hb
 have hBl:Below w.heap.size w ((w.alloc (.cells #[.int .u64 0] 115)).alloc (.cells #[.slice a zs.length cap] 98)):=((Below.refl _ w).alloc (Nat.le_refl _) _).alloc (by simp) _
 have hI2:=Sl.mono hI (Ext.of_below hBl)
 refine wpIn_rangeFunc_ownG rfl (by decide) (gf:=93) (lb:=#[.pointer (some ⟨w.heap.size+1,0,none⟩)]) rfl trivial (enters_of Try.func93 (by kernel_rfl) rfl)
  (sJ Fence.wide (5 - 1) trivial rfl (by decide) (w.heap.size+1) w.heap.size a cap zs (by omega) _ (by simp) (by simp;omega) hb.1 hI2 hlt) KpB.trans (aDY (by simp;omega)) (Below.refl _ _) (fun _=>rfl)
  (fun pre W=>(W.cell? ⟨w.heap.size,0,none⟩=some (.int .u64 (uK zs pre))∧W.frozen? ⟨w.heap.size,0,none⟩=false)∧Below w.heap.size w W)
  (fun _ _ _=>False)
  (OwnFrom.and (Own.from (fun s A B row hs hg hr=>⟨cell_kept hs.1 hg hr,(frozen_kept hs.1 hg hr).trans hs.2⟩) _) (ownFrom_below (Nat.le_refl _) (by simp;omega)))
  (fun _ _ _ _ _ hs _ _=>hs) ⟨⟨bJ _ hs.1,cO _ hs.1 hs.2⟩,hBl⟩ ?a1 ?assign ?body ?done ?stop
 case assign=>
  intro l x W K hK
  dsimp only [dgE]
  gi_wp2
  exact hK
 case body=>
  rintro l pre x W ⟨⟨hc,hf⟩,hB⟩ hpl
  gi_wp2
  refine ⟨(KeepsOthers.setCell _ _ _).from _,⟨(Below.refl w.heap.size W).setCell (p:=⟨w.heap.size,0,none⟩) (Nat.le_refl _) _,fun v hv=>(World.cell?_setCell_other _ _ _ _ (by simp)).trans hv⟩,⟨?_,by rw [World.frozen?_setCell];exact hf⟩,hB.setCell (p:=⟨w.heap.size,0,none⟩) (Nat.le_refl _) _⟩
  rw [aAE]
  exact World.cell?_setCell_same' _ _ _ (by rw [hc];rfl)
 case done=>
  rintro D ys W hD rfl ⟨⟨hc,hf⟩,hB⟩ hK
  gi_wp2
  refine ⟨by simp, .inl ⟨_,_,rfl,run_takeDeferred hK,?_⟩⟩
  refine ⟨_,results_tmp2 rfl _ _ _,rfl,?_⟩
  exact hB.trans (belowK_b (w:=w) (Nat.le_refl _) W D _ _ (by simp at hD;omega) hK rfl rfl)
 case stop=>
  rintro D c pre W _ _ h _
  exact h.elim
theorem aAU {w:World} {a:Option Addr} {zs:List Int} (h:Sl [] w a (recs eG zs)):0 < zs.length→∀b,a.map (·.block)=some b→b < w.heap.size:=by
 intro hz b hb
 obtain ⟨b',off,rfl⟩:=(Sl.ok h (by rw [fZ];omega)).cases
 have h1:=qO h 0 hz
 simp only [Option.map_some,Option.some.injEq] at hb
 subst hb
 by_cases hlt:b' < w.heap.size
 ·exact hlt
 ·exfalso
  unfold World.cell? at h1
  rw [Array.getElem?_eq_none (by simpa using hlt)] at h1
  simp at h1
theorem vH {P:Program} {fn:Func} {a:Tmp} {t:TypeId} {tmps:Array Value} {w:World} {b:Nat} {v:Value} [ht:ScalarTy P t] (h:fn.results=#[.cell a t]) (hb:tmps.getD a undef= .pointer (some ⟨b,0,none⟩)) (hc:w.cell? ⟨b,0,none⟩=some v):
  (results fn tmps).run P w= .ok v w:=by
 have hb':tmps[a]?.getD undef= .pointer (some ⟨b,0,none⟩):=by simpa using hb
 simp [results,h,hb',asAddr,loadVar,gL,hc]
def kL (x y:Int):Int:=if x < y then -1 else if y < x then 1 else 0
theorem aHE (x:Int) (w:World):Ret Try.prog 49 [.int .i64 x] w (fun v w'=>w=w'∧v= .bool false):=by
 refine enter Try.func49 rfl Try.ntmps49 rfl ?_
 repeat (first|refine nD ?_|refine gF ?_|refine mX ?_|refine kH ?_|refine iK ?_|refine iJ ?_|refine kE ?_|refine kI ?_|refine iH ?_|refine iI ?_|refine nT ?_|refine nP ?_|refine nN ?_|refine nC rfl ?_|refine nJ ?_|refine kM rfl rfl rfl ?_|refine jA rfl rfl rfl ?_|refine dL rfl (aM rfl) rfl rfl ?_|refine dL rfl (aQ rfl) rfl rfl ?_|refine dL rfl (aR rfl rfl (by first|exact wrap_i64 (by omega)|exact wrap_u64 (by omega)|exact wrap_u32 (by omega)|exact wrap_u8 (by omega))) rfl rfl ?_|refine dL rfl (aS rfl rfl (by first|exact wrap_i64 (by omega)|exact wrap_u64 (by omega)|exact wrap_u32 (by omega)|exact wrap_u8 (by omega))) rfl rfl ?_)
 exact oH (.inl rfl) rfl rfl ⟨rfl,congrArg Value.bool (bQ (by omega))⟩
theorem aOR (x y:Int) (w:World):Ret Try.prog 96 [.int .i64 x, .int .i64 y] w (fun v w'=>w=w'∧v= .int .i64 (kL x y)):=by
 refine enter Try.func96 rfl Try.ntmps96 rfl ?_
 repeat (first|refine nD ?_|refine gF ?_|refine mX ?_|refine kH ?_|refine iK ?_|refine iJ ?_|refine kE ?_|refine kI ?_|refine iH ?_|refine iI ?_|refine nT ?_|refine nP ?_|refine nN ?_|refine nC rfl ?_|refine nJ ?_|refine kM rfl rfl rfl ?_|refine jA rfl rfl rfl ?_|refine dL rfl (aM rfl) rfl rfl ?_|refine dL rfl (aQ rfl) rfl rfl ?_|refine dL rfl (aR rfl rfl (by first|exact wrap_i64 (by omega)|exact wrap_u64 (by omega)|exact wrap_u32 (by omega)|exact wrap_u8 (by omega))) rfl rfl ?_|refine dL rfl (aS rfl rfl (by first|exact wrap_i64 (by omega)|exact wrap_u64 (by omega)|exact wrap_u32 (by omega)|exact wrap_u8 (by omega))) rfl rfl ?_)
 (refine aJJ rfl (oU rfl (aHE x w)) rfl rfl ?_;rintro _ w' ⟨rfl,rfl⟩)
 refine ⟨trivial,?_⟩
 repeat (first|refine nD ?_|refine gF ?_|refine mX ?_|refine kH ?_|refine iK ?_|refine iJ ?_|refine kE ?_|refine kI ?_|refine iH ?_|refine iI ?_|refine nT ?_|refine nP ?_|refine nN ?_|refine nC rfl ?_|refine nJ ?_|refine kM rfl rfl rfl ?_|refine jA rfl rfl rfl ?_|refine dL rfl (aM rfl) rfl rfl ?_|refine dL rfl (aQ rfl) rfl rfl ?_|refine dL rfl (aR rfl rfl (by first|exact wrap_i64 (by omega)|exact wrap_u64 (by omega)|exact wrap_u32 (by omega)|exact wrap_u8 (by omega))) rfl rfl ?_|refine dL rfl (aS rfl rfl (by first|exact wrap_i64 (by omega)|exact wrap_u64 (by omega)|exact wrap_u32 (by omega)|exact wrap_u8 (by omega))) rfl rfl ?_)
 (refine aJJ rfl (oU rfl (aHE y w)) rfl rfl ?_;rintro _ w' ⟨rfl,rfl⟩)
 refine ⟨trivial,?_⟩
 unfold kL
 by_cases h1:x < y
 ·rw [if_pos h1]
  repeat' (first|refine nD ?_|refine gF ?_|refine mX ?_|refine kH ?_|refine iK ?_|refine iJ ?_|refine kE ?_|refine kI ?_|refine iH ?_|refine iI ?_|refine nT ?_|refine nP ?_|refine nN ?_|refine nC rfl ?_|refine nJ ?_|refine kM rfl rfl rfl ?_|refine jA rfl rfl rfl ?_|refine dL rfl (aM rfl) rfl rfl ?_|refine dL rfl (aQ rfl) rfl rfl ?_|refine dL rfl (aR rfl rfl (by first|exact wrap_i64 (by omega)|exact wrap_u64 (by omega)|exact wrap_u32 (by omega)|exact wrap_u8 (by omega))) rfl rfl ?_|refine dL rfl (aS rfl rfl (by first|exact wrap_i64 (by omega)|exact wrap_u64 (by omega)|exact wrap_u32 (by omega)|exact wrap_u8 (by omega))) rfl rfl ?_|refine vN rfl (by omega) ?_|refine aCM rfl (by omega) ?_|refine sQ rfl rfl (by omega) ?_|refine tN rfl rfl (by omega) ?_|refine vO rfl (fun h=>?_) (fun h=>?_)|refine iF rfl ?_|refine gK rfl ?_|refine rX rfl rfl (fun h=>?_) (fun h=>?_))
  exact oH (.inl rfl) rfl rfl ⟨rfl,rfl⟩
 ·rw [if_neg h1]
  by_cases h2:y < x
  ·rw [if_pos h2]
   repeat' (first|refine nD ?_|refine gF ?_|refine mX ?_|refine kH ?_|refine iK ?_|refine iJ ?_|refine kE ?_|refine kI ?_|refine iH ?_|refine iI ?_|refine nT ?_|refine nP ?_|refine nN ?_|refine nC rfl ?_|refine nJ ?_|refine kM rfl rfl rfl ?_|refine jA rfl rfl rfl ?_|refine dL rfl (aM rfl) rfl rfl ?_|refine dL rfl (aQ rfl) rfl rfl ?_|refine dL rfl (aR rfl rfl (by first|exact wrap_i64 (by omega)|exact wrap_u64 (by omega)|exact wrap_u32 (by omega)|exact wrap_u8 (by omega))) rfl rfl ?_|refine dL rfl (aS rfl rfl (by first|exact wrap_i64 (by omega)|exact wrap_u64 (by omega)|exact wrap_u32 (by omega)|exact wrap_u8 (by omega))) rfl rfl ?_|refine vN rfl (by omega) ?_|refine aCM rfl (by omega) ?_|refine sQ rfl rfl (by omega) ?_|refine tN rfl rfl (by omega) ?_|refine vO rfl (fun h=>?_) (fun h=>?_)|refine iF rfl ?_|refine gK rfl ?_|refine rX rfl rfl (fun h=>?_) (fun h=>?_))
   exact oH (.inl rfl) rfl rfl ⟨rfl,rfl⟩
  ·rw [if_neg h2]
   repeat' (first|refine nD ?_|refine gF ?_|refine mX ?_|refine kH ?_|refine iK ?_|refine iJ ?_|refine kE ?_|refine kI ?_|refine iH ?_|refine iI ?_|refine nT ?_|refine nP ?_|refine nN ?_|refine nC rfl ?_|refine nJ ?_|refine kM rfl rfl rfl ?_|refine jA rfl rfl rfl ?_|refine dL rfl (aM rfl) rfl rfl ?_|refine dL rfl (aQ rfl) rfl rfl ?_|refine dL rfl (aR rfl rfl (by first|exact wrap_i64 (by omega)|exact wrap_u64 (by omega)|exact wrap_u32 (by omega)|exact wrap_u8 (by omega))) rfl rfl ?_|refine dL rfl (aS rfl rfl (by first|exact wrap_i64 (by omega)|exact wrap_u64 (by omega)|exact wrap_u32 (by omega)|exact wrap_u8 (by omega))) rfl rfl ?_|refine vN rfl (by omega) ?_|refine aCM rfl (by omega) ?_|refine sQ rfl rfl (by omega) ?_|refine tN rfl rfl (by omega) ?_|refine vO rfl (fun h=>?_) (fun h=>?_)|refine iF rfl ?_|refine gK rfl ?_|refine rX rfl rfl (fun h=>?_) (fun h=>?_))
   exact oH (.inl rfl) rfl rfl ⟨rfl,rfl⟩
theorem aJK (x:Int) (w:World):Ret Try.prog 100 [.int .u32 x] w (fun v w'=>w=w'∧v= .bool false):=by
 refine enter Try.func100 rfl Try.ntmps100 rfl ?_
 repeat (first|refine nD ?_|refine gF ?_|refine mX ?_|refine kH ?_|refine iK ?_|refine iJ ?_|refine kE ?_|refine kI ?_|refine iH ?_|refine iI ?_|refine nT ?_|refine nP ?_|refine nN ?_|refine nC rfl ?_|refine nJ ?_|refine kM rfl rfl rfl ?_|refine jA rfl rfl rfl ?_|refine dL rfl (aM rfl) rfl rfl ?_|refine dL rfl (aQ rfl) rfl rfl ?_|refine dL rfl (aR rfl rfl (by first|exact wrap_i64 (by omega)|exact wrap_u64 (by omega)|exact wrap_u32 (by omega)|exact wrap_u8 (by omega))) rfl rfl ?_|refine dL rfl (aS rfl rfl (by first|exact wrap_i64 (by omega)|exact wrap_u64 (by omega)|exact wrap_u32 (by omega)|exact wrap_u8 (by omega))) rfl rfl ?_)
 exact oH (.inl rfl) rfl rfl ⟨rfl,congrArg Value.bool (bQ (by omega))⟩
theorem aPH (x y:Int) (w:World):Ret Try.prog 97 [.int .u32 x, .int .u32 y] w (fun v w'=>w=w'∧v= .int .i64 (kL x y)):=by
 refine enter Try.func97 rfl Try.ntmps97 rfl ?_
 repeat (first|refine nD ?_|refine gF ?_|refine mX ?_|refine kH ?_|refine iK ?_|refine iJ ?_|refine kE ?_|refine kI ?_|refine iH ?_|refine iI ?_|refine nT ?_|refine nP ?_|refine nN ?_|refine nC rfl ?_|refine nJ ?_|refine kM rfl rfl rfl ?_|refine jA rfl rfl rfl ?_|refine dL rfl (aM rfl) rfl rfl ?_|refine dL rfl (aQ rfl) rfl rfl ?_|refine dL rfl (aR rfl rfl (by first|exact wrap_i64 (by omega)|exact wrap_u64 (by omega)|exact wrap_u32 (by omega)|exact wrap_u8 (by omega))) rfl rfl ?_|refine dL rfl (aS rfl rfl (by first|exact wrap_i64 (by omega)|exact wrap_u64 (by omega)|exact wrap_u32 (by omega)|exact wrap_u8 (by omega))) rfl rfl ?_)
 (refine aJJ rfl (oU rfl (aJK x w)) rfl rfl ?_;rintro _ w' ⟨rfl,rfl⟩)
 refine ⟨trivial,?_⟩
 repeat (first|refine nD ?_|refine gF ?_|refine mX ?_|refine kH ?_|refine iK ?_|refine iJ ?_|refine kE ?_|refine kI ?_|refine iH ?_|refine iI ?_|refine nT ?_|refine nP ?_|refine nN ?_|refine nC rfl ?_|refine nJ ?_|refine kM rfl rfl rfl ?_|refine jA rfl rfl rfl ?_|refine dL rfl (aM rfl) rfl rfl ?_|refine dL rfl (aQ rfl) rfl rfl ?_|refine dL rfl (aR rfl rfl (by first|exact wrap_i64 (by omega)|exact wrap_u64 (by omega)|exact wrap_u32 (by omega)|exact wrap_u8 (by omega))) rfl rfl ?_|refine dL rfl (aS rfl rfl (by first|exact wrap_i64 (by omega)|exact wrap_u64 (by omega)|exact wrap_u32 (by omega)|exact wrap_u8 (by omega))) rfl rfl ?_)
 (refine aJJ rfl (oU rfl (aJK y w)) rfl rfl ?_;rintro _ w' ⟨rfl,rfl⟩)
 refine ⟨trivial,?_⟩
 unfold kL
 by_cases h1:x < y
 ·rw [if_pos h1]
  repeat' (first|refine nD ?_|refine gF ?_|refine mX ?_|refine kH ?_|refine iK ?_|refine iJ ?_|refine kE ?_|refine kI ?_|refine iH ?_|refine iI ?_|refine nT ?_|refine nP ?_|refine nN ?_|refine nC rfl ?_|refine nJ ?_|refine kM rfl rfl rfl ?_|refine jA rfl rfl rfl ?_|refine dL rfl (aM rfl) rfl rfl ?_|refine dL rfl (aQ rfl) rfl rfl ?_|refine dL rfl (aR rfl rfl (by first|exact wrap_i64 (by omega)|exact wrap_u64 (by omega)|exact wrap_u32 (by omega)|exact wrap_u8 (by omega))) rfl rfl ?_|refine dL rfl (aS rfl rfl (by first|exact wrap_i64 (by omega)|exact wrap_u64 (by omega)|exact wrap_u32 (by omega)|exact wrap_u8 (by omega))) rfl rfl ?_|refine vN rfl (by omega) ?_|refine aCM rfl (by omega) ?_|refine sQ rfl rfl (by omega) ?_|refine tN rfl rfl (by omega) ?_|refine vO rfl (fun h=>?_) (fun h=>?_)|refine iF rfl ?_|refine gK rfl ?_|refine rX rfl rfl (fun h=>?_) (fun h=>?_))
  exact oH (.inl rfl) rfl rfl ⟨rfl,rfl⟩
 ·rw [if_neg h1]
  by_cases h2:y < x
  ·rw [if_pos h2]
   repeat' (first|refine nD ?_|refine gF ?_|refine mX ?_|refine kH ?_|refine iK ?_|refine iJ ?_|refine kE ?_|refine kI ?_|refine iH ?_|refine iI ?_|refine nT ?_|refine nP ?_|refine nN ?_|refine nC rfl ?_|refine nJ ?_|refine kM rfl rfl rfl ?_|refine jA rfl rfl rfl ?_|refine dL rfl (aM rfl) rfl rfl ?_|refine dL rfl (aQ rfl) rfl rfl ?_|refine dL rfl (aR rfl rfl (by first|exact wrap_i64 (by omega)|exact wrap_u64 (by omega)|exact wrap_u32 (by omega)|exact wrap_u8 (by omega))) rfl rfl ?_|refine dL rfl (aS rfl rfl (by first|exact wrap_i64 (by omega)|exact wrap_u64 (by omega)|exact wrap_u32 (by omega)|exact wrap_u8 (by omega))) rfl rfl ?_|refine vN rfl (by omega) ?_|refine aCM rfl (by omega) ?_|refine sQ rfl rfl (by omega) ?_|refine tN rfl rfl (by omega) ?_|refine vO rfl (fun h=>?_) (fun h=>?_)|refine iF rfl ?_|refine gK rfl ?_|refine rX rfl rfl (fun h=>?_) (fun h=>?_))
   exact oH (.inl rfl) rfl rfl ⟨rfl,rfl⟩
  ·rw [if_neg h2]
   repeat' (first|refine nD ?_|refine gF ?_|refine mX ?_|refine kH ?_|refine iK ?_|refine iJ ?_|refine kE ?_|refine kI ?_|refine iH ?_|refine iI ?_|refine nT ?_|refine nP ?_|refine nN ?_|refine nC rfl ?_|refine nJ ?_|refine kM rfl rfl rfl ?_|refine jA rfl rfl rfl ?_|refine dL rfl (aM rfl) rfl rfl ?_|refine dL rfl (aQ rfl) rfl rfl ?_|refine dL rfl (aR rfl rfl (by first|exact wrap_i64 (by omega)|exact wrap_u64 (by omega)|exact wrap_u32 (by omega)|exact wrap_u8 (by omega))) rfl rfl ?_|refine dL rfl (aS rfl rfl (by first|exact wrap_i64 (by omega)|exact wrap_u64 (by omega)|exact wrap_u32 (by omega)|exact wrap_u8 (by omega))) rfl rfl ?_|refine vN rfl (by omega) ?_|refine aCM rfl (by omega) ?_|refine sQ rfl rfl (by omega) ?_|refine tN rfl rfl (by omega) ?_|refine vO rfl (fun h=>?_) (fun h=>?_)|refine iF rfl ?_|refine gK rfl ?_|refine rX rfl rfl (fun h=>?_) (fun h=>?_))
   exact oH (.inl rfl) rfl rfl ⟨rfl,rfl⟩
def wU (zs ys:List Int):Nat→Int
 |0=>0
 |k+1=>if zs[k]?.getD 0=ys[k]?.getD 0 then wU zs ys k else kL (zs[k]?.getD 0) (ys[k]?.getD 0)
def Eqs (zs ys:List Int) (pre:List (Dg zs)):Prop:=∀x∈pre,zs[x.1]?.getD 0=ys[x.1]?.getD 0
theorem vV {zs ys:List Int}:∀k,k≤zs.length→Eqs zs ys (nO zs k)→wU zs ys zs.length=wU zs ys (zs.length - k)
 |0,_,_=>rfl
 |k+1,hk,h=>by
  rw [nM (by omega)] at h
  rw [vV k (by omega) (fun x hx=>h x (List.mem_append.2 (.inl hx)))]
  have e:zs.length - k=zs.length - (k+1)+1:=by omega
  have h1:=h ⟨zs.length - 1 - k,by omega⟩ (by simp)
  have e2:zs.length - 1 - k=zs.length - (k+1):=by omega
  rw [e,wU,if_pos (by rw [←e2];exact h1)]
theorem aGS {zs ys:List Int} {pre0:List (Dg zs)} {x:Dg zs} (k:Nat) (hk:k≤zs.length) (hp:nO zs k=pre0++[x]) (hE:Eqs zs ys pre0) (hn:zs[x.1]?.getD 0≠ys[x.1]?.getD 0):
  wU zs ys zs.length=kL (zs[x.1]?.getD 0) (ys[x.1]?.getD 0):=by
 match k,hk,hp with
 |0,_,hp=>simp [nO] at hp
 |k+1,hk,hp=>
  rw [nM (by omega)] at hp
  obtain ⟨e1,e2⟩:=List.append_inj' hp rfl
  subst e1
  have e3:x.1=zs.length - 1 - k:=by rw [←(List.cons.inj e2).1]
  have e:zs.length - k=x.1+1:=by omega
  rw [vV k (by omega) hE,e,wU,if_neg hn]
theorem aDA (a b:Option Addr) (cap cap2:Nat) (zs ys:List Int) (w:World) (hz:zs.length*4≤140737488351232) (hlen:ys.length=zs.length) (hI:Sl [] w a (recs eG zs)) (hJ:Sl [] w b (recs eG ys)):
  CallsIn Fence.wide 5 Try.prog 89 #[.slice a zs.length cap, .slice b zs.length cap2] w fun e w'=>e= .returned (.int .i64 (wU zs ys zs.length))∧Below w.heap.size w w':=by
 refine callsIn_of_wp_marks Try.func89 rfl trivial ?_ rfl
 simp only [Try.ntmps89,List.size_toArray,List.length_cons,List.length_nil,Nat.reduceAdd,Nat.reduceSub,Array.replicate_succ,Array.replicate_zero,List.push_toArray,List.append_toArray,List.nil_append,List.cons_append]
 gi_wp2_with (refine ⟨trivial,?_⟩;gi_at_call 84;refine (rE Fence.wide _ trivial rfl _ _ _ _).mono ?_;rintro e w' ⟨rfl,rfl⟩)
 have hs3:=iD w (.slice b zs.length cap2) 98
 have hs4:=iD (w.alloc (.cells #[.slice b zs.length cap2] 98)) (.int .i64 0) 3
 have hb:=iD ((w.alloc (.cells #[.slice b zs.length cap2] 98)).alloc (.cells #[.int .i64 0] 3)) (.slice a zs.length cap) 98
 simp only [World.size_alloc] at hb hs4
 have hBl:Below w.heap.size w (((w.alloc (.cells #[.slice b zs.length cap2] 98)).alloc (.cells #[.int .i64 0] 3)).alloc (.cells #[.slice a zs.length cap] 98)):=(((Below.refl _ w).alloc (Nat.le_refl _) _).alloc (by simp) _).alloc (by simp;omega) _
 have hI2:=Sl.mono hI (Ext.of_below hBl)
 refine wpIn_rangeFunc_ownG rfl (by decide) (gf:=93) (lb:=#[.pointer (some ⟨w.heap.size+1+1,0,none⟩)]) rfl trivial (enters_of Try.func93 (by kernel_rfl) rfl)
  (sJ Fence.wide (5 - 1) trivial rfl (by decide) (w.heap.size+1+1) w.heap.size a cap zs hz _ (by simp) (by simp;omega) hb.1 hI2 (aAU hI)) KpB.trans (aDY (by simp;omega)) (Below.refl _ _) (fun _=>rfl)
  (fun pre W=>((W.cell? ⟨w.heap.size,0,none⟩=some (.slice b zs.length cap2)∧W.frozen? ⟨w.heap.size,0,none⟩=false)∧(W.cell? ⟨w.heap.size+1,0,none⟩=some (.int .i64 0)∧W.frozen? ⟨w.heap.size+1,0,none⟩=false))∧(Eqs zs ys pre∧Below w.heap.size w W))
  (fun c pre W=>(c= .ret∧∃pre0 x,pre=pre0++[x]∧Eqs zs ys pre0∧zs[x.1]?.getD 0≠ys[x.1]?.getD 0∧W.cell? ⟨w.heap.size+1,0,none⟩=some (.int .i64 (kL (zs[x.1]?.getD 0) (ys[x.1]?.getD 0))))∧Below w.heap.size w W)
  ?hI ?hIx ⟨⟨⟨bJ _ (bJ _ hs3.1),cO _ (bJ _ hs3.1) (cO _ hs3.1 hs3.2)⟩,⟨bJ _ hs4.1,cO _ hs4.1 hs4.2⟩⟩,fun x h=>absurd h (by simp),hBl⟩ ?a1 ?assign ?body ?done ?stop
 case hI=>exact OwnFrom.and (Own.from (fun s A B row hs hg hr=>⟨⟨cell_kept hs.1.1 hg hr,(frozen_kept hs.1.1 hg hr).trans hs.1.2⟩,cell_kept hs.2.1 hg hr,(frozen_kept hs.2.1 hg hr).trans hs.2.2⟩) _) (OwnFrom.and (fun _ _ _ _ hs _ _=>hs) (ownFrom_below (Nat.le_refl _) (by simp;omega)))
 case hIx=>exact fun c=>OwnFrom.and (Own.from (fun s A B row hs hg hr=>let ⟨e,pre0,x,hp,hE,hn,hc⟩:=hs;⟨e,pre0,x,hp,hE,hn,cell_kept hc hg hr⟩) _) (ownFrom_below (Nat.le_refl _) (by simp;omega))
 case assign=>
  intro l x W K hK
  dsimp only [dgE]
  gi_wp2
  exact hK
 case body=>
  rintro l pre x W ⟨⟨⟨hc,hf⟩,hc4,hf4⟩,hE,hB⟩ hpl
  have hx:=x.2
  obtain ⟨b',off,rfl⟩:=(Sl.ok hJ (by rw [fZ];omega)).cases
  have hcx:W.cell? ⟨b',off+x.1,none⟩=some (.int .u32 (ys[x.1]?.getD 0)):=(hB.cell (p:=⟨b',off+x.1,none⟩) (aAU hJ (by omega) b' rfl)).trans (qO hJ x.1 (by omega))
  gi_wp2_with (refine ⟨trivial,?_⟩;gi_at_call 97;refine (CallsIn.inRound l (callsIn_wide.2 (aPH _ _ _))).mono ?_;rintro e w' ⟨v,rfl,rfl,rfl⟩)
  ·rename_i hne
   have hne':zs[x.1]?.getD 0≠ys[x.1]?.getD 0:=by simpa [hx,show x.1 < ys.length by omega] using hne
   have ez:zs[x.1]=zs[x.1]?.getD 0:=by simp [hx]
   have ey:ys[x.1]'(by omega)=ys[x.1]?.getD 0:=by simp [show x.1 < ys.length by omega]
   refine ⟨(KeepsOthers.setCell _ _ _).from _,⟨rfl,pre,x,rfl,hE,hne',?_⟩,hB.setCell (p:=⟨w.heap.size+1,0,none⟩) (by simp) _⟩
   rw [ez,ey]
   exact World.cell?_setCell_same' _ _ _ (by rw [hc4];rfl)
  ·rename_i hne
   have he:zs[x.1]?.getD 0=ys[x.1]?.getD 0:=by simpa [hx,show x.1 < ys.length by omega] using hne
   refine ⟨KeepsFrom.refl _ _,KpB.refl _ _ _,⟨⟨⟨hc,hf⟩,hc4,hf4⟩,?_,hB⟩⟩
   intro y hy
   rcases List.mem_append.1 hy with hy|hy
   ·exact hE y hy
   ·rw [List.mem_singleton.1 hy];exact he
 case done=>
  rintro D xs W hD rfl ⟨⟨_,hc4,hf4⟩,hE,hB⟩ hK
  gi_wp2
  have hD':w.heap.size+1+1+1≤D:=by simpa using hD
  have hne:(⟨w.heap.size+1,0,none⟩:Addr).block≠D:=by simp;omega
  have hK':(W.setCell ⟨w.heap.size+1,0,none⟩ (.int .i64 0)).heap[D]?=some (.deferred (some [])):=(Below.heap_setCell W _ _ D (by simp;omega)).trans hK
  refine ⟨by simp, .inl ⟨_,_,rfl,run_takeDeferred hK',?_⟩⟩
  have hq:=World.cell?_setCell_same' W ⟨w.heap.size+1,0,none⟩ (.int .i64 0) (by rw [hc4];rfl)
  refine ⟨_,vH rfl rfl (cell_kept hq (grownBy_putObj' _ D _) (fun r e=>by cases e;exact ⟨_,hK',rfl⟩)),?_,?_⟩
  ·rw [vV zs.length (Nat.le_refl _) hE,Nat.sub_self];rfl
  ·exact (hB.setCell (p:=⟨w.heap.size+1,0,none⟩) (by simp) _).trans (belowK_b (w:=w) (Nat.le_refl _) _ D _ _ (by omega) hK' rfl rfl)
 case stop=>
  rintro D c pre W hD ⟨k,hk,rfl⟩ ⟨⟨rfl,pre0,x,hp,hE,hne,hc4⟩,hB⟩ hK
  gi_wp2
  have hD':w.heap.size+1+1+1≤D:=by simpa using hD
  refine ⟨by simp, .inl ⟨_,_,rfl,run_takeDeferred hK,?_⟩⟩
  refine ⟨_,vH rfl rfl (cell_kept hc4 (grownBy_putObj' _ D _) (fun r e=>by cases e;exact ⟨_,hK,rfl⟩)),?_,?_⟩
  ·rw [aGS k hk hp hE hne]
  ·exact hB.trans (belowK_b (w:=w) (Nat.le_refl _) W D _ _ (by omega) hK rfl rfl)
end Go.Proofs.Ytejbgkajdomgcaa
namespace Go.Proofs.Ytejbgkajdomgcaa
open Go Go.Fx Go.RowKit Go.Shelf
attribute [local go_sem] Oper.semAt_some
theorem aAR:∀{zs ys:List Int} (k:Nat),Dig zs→Dig ys→wU zs ys k=kL (val (zs.take k)) (val (ys.take k))
 |_,_,0,_,_=>by simp [wU,kL,val]
 |zs,ys,k+1,hz,hy=>by
  have h1:=iC hz k
  have h2:=iC hy k
  have h3:=aV (hz.take k)
  have h4:=aV (hy.take k)
  have hp:=iB k
  rw [wU,aW,aW,aAR k hz hy]
  have ez:zs[k]?.getD 0=zs.getD k 0:=by simp
  have ey:ys[k]?.getD 0=ys.getD k 0:=by simp
  rw [ez,ey]
  generalize val (zs.take k)=A at*
  generalize val (ys.take k)=C at*
  generalize zs.getD k 0=x at*
  generalize ys.getD k 0=y at*
  generalize (1000000000:Int) ^ k=B at*
  have key:∀x y A C:Int,x < y→0≤A→A < B→0≤C→A+B*x < C+B*y:=fun x y A C h _ _ _=>by
   have:B*(x+1)≤B*y:=Int.mul_le_mul_of_nonneg_left (by omega) (by omega)
   rw [Int.mul_add] at this
   omega
  split
  ·rename_i e
   subst e
   unfold kL
   simp only [Int.add_lt_add_iff_right]
  ·rename_i e
   rcases Int.lt_or_gt_of_ne e with h|h
   ·have:=key x y A C h h3 h1 h4
    unfold kL
    rw [if_pos h,if_pos this]
   ·have:=key y x C A h h4 h2 h3
    unfold kL
    rw [if_neg (by omega),if_pos h,if_neg (by omega),if_pos this]
theorem oC {s g:Int} (hs:0≤s∧s < 1000000000) (hg:0≤g∧g < 1000000000):wdS s g=s*1000000000+g:=by
 unfold wdS
 rw [wrap_u64 (n:=s*1000000000) (by omega),wrap_u64 (n:=g) (by omega),wrap_u64 (by omega)]
section
variable {X:List Nat} {w0:World} {M0:List Ent} {I0:List aO}
theorem aCN {p q:Option Addr} {m n cp cq:Nat} (hm:(gr m).length≤100000000000) (hn:(gr n).length≤100000000000) (hp:aN p (recs eG (gr m))∈I0) (hq:aN q (recs eG (gr n))∈I0):
  CD Try.prog 89 [.slice p (gr m).length cp, .slice q (gr n).length cq] X w0 M0 I0 (fun v M I=>M0=M∧I0=I∧v= .int .i64 (kL m n)):=by
 by_cases hl:(gr n).length=(gr m).length
 ·rw [hl]
  refine CD.ext (fun w hw=>Calls.mono (callsIn_wide.1 (aDA p q cp cq (gr m) (gr n) w (by omega) hl ((hw.sl hp).less (by simp)) ((hw.sl hq).less (by simp)))) ?_)
  rintro e w' ⟨rfl,hB⟩
  refine ⟨_,rfl,Ext.of_below hB,?_⟩
  have e:=aAR (gr m).length (dF m) (dF n)
  rw [List.take_length,←hl,List.take_length,dR,dR] at e
  rw [hl] at e
  rw [e]
 ·have hc:kL ((gr m).length:Int) ((gr n).length:Int)=kL m n:=by
   have h1:∀a b:Nat,(gr a).length < (gr b).length→(a:Int) < b:=fun a b h=>by
    have:=aKN (vR a) (vR b) h
    rwa [dR,dR] at this
   rcases Nat.lt_or_gt_of_ne hl with h|h
   ·have:=h1 n m h
    unfold kL
    rw [if_neg (by omega),if_pos (by omega),if_neg (by omega),if_pos (by omega)]
   ·have:=h1 m n h
    unfold kL
    rw [if_pos (by omega),if_pos (by omega)]
  refine aX Try.func89 rfl Try.ntmps89 rfl ?_
  refine lU ?_
  refine tyX rfl (fun b=>?_)
  refine iL (fun s=>?_)
  repeat refine jY ?_
  (refine dS rfl (CD.same (fun w _=>aOR _ _ _)) ?_;rintro _ _ _ ⟨rfl,rfl,rfl⟩;refine cK ?_)
  rw [hc]
  repeat refine jY ?_
  exact aMZ (.inl rfl) rfl rfl aH _ _ aJ aI ⟨rfl,rfl,rfl⟩
theorem uL {q:Option Addr} {n c:Nat} (hn:(gr n).length≤100000000000) (hq:aN q (recs eG (gr n))∈I0):
  CD Try.prog 79 [.slice q (gr n).length c] X w0 M0 I0 (fun v M I=>M0=M∧I0=I∧v= .tuple #[.int .u64 (if (gr n).length≤2 then (n:Int) else 0), .bool (B ((gr n).length≤2))]):=by
 by_cases hl:(gr n).length≤2
 ·refine CD.ext (fun w hw=>Calls.mono (callsIn_wide.1 (aLU q c (gr n) w hl ((hw.sl hq).less (by simp)) (aAU ((hw.sl hq).less (by simp))))) ?_)
  rintro e w' ⟨rfl,hB⟩
  refine ⟨_,rfl,Ext.of_below hB,?_⟩
  rw [if_pos hl,dX hl]
  have hd:=dF n
  have hv:=dR n
  congr 4
  revert hl hd hv
  generalize gr n=zs
  intro hl hd hv
  rw [←hv]
  match zs,hl,hd with
  |[],_,_=>simp [nO,uK,val]
  |[x],_,hd=>
   have:=hd x (by simp)
   have e:uK [x] (nO [x] [x].length)=wdS 0 x:=rfl
   rw [e,oC (by omega) this]
   simp [val]
  |[x,y],_,hd=>
   have h1:=hd x (by simp)
   have h2:=hd y (by simp)
   have e:uK [x,y] (nO [x,y] [x,y].length)=wdS (wdS 0 y) x:=rfl
   rw [e,oC (by omega) h2,oC (by omega) h1]
   simp only [val]
   omega
 ·refine aX Try.func79 rfl Try.ntmps79 rfl ?_
  repeat refine jY ?_
  refine eY [2,3] (by first|exact .inl rfl|exact .inr rfl) rfl rfl rfl _ _ aJ aI (⟨rfl,rfl,by rw [if_neg hl,bQ hl]⟩)
end
end Go.Proofs.Ytejbgkajdomgcaa
