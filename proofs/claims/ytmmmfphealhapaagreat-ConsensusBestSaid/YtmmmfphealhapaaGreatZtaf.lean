/- integer: the numbers: made, Valid, groups, Sign, Neg, Mul slices.Backward at slices of uin -/
import Derived.Test.YtmmmfphealhapaaGreatZtae
import Derived.Test.YtmmmfphealhapaaGreatZtad
import Derived.RangeFuncNested
import Derived.RangeFuncBound
import Derived.RangeFuncCalls
import Derived.RangeFuncLeaves
import Derived.Shelf.Abstract
import Derived.WalkKit
import Derived.OwnWalkIn
import Derived.TacticsInMore
import Derived.LoopNIn
import Derived.LoopIn
set_option linter.unusedSimpArgs false
set_option linter.unusedVariables false
set_option maxRecDepth 100000
set_option maxHeartbeats 4000000
namespace Go.Proofs.YtmmmfphealhapaaGreat
open Go Go.Fx
def iv (q:Option Addr) (c:Nat) (z:Int):Value:= .agg #[.bool (B (z < 0)), .slice q (gr z.natAbs).length c]
abbrev sO (q:Option Addr) (n c:Nat):Prop:=(gr n).length≤c∧(Ok q∨((gr n).length=0∧c=0))
structure IsI (u:Value) (z:Int) (k:Nat) (X:List Nat) (w:World):Prop where
 ex:∃q c,u=iv q c z∧sO q z.natAbs c∧z.natAbs≤2 ^ k∧Sl X w q (recs eG (gr z.natAbs))
abbrev iA (u:Value) (z:Int) (k:Nat):aL:=IsI u z k
instance (u:Value) (z:Int) (k:Nat):Fx.Good (IsI u z k):=⟨fun X Y w w' h he hY=>by
 obtain ⟨q,c,h1,h2,h3,h4⟩:=h.ex
 exact ⟨q,c,h1,h2,h3,Sl.carry h4 he hY⟩⟩
def sg (p:Prop) [Decidable p] (n:Nat):Int:=if p then -(n:Int) else n
theorem aVM (p:Prop) [Decidable p] (n:Nat):(sg p n).natAbs=n:=by unfold sg;split <;>omega
theorem rC (z:Int):sg (z < 0) z.natAbs=z:=by unfold sg;split <;>omega
theorem aOK (z:Int):sg (¬z < 0) z.natAbs= -z:=by unfold sg;split <;>omega
theorem sg_lt {p:Prop} [Decidable p] {n:Nat} (h:n≠0):sg p n < 0↔p:=by unfold sg;split <;>simp_all <;>omega
section
variable {P:Program} {n:Nat} {Q:Exit→Act→World→Prop} {G:Env} {X:List Nat} {w0:World} {M M':List Ent} {I I':List aL}
theorem bZ {f:FuncId} {vs:List Value} {K:Value→List Ent→List aL→Prop} {u:Value} {z:Int} {k:Nat} (hu:iA u z k∈I)
  (h:∀q c,u=iv q c z→sO q z.natAbs c→z.natAbs≤2 ^ k→CD P f vs X w0 M (aI q (recs eG (gr z.natAbs))::I) K):CD P f vs X w0 M I K:=
 ⟨fun w hw=>by
  obtain ⟨q,c,h1,h2,h3,h4⟩:=((hw.imm _ hu).2).ex
  exact (h q c h1 h2 h3).go w (hw.add (φ:=aI q _) ⟨h4⟩)⟩
theorem aII {w:World} {q:Option Addr} {c:Nat} {z:Int} {k:Nat} (hw:Mem X w0 M I w) (hm:aI q (recs eG (gr z.natAbs))∈I) (hc:sO q z.natAbs c) (hk:z.natAbs≤2 ^ k):Mem X w0 M (iA (iv q c z) z k::I) w:=
 hw.add (φ:=iA _ z k) ⟨q,c,rfl,hc,hk,hw.sl hm⟩
theorem aHU {ex:Exit} {q:Option Addr} {c:Nat} {z:Int} {k:Nat} (hm:aI q (recs eG (gr z.natAbs))∈I) (hc:sO q z.natAbs c) (hk:z.natAbs≤2 ^ k) (h:ND n Q ex G X w0 M (iA (iv q c z) z k::I)):ND n Q ex G X w0 M I:=yO (fun _ hw=>aII hw hm hc hk) h
theorem yB {ops l:List Oper} {m:Fx.Mode} {q:Option Addr} {c:Nat} {z:Int} {k:Nat} (hm:aI q (recs eG (gr z.natAbs))∈I) (hc:sO q z.natAbs c) (hk:z.natAbs≤2 ^ k) (h:RD P n ops Q m l G X w0 M (iA (iv q c z) z k::I)):RD P n ops Q m l G X w0 M I:=vQ (fun _ hw=>aII hw hm hc hk) h
theorem aT {ops l:List Oper} {m:Fx.Mode} {u:Value} {z:Int} {k:Nat} (hu:iA u z k∈I)
  (h:∀q c,u=iv q c z→sO q z.natAbs c→z.natAbs≤2 ^ k→RD P n ops Q m l G X w0 M (aI q (recs eG (gr z.natAbs))::I)):RD P n ops Q m l G X w0 M I:=
 ⟨fun w hw=>by
  obtain ⟨q,c,h1,h2,h3,h4⟩:=((hw.imm _ hu).2).ex
  exact (h q c h1 h2 h3).go w (hw.add (φ:=aI q _) ⟨h4⟩)⟩
theorem IsI.mono {u:Value} {z:Int} {k m:Nat} {X:List Nat} {w:World} (h:IsI u z k X w) (hk:k≤m):IsI u z m X w:=by
 obtain ⟨q,c,h1,h2,h3,h4⟩:=h.ex
 exact ⟨q,c,h1,h2,Nat.le_trans h3 (Nat.pow_le_pow_right (by decide) hk),h4⟩
end
theorem fV {n k:Nat} (h:n≤2 ^ k) (hk:k≤1000000000000):(gr n).length≤40000000000:=by
 have:=eY h
 omega
/- ---------- IndexFunc, ContainsFunc of []uint32 ---------- -/
section
variable {X:List Nat} {w0:World} {M0:List Ent} {I0:List aL}
theorem bCF {q:Option Addr} {a:List Int} {c:Nat} {g:FuncId} [FnOk Tryz.prog g] {fs cs:Array Value} (pr:Int→Prop) [DecidablePred pr] (hn:(a.length:Int)≤9223372036854775807) (ha:aI q (recs eG a)∈I0)
  (hg:∀i:Nat,i < a.length→CD Tryz.prog g (fs.toList++[Value.int .u32 (gt a i)]++cs.toList) X w0 M0 I0 (fun v M I=>M0=M∧I0=I∧v= .bool (B (pr (gt a i))))):
  CD Tryz.prog 250 [.slice q a.length c, .func (.func g) fs cs] X w0 M0 I0 (fun v M I=>M0=M∧I0=I∧∃r:Int,v= .int .i64 r∧((∃i:Nat,i < a.length∧r=i∧pr (gt a i)∧∀j:Nat,j < i→¬pr (gt a j))∨(r= -1∧∀j:Nat,j < a.length→¬pr (gt a j)))):=by
 refine dY Tryz.func250 rfl Tryz.ntmps250 rfl ?_
 repeat refine lT ?_
 refine bX [0,1,7] rfl (fun k G M I=>∃i:Nat,i≤a.length∧k=a.length - i∧(∀j:Nat,j < i→¬pr (gt a j))∧G=[(8, .int .i64 i)]∧M=M0∧I=I0) (a.length) _ _ _ dB bY bW (⟨0,by omega,rfl,fun j hj=>by omega,rfl,rfl,rfl⟩) ?_
 rintro k G M I ⟨i,hi,rfl,hs,rfl,rfl,rfl⟩
 repeat' (first|refine lT ?_|refine aJ rfl (fun h=>?_) (fun h=>?_)|refine aK rfl rfl (fun h=>?_) (fun h=>?_)|fail)
 ·have hlt:i < a.length:=by omega
  (refine aLW rfl rfl (hg i hlt) rfl rfl rfl ?_;rintro _ _ _ ⟨rfl,rfl,rfl⟩;refine ⟨okJ,?_⟩)
  repeat' (first|refine lT ?_|refine aJ rfl (fun h=>?_) (fun h=>?_)|refine aK rfl rfl (fun h=>?_) (fun h=>?_)|fail)
  ·refine aU (by first|exact .inl rfl|exact .inr rfl) rfl rfl _ _ bY bW (⟨rfl,rfl,_,rfl, .inl ⟨i,hlt,rfl,by assumption,hs⟩⟩)
  ·refine cO (a.length - (i+1)) _ _ _ (by first|omega|(simp only [List.length_append,List.length_cons,List.length_nil];omega)) dB bY bW (⟨i+1,by omega,rfl,fun j hj=>?_,rfl,rfl,rfl⟩)
   by_cases e:j=i
   ·subst e;assumption
   ·exact hs j (by omega)
 ·refine aU (by first|exact .inl rfl|exact .inr rfl) rfl rfl _ _ bY bW (⟨rfl,rfl,_,rfl, .inr ⟨rfl,fun j hj=>hs j (by omega)⟩⟩)
theorem bCD {q:Option Addr} {a:List Int} {c:Nat} {g:FuncId} [FnOk Tryz.prog g] {fs cs:Array Value} (pr:Int→Prop) [DecidablePred pr] (hn:(a.length:Int)≤9223372036854775807) (ha:aI q (recs eG a)∈I0)
  (hg:∀i:Nat,i < a.length→CD Tryz.prog g (fs.toList++[Value.int .u32 (gt a i)]++cs.toList) X w0 M0 I0 (fun v M I=>M0=M∧I0=I∧v= .bool (B (pr (gt a i))))):
  CD Tryz.prog 195 [.slice q a.length c, .func (.func g) fs cs] X w0 M0 I0 (fun v M I=>M0=M∧I0=I∧v= .bool (B (∃x∈a,pr x))):=by
 refine dY Tryz.func195 rfl Tryz.ntmps195 rfl ?_
 repeat refine lT ?_
 (refine bD rfl (bCF pr hn ha hg) ?_;rintro _ _ _ ⟨rfl,rfl,r,rfl,h⟩;refine aN ?_)
 repeat refine lT ?_
 refine aU (by first|exact .inl rfl|exact .inr rfl) rfl rfl _ _ bY bW (⟨rfl,rfl,congrArg Value.bool (iZ ?_)⟩)
 rcases h with ⟨i,hi,rfl,hp,_⟩|⟨rfl,h⟩
 ·exact ⟨fun _=>⟨gt a i,by rw [fH hi];exact List.getElem_mem hi,hp⟩,fun _=>by omega⟩
 ·refine ⟨fun h=>by omega,?_⟩
  rintro ⟨x,hx,hp⟩
  obtain ⟨j,hj,rfl⟩:=List.mem_iff_getElem.1 hx
  exact absurd (by rw [fH hj];exact hp) (h j hj)
end
/- ---------- Clone of []uint32 ---------- -/
section
variable {X:List Nat} {w0:World} {M0:List Ent} {I0:List aL}
theorem aBX {q:Option Addr} {a:List Int} {c:Nat} (hn:(a.length:Int)*4≤140737488355328) (hok:Ok q∨(a.length=0∧c=0)) (ha:aI q (recs eG a)∈I0):
  CD Tryz.prog 128 [.slice q a.length c] X w0 M0 I0 (fun v M I=>I0=I∧∃q' c',v= .slice q' a.length c'∧M= .row q' a.length c' (recs eG a) 121 1::M0):=by
 refine dY Tryz.func128 rfl Tryz.ntmps128 rfl ?_
 repeat refine lT ?_
 refine aD rfl (fun _=>oD rfl) rfl rfl ?_
 cases q with
 |some ad=>
  repeat refine lT ?_
  refine gK (cs:=recs eG []) ([]) rfl (fun b1=>?_)
  repeat refine lT ?_
  refine fM (mm:=0) 1 tO rfl (by omega) ?_
  refine iB (xs:=[]) (ys:=a) 0 rfl rfl rfl (Src.imm bA hok) (by decide) rfl (by simp;omega) (by simp;omega) rfl rfl ?_
  intro a2 c2
  refine ⟨okJ,?_⟩
  repeat refine lT ?_
  refine aU (by first|exact .inl rfl|exact .inr rfl) rfl rfl _ _ bY bW (⟨rfl,a2,c2,by simp,by simp⟩)
 |none=>
  obtain ⟨h0,rfl⟩:a.length=0∧c=0:=hok.resolve_left (fun h=>by obtain ⟨b,o,e⟩:=h.cases;cases e)
  have hnil:a=[]:=List.eq_nil_of_length_eq_zero h0
  subst hnil
  repeat refine lT ?_
  refine bCQ 121 1 ?_
  refine aU (by first|exact .inl rfl|exact .inr rfl) rfl rfl _ _ bY bW (⟨rfl,none,0,rfl,rfl⟩)
end
section
variable {X:List Nat} {w0:World} {M0:List Ent} {I0:List aL}
theorem mQ {p:Prop} [Decidable p] {q:Option Addr} {n c k:Nat} (hl:(gr n).length≤100000000000) (hc:sO q n c) (hk:n≤2 ^ k) (hq:aI q (recs eG (gr n))∈I0):
  CD Tryz.prog 123 [.bool (B p), .slice q (gr n).length c] X w0 M0 I0 (fun v M I=>M0=M∧I=iA v (sg p n) k::I0):=by
 refine dY Tryz.func123 rfl Tryz.ntmps123 rfl ?_
 refine gG ?_
 refine cK (fun b=>?_)
 repeat refine lT ?_
 (refine bD rfl (tH (l:=gr n) rfl (by omega) hc.1 hq) ?_;rintro _ _ _ ⟨rfl,rfl,rfl⟩;refine aN ?_)
 rw [aFE (aFK n)]
 by_cases h0:(gr n).length=0
 ·have hn:n=0:=oZ.1 (List.eq_nil_of_length_eq_zero h0)
  subst hn
  repeat refine lT ?_
  (refine aD rfl (fun _=>bC (pvs:=([]).zipIdx.map (fun p=>(p.2,p.1))) (cells:=[.bool false, .slice none 0 0]) rfl rfl) rfl rfl ?_)
  repeat refine lT ?_
  have hz:sg p 0=0:=by unfold sg;split <;>rfl
  rw [hz]
  have hg0:gr (0:Int).natAbs=[]:=gQ
  refine aIW none ?_
  refine aHU (q:=none) (c:=0) (z:=0) (k:=k) (by rw [hg0];exact bA) ⟨by rw [hg0];simp, .inr ⟨by rw [hg0];rfl,rfl⟩⟩ (by simp) ?_
  have hiv:iv none 0 0= .agg #[.bool false, .slice none 0 0]:=by unfold iv;rw [hg0,bH (by omega)];rfl
  rw [hiv]
  refine aO (cs:=[.bool false, .slice none 0 0]) (.inl rfl) rfl rfl bA rfl _ _ bY bW ⟨rfl,rfl⟩
 ·have hn:n≠0:=fun e=>h0 (by rw [e,gQ];rfl)
  repeat refine lT ?_
  (refine aD rfl (fun _=>bC (pvs:=([.bool (B p), .slice q (gr n).length c]).zipIdx.map (fun p=>(p.2,p.1))) (cells:=[.bool (B p), .slice q (gr n).length c]) rfl rfl) rfl rfl ?_)
  repeat refine lT ?_
  have ha:=aVM p n
  refine aHU (q:=q) (c:=c) (z:=sg p n) (k:=k) (by rw [ha];exact bA) (by rw [ha];exact hc) (by rw [ha];exact hk) ?_
  have hiv:iv q c (sg p n)= .agg #[.bool (B p), .slice q (gr n).length c]:=by unfold iv;rw [ha,iZ (sg_lt hn)]
  rw [hiv]
  refine aO (cs:=[.bool (B p), .slice q (gr n).length c]) (.inl rfl) rfl rfl bA rfl _ _ bY bW ⟨rfl,rfl⟩
theorem bBE {x:Int}:CD Tryz.prog 196 [.int .u32 x] X w0 M0 I0 (fun v M I=>M0=M∧I0=I∧v= .bool (B (1000000000≤x))):=by
 refine dY Tryz.func196 rfl Tryz.ntmps196 rfl ?_
 repeat refine lT ?_
 refine aU (by first|exact .inl rfl|exact .inr rfl) rfl rfl _ _ bY bW (⟨rfl,rfl,rfl⟩)
def vM (neg:Bool) (gs:List Int):Prop:=(gs=[]∧neg=false)∨(gs≠[]∧Top gs∧¬∃x∈gs,1000000000≤x)
instance (neg:Bool) (gs:List Int):Decidable (vM neg gs):=by unfold vM;exact inferInstance
theorem aDM {gs:List Int} (h:0 < gs.length):gs.getLastD 1=gt gs ((gs.length:Int) - 1):=by
 rcases List.eq_nil_or_concat gs with rfl|⟨r,x,e⟩
 ·simp at h
 ·rw [List.concat_eq_append] at e
  subst e
  have e1:(((r++[x]).length:Int) - 1)=((r.length:Nat):Int):=by simp
  rw [e1,yF]
  simp
theorem xB {neg:Bool} {q:Option Addr} {gs:List Int} {c:Nat} (hn:(gs.length:Int)≤9223372036854775807) (hq:aI q (recs eG gs)∈I0):
  CD Tryz.prog 120 [.agg #[.bool neg, .slice q gs.length c]] X w0 M0 I0 (fun v M I=>M0=M∧I0=I∧v= .bool (B (vM neg gs))):=by
 refine dY Tryz.func120 rfl Tryz.ntmps120 rfl ?_
 refine gG ?_
 refine tyX rfl (fun b=>?_)
 by_cases h0:gs.length=0
 ·have hg:gs=[]:=List.eq_nil_of_length_eq_zero h0
  subst hg
  repeat refine lT ?_
  refine aU (by first|exact .inl rfl|exact .inr rfl) rfl rfl _ _ bY bW (⟨rfl,rfl,by rw [show (!neg)=B (vM neg []) by rw [tZ];cases neg <;>simp [vM]]⟩)
 ·have hgs:gs≠[]:=fun e=>h0 (by rw [e];rfl)
  have hlast:=aDM (gs:=gs) (by omega)
  repeat' (first|refine lT ?_|refine aJ rfl (fun h=>?_) (fun h=>?_)|refine aK rfl rfl (fun h=>?_) (fun h=>?_)|fail)
  ·refine dH rfl (bCD (fun x=>1000000000≤x) hn hq (fun i hi=>bBE)) ?_
   repeat refine lT ?_
   refine aU (by first|exact .inl rfl|exact .inr rfl) rfl rfl _ _ bY bW (⟨rfl,rfl,congrArg Value.bool (iZ ?_)⟩)
   unfold vM Top
   rw [hlast]
   exact ⟨fun h=> .inr ⟨hgs,by assumption,h⟩,fun h=>h.elim (fun h=>absurd h.1 hgs) (fun h=>h.2.2)⟩
  ·refine aU (by first|exact .inl rfl|exact .inr rfl) rfl rfl _ _ bY bW (⟨rfl,rfl,congrArg Value.bool (bH ?_).symm⟩)
   unfold vM Top
   rw [hlast]
   rintro (h|h)
   ·exact hgs h.1
   ·exact absurd h.2.1 (by assumption)
theorem aCB (z:Int):vM (B (z < 0)) (gr z.natAbs):=by
 by_cases h:z.natAbs=0
 ·refine .inl ⟨by rw [h,gQ],bH (by omega)⟩
 ·refine .inr ⟨fun e=>h (oZ.1 e),aFK _,?_⟩
  rintro ⟨x,hx,h1⟩
  have:=bT z.natAbs x hx
  omega
theorem iU {q:Option Addr} {c k:Nat} {z:Int} (hz:z.natAbs≤2 ^ k) (hk:k≤1000000000000) (hq:aI q (recs eG (gr z.natAbs))∈I0):
  CD Tryz.prog 126 [iv q c z] X w0 M0 I0 (fun v M I=>M0=M∧I0=I∧v= .slice q (gr z.natAbs).length c):=by
 have hl:=fV hz hk
 unfold iv
 refine dY Tryz.func126 rfl Tryz.ntmps126 rfl ?_
 refine gG ?_
 refine tyX rfl (fun b=>?_)
 repeat refine lT ?_
 refine dH rfl (xB (neg:=B (z < 0)) (gs:=gr z.natAbs) (by omega) hq) ?_
 rw [bK (aCB z)]
 repeat refine lT ?_
 refine aU (by first|exact .inl rfl|exact .inr rfl) rfl rfl _ _ bY bW (⟨rfl,rfl,rfl⟩)
theorem qG {u:Value} {z:Int} {k:Nat} (hk:k≤1000000000000) (hu:iA u z k∈I0):CD Tryz.prog 61 [u] X w0 M0 I0 (fun v M I=>M0=M∧I0=I∧v= .int .i64 z.sign):=by
 refine bZ hu (fun q c e hc hz=>?_)
 subst e
 unfold iv
 refine dY Tryz.func61 rfl Tryz.ntmps61 rfl ?_
 refine gG ?_
 refine tyX rfl (fun b=>?_)
 repeat refine lT ?_
 refine dH rfl (iU (c:=c) hz hk bA) ?_
 have hnil:(gr z.natAbs).length=0↔z=0:=by
  rw [List.length_eq_zero_iff,oZ];omega
 by_cases h0:z=0
 ·have:=hnil.2 h0
  repeat refine lT ?_
  refine aU (by first|exact .inl rfl|exact .inr rfl) rfl rfl _ _ bY bW (⟨rfl,rfl,by rw [h0];rfl⟩)
 ·have:¬(gr z.natAbs).length=0:=fun h=>h0 (hnil.1 h)
  repeat' (first|refine lT ?_|refine aJ rfl (fun h=>?_) (fun h=>?_)|refine aK rfl rfl (fun h=>?_) (fun h=>?_)|fail)
  ·refine aU (by first|exact .inl rfl|exact .inr rfl) rfl rfl _ _ bY bW (⟨rfl,rfl,by rw [Int.sign_eq_neg_one_of_neg (by assumption)]⟩)
  ·refine aU (by first|exact .inl rfl|exact .inr rfl) rfl rfl _ _ bY bW (⟨rfl,rfl,by rw [Int.sign_eq_one_of_pos (by omega)]⟩)
theorem aJO {u:Value} {z:Int} {k:Nat} (hk:k≤1000000000000) (hu:iA u z k∈I0):CD Tryz.prog 192 [u] X w0 M0 I0 (fun v M I=>M0=M∧I=iA v (-z) k::I0):=by
 refine bZ hu (fun q c e hc hz=>?_)
 subst e
 have hl:=fV hz hk
 unfold iv
 refine dY Tryz.func192 rfl Tryz.ntmps192 rfl ?_
 refine gG ?_
 refine tyX rfl (fun b=>?_)
 refine cK (fun b2=>?_)
 repeat refine lT ?_
 (repeat refine aG ?_);refine aW 3 [0,1,2,3,4,5,6,7] [3,3,2,2,0,0,0,0] mixed (by kernel_rfl) ?_
 repeat refine lT ?_
 refine dH rfl (iU (c:=c) hz hk bA) ?_
 repeat refine lT ?_
 (refine bD rfl (aBX (a:=gr z.natAbs) (by omega) hc.2 bA) ?_;rintro _ _ _ ⟨rfl,q',c',rfl,rfl⟩;refine aN ?_)
 refine nQ (fun w hw=>And.intro (hw.rowLe (List.Mem.head _)) ((hw.rowS (List.Mem.head _)).2.imp id And.right)) (fun hc'=>?_)
 refine fD yZ ?_
 repeat refine lT ?_
 rw [←aOK z]
 (refine kH rfl (mQ (p:=¬z < 0) (k:=k) (by omega) hc' hz bA) rfl rfl ?_;rintro _ _ _ ⟨rfl,rfl⟩;refine ⟨okJ,?_⟩;refine aT (List.Mem.head _) (fun q2 c2 e__ hc2 hz2=>?_);subst e__)
 unfold iv
 repeat refine lT ?_
 refine aO (cs:=[.bool (B (sg (¬z < 0) z.natAbs < 0)), .slice q2 (gr (sg (¬z < 0) z.natAbs).natAbs).length c2]) (.inl rfl) rfl rfl bA rfl _ _ bY bW ⟨rfl,rfl⟩
theorem uA {u v:Value} {y z:Int} {k m:Nat} (hk:k+m≤1000000000000) (hu:iA u y k∈I0) (hv:iA v z m∈I0):CD Tryz.prog 59 [u,v] X w0 M0 I0 (fun v M I=>M0=M∧I=iA v (y*z) (k+m)::I0):=by
 refine bZ hu (fun q c e hc hy=>?_)
 subst e
 refine bZ (List.Mem.tail _ hv) (fun q' c' e hc' hz=>?_)
 subst e
 have hl:=fV hy (by omega)
 have hl':=fV hz (by omega)
 unfold iv
 refine dY Tryz.func59 rfl Tryz.ntmps59 rfl ?_
 refine gG ?_
 refine tyX rfl (fun b=>?_)
 refine tyX rfl (fun b2=>?_)
 refine cK (fun b3=>?_)
 repeat refine lT ?_
 (repeat refine aG ?_);refine aW 4 [0,1,2,3,4,5,7,6,8,9,10,11] [4,4,4,4,3,3,3,0,0,0,0,0] mixed (by kernel_rfl) ?_
 repeat refine lT ?_
 refine dH rfl (iU (c:=c) hy (by omega) bA) ?_
 repeat refine lT ?_
 refine dH rfl (iU (c:=c') hz (by omega) bA) ?_
 repeat refine lT ?_
 (refine bD rfl (aZJ (by omega) (by omega) bA bA) ?_;rintro _ _ _ ⟨rfl,q3,c3,rfl,hc3,rfl⟩;refine aN ?_)
 have hyz:y.natAbs*z.natAbs≤2 ^ (k+m):=aCM hy hz
 have hl3:=fV hyz (by omega)
 have hsg:sg (¬(y < 0↔z < 0)) (y.natAbs*z.natAbs)=y*z:=by
  unfold sg
  rw [Int.natCast_mul]
  by_cases h1:y < 0 <;>by_cases h2:z < 0 <;>simp only [h1,h2,not_true_eq_false,not_false_eq_true,iff_true,iff_false,if_true,if_false]
  ·rw [show (y.natAbs:Int)= -y by omega,show (z.natAbs:Int)= -z by omega,Int.neg_mul_neg]
  ·rw [show (y.natAbs:Int)= -y by omega,show (z.natAbs:Int)=z by omega,Int.neg_mul,Int.neg_neg]
  ·rw [show (y.natAbs:Int)=y by omega,show (z.natAbs:Int)= -z by omega,Int.mul_neg,Int.neg_neg]
  ·rw [show (y.natAbs:Int)=y by omega,show (z.natAbs:Int)=z by omega]
 rw [←hsg]
 (refine kH rfl (mQ (p:=¬(y < 0↔z < 0)) (k:=k+m) (by omega) hc3 hyz bA) rfl rfl ?_;rintro _ _ _ ⟨rfl,rfl⟩;refine ⟨okJ,?_⟩;refine aT (List.Mem.head _) (fun q2 c2 e__ hc2 hz2=>?_);subst e__)
 unfold iv
 repeat refine lT ?_
 refine aO (cs:=[.bool (B (sg (¬(y < 0↔z < 0)) (y.natAbs*z.natAbs) < 0)), .slice q2 (gr (sg (¬(y < 0↔z < 0)) (y.natAbs*z.natAbs)).natAbs).length c2]) (.inl rfl) rfl rfl bA rfl _ _ bY bW ⟨rfl,rfl⟩
end
end Go.Proofs.YtmmmfphealhapaaGreat
namespace Go.Proofs.YtmmmfphealhapaaGreat
open Go Go.Fx Go.RowKit Go.Shelf
attribute [local go_sem] Oper.semAt_some
abbrev Dg (zs:List Int):={j:Nat // j < zs.length}
def yC (zs:List Int):Nat→List (Dg zs)
 |0=>[]
 |k+1=>yC zs k++(if h:zs.length - 1 - k < zs.length then [⟨zs.length - 1 - k,h⟩] else [])
theorem uL {zs:List Int} {k:Nat} (h:k < zs.length):yC zs (k+1)=yC zs k++[⟨zs.length - 1 - k,by omega⟩]:=by rw [yC,dif_pos (by omega)]
theorem aDS {zs:List Int}:∀{k:Nat},k≤zs.length→(yC zs k).length=k
 |0,_=>rfl
 |k+1,h=>by rw [uL (by omega),List.length_append,aDS (by omega)];rfl
def dgE (zs:List Int) (x:Dg zs):Array Value:=#[.int .i64 (x.1:Int), .int .u32 (zs[x.1]?.getD 0)]
structure KpB (n₀ Bs:Nat) (A B:World):Prop where
 below:Below n₀ A B
 box:∀v,A.cell? ⟨Bs,0,none⟩=some v→B.cell? ⟨Bs,0,none⟩=some v
theorem KpB.refl (n₀ Bs:Nat) (A:World):KpB n₀ Bs A A:=⟨Below.refl _ _,fun _ h=>h⟩
theorem KpB.trans {n₀ Bs:Nat} {A B C:World} (h:KpB n₀ Bs A B) (k:KpB n₀ Bs B C):KpB n₀ Bs A C:=⟨h.below.trans k.below,fun v hv=>k.box v (h.box v hv)⟩
theorem aWP {n₀ Bs:Nat} {w:World} (hn:n₀≤w.heap.size) (W:World) (l:Nat) (o o':Obj) (hl:w.heap.size≤l) (h:W.heap[l]?=some o) (hc:o.isCells=false) (hw:o.isWalk=false):KpB n₀ Bs W (W.putObj l o'):=
 ⟨belowK_b hn W l o o' hl h hc hw,fun _ hv=>cell_kept hv (grownBy_putObj' W l o') (fun r e=>by cases e;exact ⟨o,h,hc⟩)⟩
theorem aGF {W:World} {B:Nat} {v:Value} {t:TypeId} (h:W.heap[B]?=some (.cells #[v] t (0,0))):W.cell? ⟨B,0,none⟩=some v∧W.frozen? ⟨B,0,none⟩=false:=by
 constructor <;>simp [World.cell?,World.frozen?,h]
theorem qB (W:World) (v:Value) (t:TypeId):(W.alloc (.cells #[v] t)).cell? ⟨W.heap.size,0,none⟩=some v∧(W.alloc (.cells #[v] t)).frozen? ⟨W.heap.size,0,none⟩=false:=
 aGF (World.alloc_heap_new W _)
theorem oK {W:World} {a:Addr} {v:Value} (o:Obj) (h:W.cell? a=some v):(W.alloc o).cell? a=some v:=cell_kept h (World.grownBy_alloc W o none) (fun r e=>by cases e)
theorem oN {W:World} {a:Addr} {v:Value} (o:Obj) (h:W.cell? a=some v) (hf:W.frozen? a=false):(W.alloc o).frozen? a=false:=(frozen_kept h (World.grownBy_alloc W o none) (fun r e=>by cases e)).trans hf
theorem Ext.of_below {w w':World} (h:Below w.heap.size w w'):Ext [] w w':=⟨h.os,h.tape,h.output,h.size,fun k hk _=>h.block k hk⟩
theorem aWV (F:Fence) (n:Nat) (h:F.fn 279) (hro:F.round=none) (hn:1≤n) (l Bs n₀ b off cap:Nat) (zs:List Int) (hreach:zs.length*4≤140737488351232) (hb:b < n₀) (J Jx:List (Dg zs)→World→Prop)
  (hY:∀pre x W,J pre W→pre.length < zs.length→YieldAt F (n - 1) Tryz.prog l (dgE zs x) W fun e W'=>
   (e= .returned (.bool true)∧J (pre++[x]) W'∧KpB n₀ Bs W W')∨(e= .returned (.bool false)∧Jx (pre++[x]) W'))
  (W:World) (hBs:W.cell? ⟨Bs,0,none⟩=some (.slice (some ⟨b,off,none⟩) zs.length cap)) (hc:∀j,j < zs.length→W.cell? ⟨b,off+j,none⟩=some (.int .u32 (zs[j]?.getD 0))) (h0:J [] W):
  CallsIn F n Tryz.prog 279 #[.func (.yield l) #[] #[], .pointer (some ⟨Bs,0,none⟩)] W fun e W'=>(∃v,e= .returned v)∧
   ((∃ys,ys=yC zs zs.length∧J ys W')∨(∃pre,(∃k,k≤zs.length∧pre=yC zs k)∧Jx pre W')):=by
 refine callsIn_of_wp Tryz.func279 rfl h ?_ hro
 simp only [Tryz.ntmps279,List.size_toArray,List.length_cons,List.length_nil,Nat.reduceAdd,Nat.reduceSub,Array.replicate_succ,Array.replicate_zero,List.push_toArray,List.append_toArray,List.nil_append,List.cons_append]
 gi_wp2
 gi_loopw [3] (fun i wr=>∃k:Nat,k≤zs.length∧i= .int .i64 ((zs.length:Int) - 1 - k)∧J (yC zs k) wr∧KpB n₀ Bs W wr)
  (fun i _=>(intOf i+1).toNat)
 case atStart=>exact ⟨0,Nat.zero_le _,by simp,h0,KpB.refl _ _ _⟩
 case round=>
  obtain ⟨k,hk,rfl,hJs,hnx⟩:=hrel
  have hBs':wr.cell? ⟨Bs,0,none⟩=some (.slice (some ⟨b,off,none⟩) zs.length cap):=hnx.box _ hBs
  have hcx:k < zs.length→wr.cell? ⟨b,off+(zs.length - 1 - k),none⟩=some (.int .u32 (zs[zs.length - 1 - k]?.getD 0)):=fun h=>(hnx.below.cell (p:=⟨b,off+(zs.length - 1 - k),none⟩) hb).trans (hc _ (by omega))
  by_cases hlt:k < zs.length
  ·obtain ⟨fn,tmps,assign,body,hy,hR⟩:=hY _ ⟨zs.length - 1 - k,by omega⟩ wr hJs (by rw [aDS hk];exact hlt)
   dsimp only [dgE] at hy
   have hcx':=hcx hlt
   have hidx:(zs.length:Int) - 1 - k=((zs.length - 1 - k:Nat):Int):=by omega
   rw [hidx]
   gi_wp2
   refine hR.mono ?_
   rintro e W3 (⟨rfl,hJ3,hk3⟩|⟨rfl,hJx3⟩)
   ·gi_wp2
    go_roundw
    case rel=>exact ⟨k+1,by omega,by simp;omega,by rw [uL hlt];exact hJ3,hnx.trans hk3⟩
    case measure=>simp [intOf]
   ·gi_wp2
    refine bodyPost_ret (results_none rfl _ _ _) rfl ?_
    exact ⟨⟨_,rfl⟩, .inr ⟨_,⟨k+1,by omega,(uL hlt).symm⟩,hJx3⟩⟩
  ·obtain rfl:k=zs.length:=by omega
   gi_wp2
   go_end0
   exact ⟨⟨_,rfl⟩, .inl ⟨_,rfl,hJs⟩⟩
theorem aIQ (F:Fence) (n:Nat) (h:F.fn 279) (hro:F.round=none) (l Bs c:Nat) {α:Type} (a:Option Addr) (J:List α→World→Prop) (W:World) (hBs:W.cell? ⟨Bs,0,none⟩=some (.slice a 0 c)) (h0:J [] W):
  CallsIn F n Tryz.prog 279 #[.func (.yield l) #[] #[], .pointer (some ⟨Bs,0,none⟩)] W fun e W'=>(∃v,e= .returned v)∧J [] W':=by
 refine callsIn_of_wp Tryz.func279 rfl h ?_ hro
 simp only [Tryz.ntmps279,List.size_toArray,List.length_cons,List.length_nil,Nat.reduceAdd,Nat.reduceSub,Array.replicate_succ,Array.replicate_zero,List.push_toArray,List.append_toArray,List.nil_append,List.cons_append]
 gi_wp2
 gi_loopw [3] (fun i wr=>i= .int .i64 (-1)∧J [] wr) (fun _ _=>0)
 case atStart=>exact ⟨rfl,h0⟩
 case round=>
  obtain ⟨rfl,hJs⟩:=hrel
  gi_wp2
  go_end0
  exact ⟨⟨_,rfl⟩,hJs⟩
theorem aDJ (F:Fence) (n:Nat) (h:F.fn 252) (hro:F.round=none) (a:Option Addr) (len cap:Nat) (w:World):
  CallsIn F n Tryz.prog 252 #[.slice a len cap] w fun e w'=>e= .returned (.func (.func 279) #[] #[.pointer (some ⟨w.heap.size,0,none⟩)])∧w'=w.alloc (.cells #[.slice a len cap] 40):=by
 refine callsIn_of_wp Tryz.func252 rfl h ?_ hro
 simp only [Tryz.ntmps252,List.size_toArray,List.length_cons,List.length_nil,Nat.reduceAdd,Nat.reduceSub,Array.replicate_succ,Array.replicate_zero,List.push_toArray,List.append_toArray,List.nil_append,List.cons_append]
 gi_wp2
 go_ret
 exact ⟨rfl,rfl⟩
theorem yY {w:World} {b off:Nat} {zs:List Int} (h:Sl [] w (some ⟨b,off,none⟩) (recs eG zs)):∀j,j < zs.length→w.cell? ⟨b,off+j,none⟩=some (.int .u32 (zs[j]?.getD 0)):=by
 intro j hj
 have h1:(recs eG zs)[j]?=some (.int .u32 (zs[j]?.getD 0)):=by
  rw [lQ,List.getElem?_map]
  simp [hj]
 exact (h j _ h1).2.2
theorem aFI (F:Fence) (n:Nat) (h:F.fn 279) (hro:F.round=none) (hn:1≤n) (Bs n₀:Nat) (a:Option Addr) (cap:Nat) (zs:List Int) (hreach:zs.length*4≤140737488351232) (w:World) (hBs:Bs < w.heap.size) (hn₀:n₀≤w.heap.size)
  (hc:w.cell? ⟨Bs,0,none⟩=some (.slice a zs.length cap)) (hI:Sl [] w a (recs eG zs)) (hlt:0 < zs.length→∀b,a.map (·.block)=some b→b < n₀):
  SeqStopsK F n Tryz.prog 279 #[.pointer (some ⟨Bs,0,none⟩)] (dgE zs) (KpB n₀ Bs) (fun ys=>ys=yC zs zs.length) (fun pre=>∃k,k≤zs.length∧pre=yC zs k) zs.length w:=fun l J Jx W hW _ _ hY h0=>by
 have hc':=(hW.cell (p:=⟨Bs,0,none⟩) (show Bs < w.heap.size from hBs)).trans hc
 by_cases hz:zs.length=0
 ·rw [hz] at hc'
  exact (aIQ F n h hro l Bs cap a J W hc' h0).mono fun e W' ⟨he,hj⟩=>⟨he, .inl ⟨_,by rw [hz];rfl,hj⟩⟩
 ·obtain ⟨b,off,rfl⟩:=(Sl.ok hI (by rw [fG];omega)).cases
  have hb:b < n₀:=hlt (by omega) b rfl
  have hcs:=yY hI
  refine (aWV F n h hro hn l Bs n₀ b off cap zs hreach hb J Jx hY W hc' (fun j hj=>(hW.cell (p:=⟨b,off+j,none⟩) (show b < w.heap.size from Nat.lt_of_lt_of_le hb hn₀)).trans (hcs j hj)) h0).mono ?_
  rintro e W' ⟨he,⟨ys,rfl,hj⟩|⟨pre,⟨k,hk,rfl⟩,hj⟩⟩
  ·exact ⟨he, .inl ⟨_,rfl,hj⟩⟩
  ·exact ⟨he, .inr ⟨_,⟨k,hk,rfl⟩,hj⟩⟩
def wdS (s g:Int):Int:=IntKind.u64.wrap (IntKind.u64.wrap (s*1000000000)+IntKind.u64.wrap g)
def wdF (zs:List Int) (pre:List (Dg zs)):Int:=pre.foldl (fun s x=>wdS s (zs[x.1]?.getD 0)) 0
theorem aZI (zs:List Int) (pre:List (Dg zs)) (x:Dg zs):wdF zs (pre++[x])=wdS (wdF zs pre) (zs[x.1]?.getD 0):=by simp [wdF]
theorem bCB (a:Option Addr) (cap:Nat) (zs:List Int) (w:World) (hz:zs.length≤2) (hI:Sl [] w a (recs eG zs)) (hlt:0 < zs.length→∀b,a.map (·.block)=some b→b < w.heap.size):
  CallsIn Fence.wide 5 Tryz.prog 199 #[.slice a zs.length cap] w fun e w'=>e= .returned (.tuple #[.int .u64 (wdF zs (yC zs zs.length)), .bool true])∧Below w.heap.size w w':=by
 refine callsIn_of_wp_marks Tryz.func199 rfl trivial ?_ rfl
 simp only [Tryz.ntmps199,List.size_toArray,List.length_cons,List.length_nil,Nat.reduceAdd,Nat.reduceSub,Array.replicate_succ,Array.replicate_zero,List.push_toArray,List.append_toArray,List.nil_append,List.cons_append]
 have hz':¬(2 < (zs.length:Int)):=by omega
 gi_wp2_with (refine ⟨trivial,?_⟩;gi_at_call 252;refine (aDJ Fence.wide _ trivial rfl _ _ _ _).mono ?_;rintro e w' ⟨rfl,rfl⟩)
 have hs:=qB w (.int .u64 0) 176
 have hb:=qB (w.alloc (.cells #[.int .u64 0] 176)) (.slice a zs.length cap) 40
 rw [World.size_alloc] at hb
 have hBl:Below w.heap.size w ((w.alloc (.cells #[.int .u64 0] 176)).alloc (.cells #[.slice a zs.length cap] 40)):=((Below.refl _ w).alloc (Nat.le_refl _) _).alloc (by simp) _
 have hI2:=Sl.mono hI (Ext.of_below hBl)
 refine wpIn_rangeFunc_ownG rfl (by decide) (gf:=279) (lb:=#[.pointer (some ⟨w.heap.size+1,0,none⟩)]) rfl trivial (enters_of Tryz.func279 (by kernel_rfl) rfl)
  (aFI Fence.wide (5 - 1) trivial rfl (by decide) (w.heap.size+1) w.heap.size a cap zs (by omega) _ (by simp) (by simp;omega) hb.1 hI2 hlt) KpB.trans (aWP (by simp;omega)) (Below.refl _ _) (fun _=>rfl)
  (fun pre W=>(W.cell? ⟨w.heap.size,0,none⟩=some (.int .u64 (wdF zs pre))∧W.frozen? ⟨w.heap.size,0,none⟩=false)∧Below w.heap.size w W)
  (fun _ _ _=>False)
  (OwnFrom.and (Own.from (fun s A B row hs hg hr=>⟨cell_kept hs.1 hg hr,(frozen_kept hs.1 hg hr).trans hs.2⟩) _) (ownFrom_below (Nat.le_refl _) (by simp;omega)))
  (fun _ _ _ _ _ hs _ _=>hs) ⟨⟨oK _ hs.1,oN _ hs.1 hs.2⟩,hBl⟩ ?a1 ?assign ?body ?done ?stop
 case assign=>
  intro l x W K hK
  dsimp only [dgE]
  gi_wp2
  exact hK
 case body=>
  rintro l pre x W ⟨⟨hc,hf⟩,hB⟩ hpl
  gi_wp2
  refine ⟨(KeepsOthers.setCell _ _ _).from _,⟨(Below.refl w.heap.size W).setCell (p:=⟨w.heap.size,0,none⟩) (Nat.le_refl _) _,fun v hv=>(World.cell?_setCell_other _ _ _ _ (by simp)).trans hv⟩,⟨?_,by rw [World.frozen?_setCell];exact hf⟩,hB.setCell (p:=⟨w.heap.size,0,none⟩) (Nat.le_refl _) _⟩
  rw [aZI]
  exact World.cell?_setCell_same' _ _ _ (by rw [hc];rfl)
 case done=>
  rintro D ys W hD rfl ⟨⟨hc,hf⟩,hB⟩ hK
  gi_wp2
  refine ⟨by simp, .inl ⟨_,_,rfl,run_takeDeferred hK,?_⟩⟩
  refine ⟨_,results_tmp2 rfl _ _ _,rfl,?_⟩
  exact hB.trans (belowK_b (w:=w) (Nat.le_refl _) W D _ _ (by simp at hD;omega) hK rfl rfl)
 case stop=>
  rintro D c pre W _ _ h _
  exact h.elim
theorem aRS {w:World} {a:Option Addr} {zs:List Int} (h:Sl [] w a (recs eG zs)):0 < zs.length→∀b,a.map (·.block)=some b→b < w.heap.size:=by
 intro hz b hb
 obtain ⟨b',off,rfl⟩:=(Sl.ok h (by rw [fG];omega)).cases
 have h1:=yY h 0 hz
 simp only [Option.map_some,Option.some.injEq] at hb
 subst hb
 by_cases hlt:b' < w.heap.size
 ·exact hlt
 ·exfalso
  unfold World.cell? at h1
  rw [Array.getElem?_eq_none (by simpa using hlt)] at h1
  simp at h1
theorem aDT {P:Program} {fn:Func} {a:Tmp} {t:TypeId} {tmps:Array Value} {w:World} {b:Nat} {v:Value} [ht:ScalarTy P t] (h:fn.results=#[.cell a t]) (hb:tmps.getD a undef= .pointer (some ⟨b,0,none⟩)) (hc:w.cell? ⟨b,0,none⟩=some v):
  (results fn tmps).run P w= .ok v w:=by
 have hb':tmps[a]?.getD undef= .pointer (some ⟨b,0,none⟩):=by simpa using hb
 simp [results,h,hb',asAddr,loadVar,mK,hc]
def gD (x y:Int):Int:=if x < y then -1 else if y < x then 1 else 0
theorem aYH (x:Int) (w:World):Ret Tryz.prog 251 [.int .i64 x] w (fun v w'=>w=w'∧v= .bool false):=by
 refine enter Tryz.func251 rfl Tryz.ntmps251 rfl ?_
 repeat (first|refine uV ?_|refine kW ?_|refine uZ ?_|refine pU ?_|refine mI ?_|refine mU ?_|refine qD ?_|refine pQ ?_|refine mM ?_|refine mP ?_|refine uD ?_|refine vE ?_|refine uR ?_|refine uE rfl ?_|refine uJ ?_|refine qA rfl rfl rfl ?_|refine nP rfl rfl rfl ?_|refine iX rfl (bP rfl) rfl rfl ?_|refine iX rfl (dE rfl) rfl rfl ?_|refine iX rfl (dC rfl rfl (by first|exact wrap_i64 (by omega)|exact wrap_u64 (by omega)|exact wrap_u32 (by omega)|exact wrap_u8 (by omega))) rfl rfl ?_|refine iX rfl (dD rfl rfl (by first|exact wrap_i64 (by omega)|exact wrap_u64 (by omega)|exact wrap_u32 (by omega)|exact wrap_u8 (by omega))) rfl rfl ?_)
 exact wG (.inl rfl) rfl rfl ⟨rfl,congrArg Value.bool (bH (by omega))⟩
theorem aVZ (x y:Int) (w:World):Ret Tryz.prog 197 [.int .i64 x, .int .i64 y] w (fun v w'=>w=w'∧v= .int .i64 (gD x y)):=by
 refine enter Tryz.func197 rfl Tryz.ntmps197 rfl ?_
 repeat (first|refine uV ?_|refine kW ?_|refine uZ ?_|refine pU ?_|refine mI ?_|refine mU ?_|refine qD ?_|refine pQ ?_|refine mM ?_|refine mP ?_|refine uD ?_|refine vE ?_|refine uR ?_|refine uE rfl ?_|refine uJ ?_|refine qA rfl rfl rfl ?_|refine nP rfl rfl rfl ?_|refine iX rfl (bP rfl) rfl rfl ?_|refine iX rfl (dE rfl) rfl rfl ?_|refine iX rfl (dC rfl rfl (by first|exact wrap_i64 (by omega)|exact wrap_u64 (by omega)|exact wrap_u32 (by omega)|exact wrap_u8 (by omega))) rfl rfl ?_|refine iX rfl (dD rfl rfl (by first|exact wrap_i64 (by omega)|exact wrap_u64 (by omega)|exact wrap_u32 (by omega)|exact wrap_u8 (by omega))) rfl rfl ?_)
 (refine aYA rfl (xC rfl (aYH x w)) rfl rfl ?_;rintro _ w' ⟨rfl,rfl⟩)
 refine ⟨trivial,?_⟩
 repeat (first|refine uV ?_|refine kW ?_|refine uZ ?_|refine pU ?_|refine mI ?_|refine mU ?_|refine qD ?_|refine pQ ?_|refine mM ?_|refine mP ?_|refine uD ?_|refine vE ?_|refine uR ?_|refine uE rfl ?_|refine uJ ?_|refine qA rfl rfl rfl ?_|refine nP rfl rfl rfl ?_|refine iX rfl (bP rfl) rfl rfl ?_|refine iX rfl (dE rfl) rfl rfl ?_|refine iX rfl (dC rfl rfl (by first|exact wrap_i64 (by omega)|exact wrap_u64 (by omega)|exact wrap_u32 (by omega)|exact wrap_u8 (by omega))) rfl rfl ?_|refine iX rfl (dD rfl rfl (by first|exact wrap_i64 (by omega)|exact wrap_u64 (by omega)|exact wrap_u32 (by omega)|exact wrap_u8 (by omega))) rfl rfl ?_)
 (refine aYA rfl (xC rfl (aYH y w)) rfl rfl ?_;rintro _ w' ⟨rfl,rfl⟩)
 refine ⟨trivial,?_⟩
 unfold gD
 by_cases h1:x < y
 ·rw [if_pos h1]
  repeat' (first|refine uV ?_|refine kW ?_|refine uZ ?_|refine pU ?_|refine mI ?_|refine mU ?_|refine qD ?_|refine pQ ?_|refine mM ?_|refine mP ?_|refine uD ?_|refine vE ?_|refine uR ?_|refine uE rfl ?_|refine uJ ?_|refine qA rfl rfl rfl ?_|refine nP rfl rfl rfl ?_|refine iX rfl (bP rfl) rfl rfl ?_|refine iX rfl (dE rfl) rfl rfl ?_|refine iX rfl (dC rfl rfl (by first|exact wrap_i64 (by omega)|exact wrap_u64 (by omega)|exact wrap_u32 (by omega)|exact wrap_u8 (by omega))) rfl rfl ?_|refine iX rfl (dD rfl rfl (by first|exact wrap_i64 (by omega)|exact wrap_u64 (by omega)|exact wrap_u32 (by omega)|exact wrap_u8 (by omega))) rfl rfl ?_|refine aEH rfl (by omega) ?_|refine aOM rfl (by omega) ?_|refine aBL rfl rfl (by omega) ?_|refine aCA rfl rfl (by omega) ?_|refine aHQ rfl (fun h=>?_) (fun h=>?_)|refine mE rfl ?_|refine lJ rfl ?_|refine zY rfl rfl (fun h=>?_) (fun h=>?_))
  exact wG (.inl rfl) rfl rfl ⟨rfl,rfl⟩
 ·rw [if_neg h1]
  by_cases h2:y < x
  ·rw [if_pos h2]
   repeat' (first|refine uV ?_|refine kW ?_|refine uZ ?_|refine pU ?_|refine mI ?_|refine mU ?_|refine qD ?_|refine pQ ?_|refine mM ?_|refine mP ?_|refine uD ?_|refine vE ?_|refine uR ?_|refine uE rfl ?_|refine uJ ?_|refine qA rfl rfl rfl ?_|refine nP rfl rfl rfl ?_|refine iX rfl (bP rfl) rfl rfl ?_|refine iX rfl (dE rfl) rfl rfl ?_|refine iX rfl (dC rfl rfl (by first|exact wrap_i64 (by omega)|exact wrap_u64 (by omega)|exact wrap_u32 (by omega)|exact wrap_u8 (by omega))) rfl rfl ?_|refine iX rfl (dD rfl rfl (by first|exact wrap_i64 (by omega)|exact wrap_u64 (by omega)|exact wrap_u32 (by omega)|exact wrap_u8 (by omega))) rfl rfl ?_|refine aEH rfl (by omega) ?_|refine aOM rfl (by omega) ?_|refine aBL rfl rfl (by omega) ?_|refine aCA rfl rfl (by omega) ?_|refine aHQ rfl (fun h=>?_) (fun h=>?_)|refine mE rfl ?_|refine lJ rfl ?_|refine zY rfl rfl (fun h=>?_) (fun h=>?_))
   exact wG (.inl rfl) rfl rfl ⟨rfl,rfl⟩
  ·rw [if_neg h2]
   repeat' (first|refine uV ?_|refine kW ?_|refine uZ ?_|refine pU ?_|refine mI ?_|refine mU ?_|refine qD ?_|refine pQ ?_|refine mM ?_|refine mP ?_|refine uD ?_|refine vE ?_|refine uR ?_|refine uE rfl ?_|refine uJ ?_|refine qA rfl rfl rfl ?_|refine nP rfl rfl rfl ?_|refine iX rfl (bP rfl) rfl rfl ?_|refine iX rfl (dE rfl) rfl rfl ?_|refine iX rfl (dC rfl rfl (by first|exact wrap_i64 (by omega)|exact wrap_u64 (by omega)|exact wrap_u32 (by omega)|exact wrap_u8 (by omega))) rfl rfl ?_|refine iX rfl (dD rfl rfl (by first|exact wrap_i64 (by omega)|exact wrap_u64 (by omega)|exact wrap_u32 (by omega)|exact wrap_u8 (by omega))) rfl rfl ?_|refine aEH rfl (by omega) ?_|refine aOM rfl (by omega) ?_|refine aBL rfl rfl (by omega) ?_|refine aCA rfl rfl (by omega) ?_|refine aHQ rfl (fun h=>?_) (fun h=>?_)|refine mE rfl ?_|refine lJ rfl ?_|refine zY rfl rfl (fun h=>?_) (fun h=>?_))
   exact wG (.inl rfl) rfl rfl ⟨rfl,rfl⟩
theorem aXD (x:Int) (w:World):Ret Tryz.prog 280 [.int .u32 x] w (fun v w'=>w=w'∧v= .bool false):=by
 refine enter Tryz.func280 rfl Tryz.ntmps280 rfl ?_
 repeat (first|refine uV ?_|refine kW ?_|refine uZ ?_|refine pU ?_|refine mI ?_|refine mU ?_|refine qD ?_|refine pQ ?_|refine mM ?_|refine mP ?_|refine uD ?_|refine vE ?_|refine uR ?_|refine uE rfl ?_|refine uJ ?_|refine qA rfl rfl rfl ?_|refine nP rfl rfl rfl ?_|refine iX rfl (bP rfl) rfl rfl ?_|refine iX rfl (dE rfl) rfl rfl ?_|refine iX rfl (dC rfl rfl (by first|exact wrap_i64 (by omega)|exact wrap_u64 (by omega)|exact wrap_u32 (by omega)|exact wrap_u8 (by omega))) rfl rfl ?_|refine iX rfl (dD rfl rfl (by first|exact wrap_i64 (by omega)|exact wrap_u64 (by omega)|exact wrap_u32 (by omega)|exact wrap_u8 (by omega))) rfl rfl ?_)
 exact wG (.inl rfl) rfl rfl ⟨rfl,congrArg Value.bool (bH (by omega))⟩
theorem bGC (x y:Int) (w:World):Ret Tryz.prog 253 [.int .u32 x, .int .u32 y] w (fun v w'=>w=w'∧v= .int .i64 (gD x y)):=by
 refine enter Tryz.func253 rfl Tryz.ntmps253 rfl ?_
 repeat (first|refine uV ?_|refine kW ?_|refine uZ ?_|refine pU ?_|refine mI ?_|refine mU ?_|refine qD ?_|refine pQ ?_|refine mM ?_|refine mP ?_|refine uD ?_|refine vE ?_|refine uR ?_|refine uE rfl ?_|refine uJ ?_|refine qA rfl rfl rfl ?_|refine nP rfl rfl rfl ?_|refine iX rfl (bP rfl) rfl rfl ?_|refine iX rfl (dE rfl) rfl rfl ?_|refine iX rfl (dC rfl rfl (by first|exact wrap_i64 (by omega)|exact wrap_u64 (by omega)|exact wrap_u32 (by omega)|exact wrap_u8 (by omega))) rfl rfl ?_|refine iX rfl (dD rfl rfl (by first|exact wrap_i64 (by omega)|exact wrap_u64 (by omega)|exact wrap_u32 (by omega)|exact wrap_u8 (by omega))) rfl rfl ?_)
 (refine aYA rfl (xC rfl (aXD x w)) rfl rfl ?_;rintro _ w' ⟨rfl,rfl⟩)
 refine ⟨trivial,?_⟩
 repeat (first|refine uV ?_|refine kW ?_|refine uZ ?_|refine pU ?_|refine mI ?_|refine mU ?_|refine qD ?_|refine pQ ?_|refine mM ?_|refine mP ?_|refine uD ?_|refine vE ?_|refine uR ?_|refine uE rfl ?_|refine uJ ?_|refine qA rfl rfl rfl ?_|refine nP rfl rfl rfl ?_|refine iX rfl (bP rfl) rfl rfl ?_|refine iX rfl (dE rfl) rfl rfl ?_|refine iX rfl (dC rfl rfl (by first|exact wrap_i64 (by omega)|exact wrap_u64 (by omega)|exact wrap_u32 (by omega)|exact wrap_u8 (by omega))) rfl rfl ?_|refine iX rfl (dD rfl rfl (by first|exact wrap_i64 (by omega)|exact wrap_u64 (by omega)|exact wrap_u32 (by omega)|exact wrap_u8 (by omega))) rfl rfl ?_)
 (refine aYA rfl (xC rfl (aXD y w)) rfl rfl ?_;rintro _ w' ⟨rfl,rfl⟩)
 refine ⟨trivial,?_⟩
 unfold gD
 by_cases h1:x < y
 ·rw [if_pos h1]
  repeat' (first|refine uV ?_|refine kW ?_|refine uZ ?_|refine pU ?_|refine mI ?_|refine mU ?_|refine qD ?_|refine pQ ?_|refine mM ?_|refine mP ?_|refine uD ?_|refine vE ?_|refine uR ?_|refine uE rfl ?_|refine uJ ?_|refine qA rfl rfl rfl ?_|refine nP rfl rfl rfl ?_|refine iX rfl (bP rfl) rfl rfl ?_|refine iX rfl (dE rfl) rfl rfl ?_|refine iX rfl (dC rfl rfl (by first|exact wrap_i64 (by omega)|exact wrap_u64 (by omega)|exact wrap_u32 (by omega)|exact wrap_u8 (by omega))) rfl rfl ?_|refine iX rfl (dD rfl rfl (by first|exact wrap_i64 (by omega)|exact wrap_u64 (by omega)|exact wrap_u32 (by omega)|exact wrap_u8 (by omega))) rfl rfl ?_|refine aEH rfl (by omega) ?_|refine aOM rfl (by omega) ?_|refine aBL rfl rfl (by omega) ?_|refine aCA rfl rfl (by omega) ?_|refine aHQ rfl (fun h=>?_) (fun h=>?_)|refine mE rfl ?_|refine lJ rfl ?_|refine zY rfl rfl (fun h=>?_) (fun h=>?_))
  exact wG (.inl rfl) rfl rfl ⟨rfl,rfl⟩
 ·rw [if_neg h1]
  by_cases h2:y < x
  ·rw [if_pos h2]
   repeat' (first|refine uV ?_|refine kW ?_|refine uZ ?_|refine pU ?_|refine mI ?_|refine mU ?_|refine qD ?_|refine pQ ?_|refine mM ?_|refine mP ?_|refine uD ?_|refine vE ?_|refine uR ?_|refine uE rfl ?_|refine uJ ?_|refine qA rfl rfl rfl ?_|refine nP rfl rfl rfl ?_|refine iX rfl (bP rfl) rfl rfl ?_|refine iX rfl (dE rfl) rfl rfl ?_|refine iX rfl (dC rfl rfl (by first|exact wrap_i64 (by omega)|exact wrap_u64 (by omega)|exact wrap_u32 (by omega)|exact wrap_u8 (by omega))) rfl rfl ?_|refine iX rfl (dD rfl rfl (by first|exact wrap_i64 (by omega)|exact wrap_u64 (by omega)|exact wrap_u32 (by omega)|exact wrap_u8 (by omega))) rfl rfl ?_|refine aEH rfl (by omega) ?_|refine aOM rfl (by omega) ?_|refine aBL rfl rfl (by omega) ?_|refine aCA rfl rfl (by omega) ?_|refine aHQ rfl (fun h=>?_) (fun h=>?_)|refine mE rfl ?_|refine lJ rfl ?_|refine zY rfl rfl (fun h=>?_) (fun h=>?_))
   exact wG (.inl rfl) rfl rfl ⟨rfl,rfl⟩
  ·rw [if_neg h2]
   repeat' (first|refine uV ?_|refine kW ?_|refine uZ ?_|refine pU ?_|refine mI ?_|refine mU ?_|refine qD ?_|refine pQ ?_|refine mM ?_|refine mP ?_|refine uD ?_|refine vE ?_|refine uR ?_|refine uE rfl ?_|refine uJ ?_|refine qA rfl rfl rfl ?_|refine nP rfl rfl rfl ?_|refine iX rfl (bP rfl) rfl rfl ?_|refine iX rfl (dE rfl) rfl rfl ?_|refine iX rfl (dC rfl rfl (by first|exact wrap_i64 (by omega)|exact wrap_u64 (by omega)|exact wrap_u32 (by omega)|exact wrap_u8 (by omega))) rfl rfl ?_|refine iX rfl (dD rfl rfl (by first|exact wrap_i64 (by omega)|exact wrap_u64 (by omega)|exact wrap_u32 (by omega)|exact wrap_u8 (by omega))) rfl rfl ?_|refine aEH rfl (by omega) ?_|refine aOM rfl (by omega) ?_|refine aBL rfl rfl (by omega) ?_|refine aCA rfl rfl (by omega) ?_|refine aHQ rfl (fun h=>?_) (fun h=>?_)|refine mE rfl ?_|refine lJ rfl ?_|refine zY rfl rfl (fun h=>?_) (fun h=>?_))
   exact wG (.inl rfl) rfl rfl ⟨rfl,rfl⟩
def aFY (zs ys:List Int):Nat→Int
 |0=>0
 |k+1=>if zs[k]?.getD 0=ys[k]?.getD 0 then aFY zs ys k else gD (zs[k]?.getD 0) (ys[k]?.getD 0)
def Eqs (zs ys:List Int) (pre:List (Dg zs)):Prop:=∀x∈pre,zs[x.1]?.getD 0=ys[x.1]?.getD 0
theorem aEQ {zs ys:List Int}:∀k,k≤zs.length→Eqs zs ys (yC zs k)→aFY zs ys zs.length=aFY zs ys (zs.length - k)
 |0,_,_=>rfl
 |k+1,hk,h=>by
  rw [uL (by omega)] at h
  rw [aEQ k (by omega) (fun x hx=>h x (List.mem_append.2 (.inl hx)))]
  have e:zs.length - k=zs.length - (k+1)+1:=by omega
  have h1:=h ⟨zs.length - 1 - k,by omega⟩ (by simp)
  have e2:zs.length - 1 - k=zs.length - (k+1):=by omega
  rw [e,aFY,if_pos (by rw [←e2];exact h1)]
theorem aSP {zs ys:List Int} {pre0:List (Dg zs)} {x:Dg zs} (k:Nat) (hk:k≤zs.length) (hp:yC zs k=pre0++[x]) (hE:Eqs zs ys pre0) (hn:zs[x.1]?.getD 0≠ys[x.1]?.getD 0):
  aFY zs ys zs.length=gD (zs[x.1]?.getD 0) (ys[x.1]?.getD 0):=by
 match k,hk,hp with
 |0,_,hp=>simp [yC] at hp
 |k+1,hk,hp=>
  rw [uL (by omega)] at hp
  obtain ⟨e1,e2⟩:=List.append_inj' hp rfl
  subst e1
  have e3:x.1=zs.length - 1 - k:=by rw [←(List.cons.inj e2).1]
  have e:zs.length - k=x.1+1:=by omega
  rw [aEQ k (by omega) hE,e,aFY,if_neg hn]
theorem aNX (a b:Option Addr) (cap cap2:Nat) (zs ys:List Int) (w:World) (hz:zs.length*4≤140737488351232) (hlen:ys.length=zs.length) (hI:Sl [] w a (recs eG zs)) (hJ:Sl [] w b (recs eG ys)):
  CallsIn Fence.wide 5 Tryz.prog 198 #[.slice a zs.length cap, .slice b zs.length cap2] w fun e w'=>e= .returned (.int .i64 (aFY zs ys zs.length))∧Below w.heap.size w w':=by
 refine callsIn_of_wp_marks Tryz.func198 rfl trivial ?_ rfl
 simp only [Tryz.ntmps198,List.size_toArray,List.length_cons,List.length_nil,Nat.reduceAdd,Nat.reduceSub,Array.replicate_succ,Array.replicate_zero,List.push_toArray,List.append_toArray,List.nil_append,List.cons_append]
 gi_wp2_with (refine ⟨trivial,?_⟩;gi_at_call 252;refine (aDJ Fence.wide _ trivial rfl _ _ _ _).mono ?_;rintro e w' ⟨rfl,rfl⟩)
 have hs3:=qB w (.slice b zs.length cap2) 40
 have hs4:=qB (w.alloc (.cells #[.slice b zs.length cap2] 40)) (.int .i64 0) 3
 have hb:=qB ((w.alloc (.cells #[.slice b zs.length cap2] 40)).alloc (.cells #[.int .i64 0] 3)) (.slice a zs.length cap) 40
 simp only [World.size_alloc] at hb hs4
 have hBl:Below w.heap.size w (((w.alloc (.cells #[.slice b zs.length cap2] 40)).alloc (.cells #[.int .i64 0] 3)).alloc (.cells #[.slice a zs.length cap] 40)):=(((Below.refl _ w).alloc (Nat.le_refl _) _).alloc (by simp) _).alloc (by simp;omega) _
 have hI2:=Sl.mono hI (Ext.of_below hBl)
 refine wpIn_rangeFunc_ownG rfl (by decide) (gf:=279) (lb:=#[.pointer (some ⟨w.heap.size+1+1,0,none⟩)]) rfl trivial (enters_of Tryz.func279 (by kernel_rfl) rfl)
  (aFI Fence.wide (5 - 1) trivial rfl (by decide) (w.heap.size+1+1) w.heap.size a cap zs hz _ (by simp) (by simp;omega) hb.1 hI2 (aRS hI)) KpB.trans (aWP (by simp;omega)) (Below.refl _ _) (fun _=>rfl)
  (fun pre W=>((W.cell? ⟨w.heap.size,0,none⟩=some (.slice b zs.length cap2)∧W.frozen? ⟨w.heap.size,0,none⟩=false)∧(W.cell? ⟨w.heap.size+1,0,none⟩=some (.int .i64 0)∧W.frozen? ⟨w.heap.size+1,0,none⟩=false))∧(Eqs zs ys pre∧Below w.heap.size w W))
  (fun c pre W=>(c= .ret∧∃pre0 x,pre=pre0++[x]∧Eqs zs ys pre0∧zs[x.1]?.getD 0≠ys[x.1]?.getD 0∧W.cell? ⟨w.heap.size+1,0,none⟩=some (.int .i64 (gD (zs[x.1]?.getD 0) (ys[x.1]?.getD 0))))∧Below w.heap.size w W)
  ?hI ?hIx ⟨⟨⟨oK _ (oK _ hs3.1),oN _ (oK _ hs3.1) (oN _ hs3.1 hs3.2)⟩,⟨oK _ hs4.1,oN _ hs4.1 hs4.2⟩⟩,fun x h=>absurd h (by simp),hBl⟩ ?a1 ?assign ?body ?done ?stop
 case hI=>exact OwnFrom.and (Own.from (fun s A B row hs hg hr=>⟨⟨cell_kept hs.1.1 hg hr,(frozen_kept hs.1.1 hg hr).trans hs.1.2⟩,cell_kept hs.2.1 hg hr,(frozen_kept hs.2.1 hg hr).trans hs.2.2⟩) _) (OwnFrom.and (fun _ _ _ _ hs _ _=>hs) (ownFrom_below (Nat.le_refl _) (by simp;omega)))
 case hIx=>exact fun c=>OwnFrom.and (Own.from (fun s A B row hs hg hr=>let ⟨e,pre0,x,hp,hE,hn,hc⟩:=hs;⟨e,pre0,x,hp,hE,hn,cell_kept hc hg hr⟩) _) (ownFrom_below (Nat.le_refl _) (by simp;omega))
 case assign=>
  intro l x W K hK
  dsimp only [dgE]
  gi_wp2
  exact hK
 case body=>
  rintro l pre x W ⟨⟨⟨hc,hf⟩,hc4,hf4⟩,hE,hB⟩ hpl
  have hx:=x.2
  obtain ⟨b',off,rfl⟩:=(Sl.ok hJ (by rw [fG];omega)).cases
  have hcx:W.cell? ⟨b',off+x.1,none⟩=some (.int .u32 (ys[x.1]?.getD 0)):=(hB.cell (p:=⟨b',off+x.1,none⟩) (aRS hJ (by omega) b' rfl)).trans (yY hJ x.1 (by omega))
  gi_wp2_with (refine ⟨trivial,?_⟩;gi_at_call 253;refine (CallsIn.inRound l (callsIn_wide.2 (bGC _ _ _))).mono ?_;rintro e w' ⟨v,rfl,rfl,rfl⟩)
  ·rename_i hne
   have hne':zs[x.1]?.getD 0≠ys[x.1]?.getD 0:=by simpa [hx,show x.1 < ys.length by omega] using hne
   have ez:zs[x.1]=zs[x.1]?.getD 0:=by simp [hx]
   have ey:ys[x.1]'(by omega)=ys[x.1]?.getD 0:=by simp [show x.1 < ys.length by omega]
   refine ⟨(KeepsOthers.setCell _ _ _).from _,⟨rfl,pre,x,rfl,hE,hne',?_⟩,hB.setCell (p:=⟨w.heap.size+1,0,none⟩) (by simp) _⟩
   rw [ez,ey]
   exact World.cell?_setCell_same' _ _ _ (by rw [hc4];rfl)
  ·rename_i hne
   have he:zs[x.1]?.getD 0=ys[x.1]?.getD 0:=by simpa [hx,show x.1 < ys.length by omega] using hne
   refine ⟨KeepsFrom.refl _ _,KpB.refl _ _ _,⟨⟨⟨hc,hf⟩,hc4,hf4⟩,?_,hB⟩⟩
   intro y hy
   rcases List.mem_append.1 hy with hy|hy
   ·exact hE y hy
   ·rw [List.mem_singleton.1 hy];exact he
 case done=>
  rintro D xs W hD rfl ⟨⟨_,hc4,hf4⟩,hE,hB⟩ hK
  gi_wp2
  have hD':w.heap.size+1+1+1≤D:=by simpa using hD
  have hne:(⟨w.heap.size+1,0,none⟩:Addr).block≠D:=by simp;omega
  have hK':(W.setCell ⟨w.heap.size+1,0,none⟩ (.int .i64 0)).heap[D]?=some (.deferred (some [])):=(Below.heap_setCell W _ _ D (by simp;omega)).trans hK
  refine ⟨by simp, .inl ⟨_,_,rfl,run_takeDeferred hK',?_⟩⟩
  have hq:=World.cell?_setCell_same' W ⟨w.heap.size+1,0,none⟩ (.int .i64 0) (by rw [hc4];rfl)
  refine ⟨_,aDT rfl rfl (cell_kept hq (grownBy_putObj' _ D _) (fun r e=>by cases e;exact ⟨_,hK',rfl⟩)),?_,?_⟩
  ·rw [aEQ zs.length (Nat.le_refl _) hE,Nat.sub_self];rfl
  ·exact (hB.setCell (p:=⟨w.heap.size+1,0,none⟩) (by simp) _).trans (belowK_b (w:=w) (Nat.le_refl _) _ D _ _ (by omega) hK' rfl rfl)
 case stop=>
  rintro D c pre W hD ⟨k,hk,rfl⟩ ⟨⟨rfl,pre0,x,hp,hE,hne,hc4⟩,hB⟩ hK
  gi_wp2
  have hD':w.heap.size+1+1+1≤D:=by simpa using hD
  refine ⟨by simp, .inl ⟨_,_,rfl,run_takeDeferred hK,?_⟩⟩
  refine ⟨_,aDT rfl rfl (cell_kept hc4 (grownBy_putObj' _ D _) (fun r e=>by cases e;exact ⟨_,hK,rfl⟩)),?_,?_⟩
  ·rw [aSP k hk hp hE hne]
  ·exact hB.trans (belowK_b (w:=w) (Nat.le_refl _) W D _ _ (by omega) hK rfl rfl)
end Go.Proofs.YtmmmfphealhapaaGreat
namespace Go.Proofs.YtmmmfphealhapaaGreat
open Go Go.Fx Go.RowKit Go.Shelf
attribute [local go_sem] Oper.semAt_some
theorem aLD:∀{zs ys:List Int} (k:Nat),Dig zs→Dig ys→aFY zs ys k=gD (val (zs.take k)) (val (ys.take k))
 |_,_,0,_,_=>by simp [aFY,gD,val]
 |zs,ys,k+1,hz,hy=>by
  have h1:=iP hz k
  have h2:=iP hy k
  have h3:=bS (hz.take k)
  have h4:=bS (hy.take k)
  have hp:=jD k
  rw [aFY,bV,bV,aLD k hz hy]
  have ez:zs[k]?.getD 0=zs.getD k 0:=by simp
  have ey:ys[k]?.getD 0=ys.getD k 0:=by simp
  rw [ez,ey]
  generalize val (zs.take k)=A at*
  generalize val (ys.take k)=C at*
  generalize zs.getD k 0=x at*
  generalize ys.getD k 0=y at*
  generalize (1000000000:Int) ^ k=B at*
  have key:∀x y A C:Int,x < y→0≤A→A < B→0≤C→A+B*x < C+B*y:=fun x y A C h _ _ _=>by
   have:B*(x+1)≤B*y:=Int.mul_le_mul_of_nonneg_left (by omega) (by omega)
   rw [Int.mul_add] at this
   omega
  split
  ·rename_i e
   subst e
   unfold gD
   simp only [Int.add_lt_add_iff_right]
  ·rename_i e
   rcases Int.lt_or_gt_of_ne e with h|h
   ·have:=key x y A C h h3 h1 h4
    unfold gD
    rw [if_pos h,if_pos this]
   ·have:=key y x C A h h4 h2 h3
    unfold gD
    rw [if_neg (by omega),if_pos h,if_neg (by omega),if_pos this]
theorem aIN {s g:Int} (hs:0≤s∧s < 1000000000) (hg:0≤g∧g < 1000000000):wdS s g=s*1000000000+g:=by
 unfold wdS
 rw [wrap_u64 (n:=s*1000000000) (by omega),wrap_u64 (n:=g) (by omega),wrap_u64 (by omega)]
section
variable {X:List Nat} {w0:World} {M0:List Ent} {I0:List aL}
theorem yS {p q:Option Addr} {m n cp cq:Nat} (hm:(gr m).length≤100000000000) (hn:(gr n).length≤100000000000) (hp:aI p (recs eG (gr m))∈I0) (hq:aI q (recs eG (gr n))∈I0):
  CD Tryz.prog 198 [.slice p (gr m).length cp, .slice q (gr n).length cq] X w0 M0 I0 (fun v M I=>M0=M∧I0=I∧v= .int .i64 (gD m n)):=by
 by_cases hl:(gr n).length=(gr m).length
 ·rw [hl]
  refine CD.ext (fun w hw=>Calls.mono (callsIn_wide.1 (aNX p q cp cq (gr m) (gr n) w (by omega) hl ((hw.sl hp).less (by simp)) ((hw.sl hq).less (by simp)))) ?_)
  rintro e w' ⟨rfl,hB⟩
  refine ⟨_,rfl,Ext.of_below hB,?_⟩
  have e:=aLD (gr m).length (bT m) (bT n)
  rw [List.take_length,←hl,List.take_length,cZ,cZ] at e
  rw [hl] at e
  rw [e]
 ·have hc:gD ((gr m).length:Int) ((gr n).length:Int)=gD m n:=by
   have h1:∀a b:Nat,(gr a).length < (gr b).length→(a:Int) < b:=fun a b h=>by
    have:=aIP (wV a) (wV b) h
    rwa [cZ,cZ] at this
   rcases Nat.lt_or_gt_of_ne hl with h|h
   ·have:=h1 n m h
    unfold gD
    rw [if_neg (by omega),if_pos (by omega),if_neg (by omega),if_pos (by omega)]
   ·have:=h1 m n h
    unfold gD
    rw [if_pos (by omega),if_pos (by omega)]
  refine dY Tryz.func198 rfl Tryz.ntmps198 rfl ?_
  refine gG ?_
  refine tyX rfl (fun b=>?_)
  refine cK (fun s=>?_)
  repeat refine lT ?_
  (refine bD rfl (CD.same (fun w _=>aVZ _ _ _)) ?_;rintro _ _ _ ⟨rfl,rfl,rfl⟩;refine aN ?_)
  rw [hc]
  repeat refine lT ?_
  exact bBP (.inl rfl) rfl rfl bA _ _ bY bW ⟨rfl,rfl,rfl⟩
theorem aDD {q:Option Addr} {n c:Nat} (hn:(gr n).length≤100000000000) (hq:aI q (recs eG (gr n))∈I0):
  CD Tryz.prog 199 [.slice q (gr n).length c] X w0 M0 I0 (fun v M I=>M0=M∧I0=I∧v= .tuple #[.int .u64 (if (gr n).length≤2 then (n:Int) else 0), .bool (B ((gr n).length≤2))]):=by
 by_cases hl:(gr n).length≤2
 ·refine CD.ext (fun w hw=>Calls.mono (callsIn_wide.1 (bCB q c (gr n) w hl ((hw.sl hq).less (by simp)) (aRS ((hw.sl hq).less (by simp))))) ?_)
  rintro e w' ⟨rfl,hB⟩
  refine ⟨_,rfl,Ext.of_below hB,?_⟩
  rw [if_pos hl,bK hl]
  have hd:=bT n
  have hv:=cZ n
  congr 4
  revert hl hd hv
  generalize gr n=zs
  intro hl hd hv
  rw [←hv]
  match zs,hl,hd with
  |[],_,_=>simp [yC,wdF,val]
  |[x],_,hd=>
   have:=hd x (by simp)
   have e:wdF [x] (yC [x] [x].length)=wdS 0 x:=rfl
   rw [e,aIN (by omega) this]
   simp [val]
  |[x,y],_,hd=>
   have h1:=hd x (by simp)
   have h2:=hd y (by simp)
   have e:wdF [x,y] (yC [x,y] [x,y].length)=wdS (wdS 0 y) x:=rfl
   rw [e,aIN (by omega) h2,aIN (by omega) h1]
   simp only [val]
   omega
 ·refine dY Tryz.func199 rfl Tryz.ntmps199 rfl ?_
  repeat refine lT ?_
  refine gJ [2,3] (by first|exact .inl rfl|exact .inr rfl) rfl rfl rfl _ _ bY bW (⟨rfl,rfl,by rw [if_neg hl,bH hl]⟩)
end
end Go.Proofs.YtmmmfphealhapaaGreat
namespace Go.Fx
theorem jA {p g:Prop} (h:g) (w:BoxP g→p:=by (intro hh;(first|refine aG ?_|refine iE ?_|refine oW ?_|refine lK ?_|refine jP ?_|refine jE ?_|refine lS ?_|refine jU ?_|refine jN ?_|refine jM ?_|refine pG ?_|refine pI ?_|refine oU ?_|refine oJ rfl ?_|refine bE ?_|(refine kK ?_;first|refine kD rfl rfl rfl ?_|(refine kL rfl rfl ?_;refine iV rfl rfl rfl okK ?_)|refine kP rfl rfl (by omega) ?_|refine kT rfl rfl (by omega) ?_)|(refine eP ?_;refine aD rfl (fun _=>fQ rfl) rfl rfl ?_)|refine aD rfl (fun _=>bP rfl) rfl rfl ?_|(refine kQ ?_;first|refine aD rfl (fun _=>dC rfl rfl w_) rfl rfl ?_|refine aD rfl (fun _=>dD rfl rfl w_) rfl rfl ?_|refine aD rfl (fun _=>gW rfl rfl w_) rfl rfl ?_|refine aD rfl (fun _=>gU rfl rfl (by omega) q_) rfl rfl ?_|refine aD rfl (fun _=>gV rfl rfl (by omega) rfl) rfl rfl ?_|refine aD rfl (fun _=>fO rfl rfl) rfl rfl ?_|refine aD rfl (fun _=>gP rfl rfl) rfl rfl ?_|refine aD rfl (fun _=>gT rfl rfl) rfl rfl ?_)|(refine eP ?_;first|refine aD rfl (fun _=>gH rfl w_) rfl rfl ?_)|(refine kU ?_;first|refine aD rfl (fun _=>fE rfl w_) rfl rfl ?_)|(refine kF ?_;first|refine aD rfl (fun _=>dE rfl) rfl rfl ?_|refine aD rfl (fun _=>fT rfl rfl) rfl rfl ?_|refine aD rfl (fun _=>fP rfl rfl) rfl rfl ?_|refine aD rfl (fun _=>fU rfl rfl rfl) rfl rfl ?_)|(refine kE ?_;first|refine jZ rfl (by decide) rfl rfl ?_|refine nA rfl (by decide) rfl rfl ?_)|(refine kI ?_;first|refine aD rfl (fun _=>fB rfl) rfl rfl ?_)|(refine kR ?_;first|refine mV rfl rfl iH rfl rfl ?_|refine mZ vH rfl rfl iH bA nD rfl rfl ?_|refine mY vH rfl rfl iH bA nD rfl rfl ?_|refine aD rfl (fun _=>dZ rfl rfl iH) rfl rfl ?_)|(refine bN ?_;first|refine mX vH rfl bA yG rfl rfl ?_|refine mW vH rfl bA yG rfl rfl ?_|refine gM vH rfl bA yG rfl rfl ?_|refine jY vH rfl bA yG rfl rfl ?_|refine rA vH rfl bA nN jV rfl rfl ?_|refine rO vH rfl bA nN jV rfl rfl ?_|refine rE vH rfl bA nN jV rfl rfl ?_|refine oV vH rfl bA nN jV rfl rfl ?_)|(refine kG ?_;first|refine aD rfl (fun _=>eF rfl rfl) rfl rfl ?_|refine aD rfl (fun _=>dI rfl) rfl rfl ?_)|(refine nO ?_;first|refine nH rfl rfl rfl tO stC rfl rfl ⟨okK,?_⟩|refine fJ rfl rfl jV aCU tO aCQ rfl rfl ⟨okK,?_⟩)|(refine lW ?_;first|refine fF rfl ?_|refine dV rfl ?_|refine pE rfl (by omega) ?_|refine tC rfl (by omega) ?_));(repeat (first|refine aG ?_|refine iE ?_|refine oW ?_|refine lK ?_|refine jP ?_|refine jE ?_|refine lS ?_|refine jU ?_|refine jN ?_|refine jM ?_|refine pG ?_|refine pI ?_|refine oU ?_|refine oJ rfl ?_|refine bE ?_|(refine kK ?_;first|refine kD rfl rfl rfl ?_|(refine kL rfl rfl ?_;refine iV rfl rfl rfl okK ?_)|refine kP rfl rfl (by omega) ?_|refine kT rfl rfl (by omega) ?_)|(refine eP ?_;refine aD rfl (fun _=>fQ rfl) rfl rfl ?_)|refine aD rfl (fun _=>bP rfl) rfl rfl ?_|(refine kQ ?_;first|refine aD rfl (fun _=>dC rfl rfl w_) rfl rfl ?_|refine aD rfl (fun _=>dD rfl rfl w_) rfl rfl ?_|refine aD rfl (fun _=>gW rfl rfl w_) rfl rfl ?_|refine aD rfl (fun _=>gU rfl rfl (by omega) q_) rfl rfl ?_|refine aD rfl (fun _=>gV rfl rfl (by omega) rfl) rfl rfl ?_|refine aD rfl (fun _=>fO rfl rfl) rfl rfl ?_|refine aD rfl (fun _=>gP rfl rfl) rfl rfl ?_|refine aD rfl (fun _=>gT rfl rfl) rfl rfl ?_)|(refine eP ?_;first|refine aD rfl (fun _=>gH rfl w_) rfl rfl ?_)|(refine kU ?_;first|refine aD rfl (fun _=>fE rfl w_) rfl rfl ?_)|(refine kF ?_;first|refine aD rfl (fun _=>dE rfl) rfl rfl ?_|refine aD rfl (fun _=>fT rfl rfl) rfl rfl ?_|refine aD rfl (fun _=>fP rfl rfl) rfl rfl ?_|refine aD rfl (fun _=>fU rfl rfl rfl) rfl rfl ?_)|(refine kE ?_;first|refine jZ rfl (by decide) rfl rfl ?_|refine nA rfl (by decide) rfl rfl ?_)|(refine kI ?_;first|refine aD rfl (fun _=>fB rfl) rfl rfl ?_)|(refine kR ?_;first|refine mV rfl rfl iH rfl rfl ?_|refine mZ vH rfl rfl iH bA nD rfl rfl ?_|refine mY vH rfl rfl iH bA nD rfl rfl ?_|refine aD rfl (fun _=>dZ rfl rfl iH) rfl rfl ?_)|(refine bN ?_;first|refine mX vH rfl bA yG rfl rfl ?_|refine mW vH rfl bA yG rfl rfl ?_|refine gM vH rfl bA yG rfl rfl ?_|refine jY vH rfl bA yG rfl rfl ?_|refine rA vH rfl bA nN jV rfl rfl ?_|refine rO vH rfl bA nN jV rfl rfl ?_|refine rE vH rfl bA nN jV rfl rfl ?_|refine oV vH rfl bA nN jV rfl rfl ?_)|(refine kG ?_;first|refine aD rfl (fun _=>eF rfl rfl) rfl rfl ?_|refine aD rfl (fun _=>dI rfl) rfl rfl ?_)|(refine nO ?_;first|refine nH rfl rfl rfl tO stC rfl rfl ⟨okK,?_⟩|refine fJ rfl rfl jV aCU tO aCQ rfl rfl ⟨okK,?_⟩)|(refine lW ?_;first|refine fF rfl ?_|refine dV rfl ?_|refine pE rfl (by omega) ?_|refine tC rfl (by omega) ?_)));exact hh.out)):p:=w ⟨h⟩
end Go.Fx
namespace Go.Proofs.YtmmmfphealhapaaGreat
open Go Go.Fx Go.RowKit Go.Shelf
attribute [local go_sem] Oper.semAt_some
theorem aWM (w:World) (m:Nat) (hm:m≤100000000000):(Instr.makeSlice 40 (.int .i64 (m:Int)) (.int .i64 (m:Int))).run Tryz.prog w= .ok (.slice (some ⟨w.heap.size,0,none⟩) m m) (w.alloc (.cells (madeCells #[.int .u32 0] m) 121)):=by
 have ht:SliceTy Tryz.prog 40 121 1:=inferInstance
 have hz:ElemTy Tryz.prog 121 1 4 [.int .u32 0]:=inferInstance
 obtain ⟨i,v,hi,hs,hby,hzv,hcl⟩:=sZ hz
 have hr:=run_make (P:=Tryz.prog) w 40 121 i v ht.und hi hzv .i64 .i64 m m (by omega) (by omega) (by rw [hby];omega) (by omega)
 simpa only [Int.toNat_natCast,hs,hcl,Nat.mul_one] using hr
theorem aTW {P:Program} {fn:Func} {tmps:Array Value} {w:World} {rs:List ResultVar} {vs:List Value} (hr:fn.results=rs.toArray) (hv:aHD P tmps w rs vs) (hl:Nat.beq vs.length 1=false):(results fn tmps).run P w= .ok (.tuple vs.toArray) w:=by
 have e1:=zK P tmps w rs vs hv
 have hne:¬vs.length=1:=by intro e;simp [e] at hl
 unfold results
 rw [hr,Sem.run_bind]
 refine (congrArg (fun r=>Result.andThen r fun a w'=>Sem.run P (pure (if h:a.size=1 then a[0] else Value.tuple a)) w') e1).trans ?_
 simp [hne]
def shS (d:Int) (st:List Int × Int) (i:Nat) (g:Int):List Int × Int:=(st.1.set i ((st.2*1000000000+g).tdiv d),(st.2*1000000000+g).tmod d)
def shF (zs:List Int) (d:Int) (pre:List (Dg zs)):List Int × Int:=pre.foldl (fun st x=>shS d st x.1 (zs[x.1]?.getD 0)) (List.replicate zs.length 0,0)
theorem aMG (zs:List Int) (d:Int) (pre:List (Dg zs)) (x:Dg zs):shF zs d (pre++[x])=shS d (shF zs d pre) x.1 (zs[x.1]?.getD 0):=by simp [shF]
theorem bFS {d:Int} {st:List Int × Int} {i:Nat} {g:Int} (hd:0 < d∧d < 1000000000) (hr:0≤st.2∧st.2 < d) (hg:0≤g∧g < 1000000000):(shS d st i g).1.length=st.1.length∧0≤(shS d st i g).2∧(shS d st i g).2 < d:=by
 unfold shS
 refine ⟨by simp,?_⟩
 simp only
 rw [Int.tmod_eq_emod_of_nonneg (by omega)]
 exact ⟨Int.emod_nonneg _ (by omega),Int.emod_lt_of_pos _ hd.1⟩
theorem aJX {zs:List Int} {d:Int} (hd:0 < d∧d < 1000000000) (hz:Dig zs) (pre:List (Dg zs)):(shF zs d pre).1.length=zs.length∧0≤(shF zs d pre).2∧(shF zs d pre).2 < d:=by
 unfold shF
 generalize hs:(List.replicate zs.length (0:Int),(0:Int))=st
 have h0:st.1.length=zs.length∧0≤st.2∧st.2 < d:=by subst hs;simp;exact hd.1
 clear hs
 induction pre generalizing st with
 |nil=>exact h0
 |cons x r ih=>
  rw [List.foldl_cons]
  refine ih _ ?_
  have:=bFS (i:=x.1) (g:=zs[x.1]?.getD 0) hd h0.2 (by have:=hz.getD x.1;simpa using this)
  exact ⟨this.1.trans h0.1,this.2⟩
theorem uS {A B:World} {row:Option Nat} {b n:Nat} {cs:List Value} {e:TypeId} (h:Blk A b cs e) (hb:b < n) (hg:A.grownBy B row) (hr:∀j,row=some j→n≤j):Blk B b cs e:=
 (hg.block b h.lt (fun e=>by have:=hr b e.symm;omega)).trans h
structure ShI (s len:Nat) (d:Int) (st:List Int × Int) (W:World):Prop where
 b0:Blk W s [.int .u32 d] 121
 b1:Blk W (s+1) [.slice (some ⟨s+1+1,0,none⟩) len len] 40
 b2:Blk W (s+1+1) (recs eG st.1) 121
 b3:Blk W (s+1+1+1) [.int .u64 st.2] 176
theorem ShI.mem {s len:Nat} {d:Int} {st:List Int × Int} {W:World} (h:ShI s len d st W):
  Mem [s,s+1,s+1+1,s+1+1+1] W [.blk s [.int .u32 d] 121, .blk (s+1) [.slice (some ⟨s+1+1,0,none⟩) len len] 40, .blk (s+1+1) (recs eG st.1) 121, .blk (s+1+1+1) [.int .u64 st.2] 176] [] W:=by
 refine ⟨Ext.refl _ _,?_,?_,?_,fun _ h=>by cases h⟩
 ·intro b hb
  simp [muts,Ent.blocks] at hb
  simp;omega
 ·simp [muts,Ent.blocks]
  omega
 ·intro e he
  simp only [List.mem_cons,List.not_mem_nil,or_false] at he
  rcases he with rfl|rfl|rfl|rfl
  ·exact h.b0
  ·exact h.b1
  ·exact h.b2
  ·exact h.b3
theorem ShI.of {s len:Nat} {d:Int} {st:List Int × Int} {W0 W:World} {X:List Nat} {I:List aL} (h:Mem X W0 [.blk s [.int .u32 d] 121, .blk (s+1) [.slice (some ⟨s+1+1,0,none⟩) len len] 40, .blk (s+1+1) (recs eG st.1) 121, .blk (s+1+1+1) [.int .u64 st.2] 176] I W):ShI s len d st W:=
 ⟨h.blk (by simp),h.blk (by simp),h.blk (by simp),h.blk (by simp)⟩
theorem aYG (a:Option Addr) (cap:Nat) (zs:List Int) (d:Int) (w:World) (hz:zs.length≤100000000000) (hD':Dig zs) (hd:0 < d∧d < 1000000000) (hI:Sl [] w a (recs eG zs)):
  CallsIn Fence.wide 5 Tryz.prog 201 #[.slice a zs.length cap, .int .u32 d] w fun e w'=>∃b c',e= .returned (.tuple #[.slice (some ⟨b,0,none⟩) (gF (shF zs d (yC zs zs.length)).1).length c', .int .u32 (shF zs d (yC zs zs.length)).2])∧Below w.heap.size w w'∧(gF (shF zs d (yC zs zs.length)).1).length≤c'∧w.heap.size≤b∧Sl [] w' (some ⟨b,0,none⟩) (recs eG (gF (shF zs d (yC zs zs.length)).1)):=by
 refine callsIn_of_wp_marks Tryz.func201 rfl trivial ?_ rfl
 simp only [Tryz.ntmps201,List.size_toArray,List.length_cons,List.length_nil,Nat.reduceAdd,Nat.reduceSub,Array.replicate_succ,Array.replicate_zero,List.push_toArray,List.append_toArray,List.nil_append,List.cons_append]
 gi_wp2_with (refine ⟨trivial,?_⟩;gi_at_call 252;refine (aDJ Fence.wide _ trivial rfl _ _ _ _).mono ?_;rintro e w' ⟨rfl,rfl⟩)
 rw [aWM _ _ (by omega)]
 gi_wp2_with (refine ⟨trivial,?_⟩;gi_at_call 252;refine (aDJ Fence.wide _ trivial rfl _ _ _ _).mono ?_;rintro e w' ⟨rfl,rfl⟩)
 generalize hW0:((((w.alloc (.cells #[.int .u32 d] 121)).alloc (.cells #[.slice (some ⟨w.heap.size+1+1,0,none⟩) zs.length zs.length] 40)).alloc (.cells (madeCells #[.int .u32 0] zs.length) 121)).alloc (.cells #[.int .u64 0] 176)).alloc (.cells #[.slice a zs.length cap] 40)=W0
 have hBl:Below w.heap.size w W0:=by
  subst hW0
  exact (((((Below.refl _ w).alloc (Nat.le_refl _) _).alloc (by simp) _).alloc (by simp;omega) _).alloc (by simp;omega) _).alloc (by simp;omega) _
 have hsz:W0.heap.size=w.heap.size+1+1+1+1+1:=by subst hW0;simp
 have hSh:ShI w.heap.size zs.length d (shF zs d []) W0:=by
  subst hW0
  refine ⟨?_,?_,?_,?_⟩
  ·exact (heap_alloc_old _ _ (h:=by simp <;>omega)).trans ((heap_alloc_old _ _ (h:=by simp <;>omega)).trans ((heap_alloc_old _ _ (h:=by simp <;>omega)).trans ((heap_alloc_old _ _ (h:=by simp)).trans (heap_alloc_new _ _))))
  ·have:=heap_alloc_new (w.alloc (.cells #[.int .u32 d] 121)) (.cells #[.slice (some ⟨w.heap.size+1+1,0,none⟩) zs.length zs.length] 40)
   rw [World.size_alloc] at this
   exact (heap_alloc_old _ _ (h:=by simp <;>omega)).trans ((heap_alloc_old _ _ (h:=by simp <;>omega)).trans ((heap_alloc_old _ _ (h:=by simp)).trans this))
  ·have:=heap_alloc_new ((w.alloc (.cells #[.int .u32 d] 121)).alloc (.cells #[.slice (some ⟨w.heap.size+1+1,0,none⟩) zs.length zs.length] 40)) (.cells (madeCells #[.int .u32 0] zs.length) 121)
   simp only [World.size_alloc] at this
   refine (heap_alloc_old _ _ (h:=by simp <;>omega)).trans ((heap_alloc_old _ _ (h:=by simp)).trans (this.trans ?_))
   have e:(madeCells #[.int .u32 0] zs.length)=(recs eG (List.replicate zs.length 0)).toArray:=by
    have:=nI .u32 zs.length
    rw [Nat.mul_one] at this
    rw [←this]
   rw [e]
   rfl
  ·have:=heap_alloc_new (((w.alloc (.cells #[.int .u32 d] 121)).alloc (.cells #[.slice (some ⟨w.heap.size+1+1,0,none⟩) zs.length zs.length] 40)).alloc (.cells (madeCells #[.int .u32 0] zs.length) 121)) (.cells #[.int .u64 0] 176)
   simp only [World.size_alloc] at this
   exact (heap_alloc_old _ _ (h:=by simp)).trans this
 have hb:W0.cell? ⟨w.heap.size+1+1+1+1,0,none⟩=some (.slice a zs.length cap):=by
  subst hW0
  have:=(qB ((((w.alloc (.cells #[.int .u32 d] 121)).alloc (.cells #[.slice (some ⟨w.heap.size+1+1,0,none⟩) zs.length zs.length] 40)).alloc (.cells (madeCells #[.int .u32 0] zs.length) 121)).alloc (.cells #[.int .u64 0] 176)) (.slice a zs.length cap) 40).1
  simpa only [World.size_alloc] using this
 have hI2:=Sl.mono hI (Ext.of_below hBl)
 refine wpIn_rangeFunc_ownG rfl (by decide) (gf:=279) (lb:=#[.pointer (some ⟨w.heap.size+1+1+1+1,0,none⟩)]) rfl trivial (enters_of Tryz.func279 (by kernel_rfl) rfl)
  (aFI Fence.wide (5 - 1) trivial rfl (by decide) (w.heap.size+1+1+1+1) w.heap.size a cap zs (by omega) _ (by omega) (by omega) hb hI2 (aRS hI)) KpB.trans (aWP (by omega)) (Below.refl _ _) (fun _=>rfl)
  (fun pre W=>ShI w.heap.size zs.length d (shF zs d pre) W∧Below w.heap.size w W)
  (fun _ _ _=>False)
  (OwnFrom.and (fun pre A B row hs hg hr=>⟨uS hs.b0 (by omega) hg (fun j e=>(hr j e).1),uS hs.b1 (by omega) hg (fun j e=>(hr j e).1),uS hs.b2 (by omega) hg (fun j e=>(hr j e).1),uS hs.b3 (by omega) hg (fun j e=>(hr j e).1)⟩) (ownFrom_below (Nat.le_refl _) (by omega)))
  (fun _ _ _ _ _ hs _ _=>hs) ⟨hSh,hBl⟩ ?a1 ?assign ?body ?done ?stop
 case assign=>
  intro l x W K hK
  dsimp only [dgE]
  gi_wp2
  exact hK
 case body=>
  rintro l pre x W ⟨hS,hB⟩ hpl
  have hx:=x.2
  have hgx:0≤zs[x.1]?.getD 0∧zs[x.1]?.getD 0 < 1000000000:=by have:=hD'.getD x.1;simpa using this
  have hst:=aJX hd hD' pre
  have hc3:=hS.b3.cell (o:=0) rfl
  gi_wp2
  have ev:IntKind.u64.wrap ((shF zs d pre).snd*1000000000+IntKind.u64.wrap zs[x.val])=(shF zs d pre).snd*1000000000+zs[x.1]?.getD 0:=by
   have e:zs[x.1]=zs[x.1]?.getD 0:=by simp [hx]
   rw [e,wrap_u64 (n:=zs[x.1]?.getD 0) (by omega),wrap_u64 (by omega)]
  rw [ev]
  obtain ⟨o,ho⟩:∃o,(shF zs d pre).1=o:=⟨_,rfl⟩
  obtain ⟨r,hr⟩:∃r,(shF zs d pre).2=r:=⟨_,rfl⟩
  have hM:=hS.mem
  rw [hr] at hst ⊢
  rw [ho] at hst
  rw [ho,hr] at hM
  have hsn:=aMG zs d pre x
  unfold shS at hsn
  rw [ho,hr] at hsn
  have hV:0≤r*1000000000+zs[x.1]?.getD 0:=by omega
  have hq1:(r*1000000000+zs[x.1]?.getD 0).tdiv d=(r*1000000000+zs[x.1]?.getD 0) / d:=Int.tdiv_eq_ediv_of_nonneg hV
  have hq2:(r*1000000000+zs[x.1]?.getD 0) / d < 1000000000:=by
   apply Int.ediv_lt_of_lt_mul hd.1
   have:(r+1)*1000000000≤d*1000000000:=Int.mul_le_mul_of_nonneg_right (by omega) (by omega)
   omega
  have hq3:0≤(r*1000000000+zs[x.1]?.getD 0) / d:=Int.ediv_nonneg hV (by omega)
  have hm1:(r*1000000000+zs[x.1]?.getD 0).tmod d=(r*1000000000+zs[x.1]?.getD 0) % d:=Int.tmod_eq_emod_of_nonneg hV
  have hm2:=Int.emod_lt_of_pos (r*1000000000+zs[x.1]?.getD 0) hd.1
  have hm3:=Int.emod_nonneg (r*1000000000+zs[x.1]?.getD 0) (show d≠0 by omega)
  refine aPB (Has.cons (t:=3) (v:= .pointer (some ⟨w.heap.size,0,none⟩)) (Has.cons (t:=4) (v:= .pointer (some ⟨w.heap.size+1,0,none⟩)) (Has.cons (t:=6) (v:= .pointer (some ⟨w.heap.size+1+1+1,0,none⟩)) (Has.cons (t:=7) (v:= .int .i64 (x.1:Int)) (Has.cons (t:=9) (v:= .int .u64 (r*1000000000+zs[x.1]?.getD 0)) (Has.nil (n:=38) rfl rfl) rfl) rfl) rfl) rfl) rfl) (hM) (by rintro ⟨a,w,h⟩;exact h) 1 ([.blk w.heap.size [.int .u32 d] 121, .blk (w.heap.size+1) [.slice (some ⟨w.heap.size+1+1,0,none⟩) zs.length zs.length] 40]) ([]) [0,1,2,3,4,5,6,7,8,9,10,11,12,13] [0,0,0,0,0,0,0,1,1,1,1,0,0,0] bY bW mixed (by kernel_rfl) (by kernel_rfl) ?_
  repeat refine jA ?_
  refine ⟨fun W' hm=>⟨fun act ha=>?_⟩⟩
  refine ⟨aJC hm.ext (fun k hk=>?_),⟨vX hm.ext (fun k hk=>?_) (by have:=hB.size;omega),fun v hv=>hm.ext.cell hv ?_⟩,⟨?_,?_⟩⟩
  ·simp at hk;omega
  ·simp at hk;omega
  ·simp;omega
  ·rw [hsn]
   exact ShI.of hm
  ·exact hB.trans (vX hm.ext (fun k hk=>by simp at hk;omega) (by have:=hB.size;omega))
 case done=>
  rintro D ys W hD rfl ⟨hS,hB⟩ hK
  have hst:=aJX hd hD' (yC zs zs.length)
  obtain ⟨o,ho⟩:∃o,(shF zs d (yC zs zs.length)).1=o:=⟨_,rfl⟩
  obtain ⟨r,hr⟩:∃r,(shF zs d (yC zs zs.length)).2=r:=⟨_,rfl⟩
  have hM:=hS.mem
  rw [hr,ho] at hst
  rw [ho,hr] at hM
  have hM2:=hM.freezeB (b:=w.heap.size+1+1) (cs:=recs eG o) (e:=121) (M':=[.blk w.heap.size [.int .u32 d] 121, .blk (w.heap.size+1) [.slice (some ⟨w.heap.size+1+1,0,none⟩) zs.length zs.length] 40, .blk (w.heap.size+1+1+1) [.int .u64 r] 176]) yZ
  gi_wp2
  refine aNG (Has.cons (t:=4) (v:= .pointer (some ⟨w.heap.size+1,0,none⟩)) (Has.cons (t:=6) (v:= .pointer (some ⟨w.heap.size+1+1+1,0,none⟩)) (Has.nil (n:=38) rfl rfl) rfl) rfl) (hM2) 2 ([.blk (w.heap.size+1+1+1) [.int .u64 r] 176]) ([]) [0,2,3,1,4,5] [0,2,2,0,0,0] bY bW mixed (by kernel_rfl) ?_
  repeat refine jA ?_
  (refine bD rfl (tH (l:=o) (n:=zs.length) (c:=zs.length) (q:=some ⟨w.heap.size+1+1,0,none⟩) hst.1.symm (by omega) (by omega) bA) ?_;rintro _ _ _ ⟨rfl,rfl,rfl⟩;refine aN ?_)
  repeat refine jA ?_
  refine ⟨fun W' hm=>⟨fun act ha=>?_⟩⟩
  obtain ⟨tm,df⟩:=act
  have hdf:df=[]:=ha.defers
  subst hdf
  rename_i Q1 K1 hKK
  refine hKK _ _ (wpIn_ret ?_)
  have hX:∀k∈[w.heap.size,w.heap.size+1,w.heap.size+1+1,w.heap.size+1+1+1],w.heap.size≤k∧k < D:=fun k hk=>by simp at hk;omega
  have hK2:W'.heap[D]?=some (.deferred (some [])):=(hm.ext.block D (Array.getElem?_eq_some_iff.1 hK).1 (fun hk=>by have:=hX D hk;omega)).trans hK
  refine ⟨by simp, .inl ⟨_,_,rfl,run_takeDeferred hK2,?_⟩⟩
  have hg:W'.grownBy (W'.putObj D (.deferred none)) (some D):=grownBy_putObj' W' D _
  have hb1:Blk (W'.putObj D (.deferred none)) (w.heap.size+1) [.slice (some ⟨w.heap.size+1+1,0,none⟩) (gF o).length zs.length] 40:=uS (n:=D) (hm.blk (by simp)) (by omega) hg (fun j e=>by cases e;exact Nat.le_refl _)
  have hBf:Below w.heap.size w (W'.putObj D (.deferred none)):=(hB.trans (vX hm.ext (fun k hk=>(hX k hk).1) (by have:=hB.size;omega))).trans (belowK_b (w:=w) (Nat.le_refl _) _ D _ _ (by omega) hK2 rfl rfl)
  refine ⟨_,aTW (tmps:=tm) (rs:=[.cell 4 40, .tmp 5]) (vs:=[.slice (some ⟨w.heap.size+1+1,0,none⟩) (gF o).length zs.length, .int .u32 r]) rfl ⟨aHX (by simp [ha.get 4 _ rfl]) hb1,by simp [ha.get 5 _ rfl],trivial⟩ rfl,?_⟩
  rw [ho,hr]
  refine ⟨_,_,rfl,hBf,?_,?_,?_⟩
  ·have:=aAZ (o:=o);omega
  ·omega
  ·intro j v hj
   obtain ⟨h1,_,h3⟩:=(hm.sl (a:=some ⟨w.heap.size+1+1,0,none⟩) (cs:=recs eG (gF o)) (by simp)) j v hj
   exact ⟨h1,by simp,cell_kept h3 hg (fun r e=>by cases e;exact ⟨_,hK2,rfl⟩)⟩
 case stop=>
  rintro D c pre W _ _ h _
  exact h.elim
theorem aPI {zs:List Int} {d:Int} (hd:0 < d∧d < 1000000000) (hz:Dig zs):∀k,k≤zs.length→val (zs.drop (zs.length - k))=d*val ((shF zs d (yC zs k)).1.drop (zs.length - k))+(shF zs d (yC zs k)).2∧Dig (shF zs d (yC zs k)).1
 |0,_=>by
  have e:(shF zs d (yC zs 0))=(List.replicate zs.length 0,0):=rfl
  rw [e]
  simp [val]
  exact Dig.zeros _
 |k+1,hk=>by
  obtain ⟨h1,h2⟩:=aPI hd hz k (by omega)
  obtain ⟨l1,l2,l3⟩:=aJX hd hz (yC zs k)
  rw [uL (by omega),aMG]
  have e:zs.length - k=zs.length - (k+1)+1:=by omega
  have e2:zs.length - 1 - k=zs.length - (k+1):=by omega
  simp only [e2]
  rw [e] at h1
  have hg:zs[zs.length - (k+1)]?.getD 0=zs.getD (zs.length - (k+1)) 0:=by simp
  have hgd:=hz.getD (zs.length - (k+1))
  have hsm:=aHY hd.1 (by omega) ⟨l2,l3⟩ hgd
  have h3:=aMQ (a:=zs) (q:=(shF zs d (yC zs k)).1) (i:=zs.length - (k+1)) (d:=d) (r:=(shF zs d (yC zs k)).2) (by omega) (by omega) h1
  unfold shS
  rw [hg,Int.tdiv_eq_ediv_of_nonneg (by omega),Int.tmod_eq_emod_of_nonneg (by omega)]
  exact ⟨h3,h2.set _ hsm.2.1⟩
section
variable {X:List Nat} {w0:World} {M0:List Ent} {I0:List aL}
theorem aKT {q:Option Addr} {n c d:Nat} (hn:(gr n).length≤100000000000) (hd:0 < d∧d < 1000000000) (hq:aI q (recs eG (gr n))∈I0):
  CD Tryz.prog 201 [.slice q (gr n).length c, .int .u32 d] X w0 M0 I0 (fun v M I=>M0=M∧∃p c',(gr (n / d)).length≤c'∧Ok p∧v= .tuple #[.slice p (gr (n / d)).length c', .int .u32 ((n % d:Nat):Int)]∧I=aI p (recs eG (gr (n / d)))::I0):=by
 have hd':0 < (d:Int)∧(d:Int) < 1000000000:=by omega
 obtain ⟨h1,h2⟩:=aPI hd' (bT n) (gr n).length (Nat.le_refl _)
 obtain ⟨l1,l2,l3⟩:=aJX hd' (bT n) (yC (gr n) (gr n).length)
 rw [Nat.sub_self,List.drop_zero,List.drop_zero,cZ] at h1
 have hv0:=bS h2
 have e1:val (shF (gr n) d (yC (gr n) (gr n).length)).1=((n / d:Nat):Int):=by
  rw [Int.natCast_ediv,h1,Int.add_comm,Int.add_mul_ediv_left _ _ (by omega),Int.ediv_eq_zero_of_lt l2 l3]
  omega
 have e2:(shF (gr n) d (yC (gr n) (gr n).length)).2=((n % d:Nat):Int):=by
  rw [Int.natCast_emod,h1,Int.add_comm,Int.add_mul_emod_self_left,Int.emod_eq_of_lt l2 l3]
 have e3:=oG h2 e1
 have hs:=fun (w:World) (hI:Sl [] w q (recs eG (gr n)))=>aYG q c (gr n) d w hn (bT n) hd' hI
 rw [e3,e2] at hs
 refine ⟨fun w hw=>Calls.mono (callsIn_wide.1 (hs w ((hw.sl hq).less (by simp)))) ?_⟩
 rintro e w' ⟨b,c',rfl,hB,hle,hb,hS⟩
 refine ⟨_,rfl,_,_,⟨rfl,_,c',hle,Ok.mk _ _,rfl,rfl⟩,hw.new (Ext.of_below hB) (fun Y hY j v hj=>?_)⟩
 obtain ⟨h1,_,h3⟩:=hS j v hj
 exact ⟨h1,fun hm=>by have:=hY b hm;omega,h3⟩
end
end Go.Proofs.YtmmmfphealhapaaGreat
