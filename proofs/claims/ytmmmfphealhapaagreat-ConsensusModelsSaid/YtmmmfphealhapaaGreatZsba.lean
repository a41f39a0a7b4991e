/- consensus: far, Check, Size, kinded, tolerance. -/
import Derived.Test.YtmmmfphealhapaaGreatZsax
import Derived.Test.YtmmmfphealhapaaGreatZsaz
import Derived.Test.YtmmmfphealhapaaGreatZsaq
import Derived.Test.YtmmmfphealhapaaGreatZsav
import Derived.Test.YtmmmfphealhapaaGreatZsal
import Derived.Test.YtmmmfphealhapaaGreatZsau
import Derived.Test.YtmmmfphealhapaaGreatZsar
import Derived.Test.YtmmmfphealhapaaGreatZsao
import Derived.Test.YtmmmfphealhapaaGreatZsas
set_option linter.unusedSimpArgs false
set_option linter.unusedVariables false
set_option maxRecDepth 100000
set_option maxHeartbeats 4000000
namespace Go.Proofs.YtmmmfphealhapaaGreat
open Go Go.Fx
/- ---------- IndexFunc, ContainsFunc of []fiducial/api.Pair ---------- -/
section
variable {X:List Nat} {w0:World} {M0:List Ent} {I0:List aM}
theorem aTR {q:Option Addr} {a:List Q4} {c:Nat} {g:FuncId} [FnOk Tryz.prog g] {fs cs:Array Value} (pr:Q4→Prop) [DecidablePred pr] (hn:(a.length:Int)≤9223372036854775807) (ha:aH q (recs iL a)∈I0)
  (hg:∀i:Nat,i < a.length→CD Tryz.prog g (fs.toList++[vQ4 (gt a i)]++cs.toList) X w0 M0 I0 (fun v M I=>M0=M∧I0=I∧v= .bool (B (pr (gt a i))))):
  CD Tryz.prog 104 [.slice q a.length c, .func (.func g) fs cs] X w0 M0 I0 (fun v M I=>M0=M∧I0=I∧∃r:Int,v= .int .i64 r∧((∃i:Nat,i < a.length∧r=i∧pr (gt a i)∧∀j:Nat,j < i→¬pr (gt a j))∨(r= -1∧∀j:Nat,j < a.length→¬pr (gt a j)))):=by
 refine aN Tryz.func104 rfl Tryz.ntmps104 rfl ?_
 repeat refine aB ?_
 refine lV [0,1,7] rfl (fun k G M I=>∃i:Nat,i≤a.length∧k=a.length - i∧(∀j:Nat,j < i→¬pr (gt a j))∧G=[(8, .int .i64 i)]∧M=M0∧I=I0) (a.length) (⟨0,by omega,rfl,fun j hj=>by omega,rfl,rfl,rfl⟩) ?_
 rintro k G M I ⟨i,hi,rfl,hs,rfl,rfl,rfl⟩
 repeat' (first|refine aB ?_|refine aK rfl (fun h=>?_) (fun h=>?_)|refine aJ rfl rfl (fun h=>?_) (fun h=>?_)|fail)
 ·have hlt:i < a.length:=by omega
  (refine eQ rfl rfl (hg i hlt) rfl rfl rfl ?_;rintro _ _ _ ⟨rfl,rfl,rfl⟩;refine aL ?_)
  repeat' (first|refine aB ?_|refine aK rfl (fun h=>?_) (fun h=>?_)|refine aJ rfl rfl (fun h=>?_) (fun h=>?_)|fail)
  ·refine aP (by first|exact .inl rfl|exact .inr rfl) rfl rfl _ _ aF aD (⟨rfl,rfl,_,rfl, .inl ⟨i,hlt,rfl,by assumption,hs⟩⟩)
  ·refine gJ (a.length - (i+1)) (⟨i+1,by omega,rfl,fun j hj=>?_,rfl,rfl,rfl⟩)
   by_cases e:j=i
   ·subst e;assumption
   ·exact hs j (by omega)
 ·refine aP (by first|exact .inl rfl|exact .inr rfl) rfl rfl _ _ aF aD (⟨rfl,rfl,_,rfl, .inr ⟨rfl,fun j hj=>hs j (by omega)⟩⟩)
theorem aWI {q:Option Addr} {a:List Q4} {c:Nat} {g:FuncId} [FnOk Tryz.prog g] {fs cs:Array Value} (pr:Q4→Prop) [DecidablePred pr] (hn:(a.length:Int)≤9223372036854775807) (ha:aH q (recs iL a)∈I0)
  (hg:∀i:Nat,i < a.length→CD Tryz.prog g (fs.toList++[vQ4 (gt a i)]++cs.toList) X w0 M0 I0 (fun v M I=>M0=M∧I0=I∧v= .bool (B (pr (gt a i))))):
  CD Tryz.prog 37 [.slice q a.length c, .func (.func g) fs cs] X w0 M0 I0 (fun v M I=>M0=M∧I0=I∧v= .bool (B (∃x∈a,pr x))):=by
 refine aN Tryz.func37 rfl Tryz.ntmps37 rfl ?_
 repeat refine aB ?_
 (refine aQ rfl (aTR pr hn ha hg) ?_;rintro _ _ _ ⟨rfl,rfl,r,rfl,h⟩;refine aL ?_)
 repeat refine aB ?_
 refine iA rfl rfl (⟨rfl,rfl,congrArg Value.bool (iG ?_)⟩)
 rcases h with ⟨i,hi,rfl,hp,_⟩|⟨rfl,h⟩
 ·exact ⟨fun _=>⟨gt a i,by rw [fE hi];exact List.getElem_mem hi,hp⟩,fun _=>by omega⟩
 ·refine ⟨fun h=>by omega,?_⟩
  rintro ⟨x,hx,hp⟩
  obtain ⟨j,hj,rfl⟩:=List.mem_iff_getElem.1 hx
  exact absurd (by rw [fE hj];exact hp) (h j hj)
end
section
variable {X:List Nat} {w0:World} {M0 M1:List Ent} {I0:List aM}
theorem aOX {a b:Int}:CD Tryz.prog 39 [.agg #[.int .i64 a, .int .i64 b]] X w0 M0 I0 (fun v M I=>M0=M∧I0=I∧v= .bool (B (farC a b))):=by
 refine aS Tryz.func39 rfl Tryz.ntmps39 rfl ?_
 refine iH ?_
 refine gU rfl (fun b1=>?_)
 by_cases h1:min a b < -32768
 ·repeat refine aB ?_
  refine fB (M':=M0) (I':=I0) aF aD ?_
  refine iA rfl rfl (⟨rfl,rfl,congrArg Value.bool (bJ (show farC a b from .inl (by omega))).symm⟩)
 ·by_cases h2:32768 < max a b
  ·repeat refine aB ?_
   refine fB (M':=M0) (I':=I0) aF aD ?_
   refine iA rfl rfl (⟨rfl,rfl,congrArg Value.bool ((bJ h2).trans (bJ (show farC a b from .inr (by omega))).symm)⟩)
  ·repeat refine aB ?_
   refine fB (M':=M0) (I':=I0) aF aD ?_
   refine aP (by first|exact .inl rfl|exact .inr rfl) rfl rfl _ _ aF aD (⟨rfl,rfl,congrArg Value.bool ((bE h2).trans (bE (show ¬farC a b by unfold farC;omega)).symm)⟩)
theorem aOO {s:Q4}:CD Tryz.prog 38 [vQ4 s] X w0 M0 I0 (fun v M I=>M0=M∧I0=I∧v= .bool (B s.far)):=by
 have hF:=fun M0 I0=>aOX (X:=X) (w0:=w0) (M0:=M0) (I0:=I0) (a:=s.x) (b:=s.y)
 have hG:=fun M0 I0=>aOX (X:=X) (w0:=w0) (M0:=M0) (I0:=I0) (a:=s.u) (b:=s.v)
 refine aS Tryz.func38 rfl Tryz.ntmps38 rfl ?_
 refine iH ?_
 refine gU rfl (fun b1=>?_)
 by_cases h1:farC s.x s.y
 ·rw [bJ h1] at hF
  repeat refine aB ?_
  refine dK rfl (hF _ _) ?_
  repeat refine aB ?_
  refine fB (M':=M0) (I':=I0) aF aD ?_
  refine iA rfl rfl (⟨rfl,rfl,congrArg Value.bool (bJ (show s.far from .inl h1)).symm⟩)
 ·rw [bE h1] at hF
  repeat refine aB ?_
  refine dK rfl (hF _ _) ?_
  repeat refine aB ?_
  refine dK rfl (hG _ _) ?_
  repeat refine aB ?_
  refine fB (M':=M0) (I':=I0) aF aD ?_
  refine iA rfl rfl (⟨rfl,rfl,congrArg Value.bool (iG ⟨fun h=> .inr h,fun h=>h.resolve_left h1⟩)⟩)
theorem xL {q:Option Addr} {l:List Q4} {n c:Nat} (hl:l.length=n) (hn:(n:Int)≤9223372036854775807) (hq:aH q (recs iL l)∈I0):CD Tryz.prog 8 [.slice q n c] X w0 M0 I0 (fun v M I=>M0=M∧I0=I∧v= .int .i64 (jH l)):=by
 subst hl
 have hF:=fun M0 I0 h=>aWI (X:=X) (w0:=w0) (M0:=M0) (I0:=I0) (q:=q) (a:=l) (c:=c) (g:=38) (fs:=#[]) (cs:=#[]) Q4.far hn h (fun i _=>aOO)
 refine aS Tryz.func8 rfl Tryz.ntmps8 rfl ?_
 by_cases h0:l.length=0
 ·rw [show jH l=1 by unfold jH;rw [if_pos h0]]
  repeat refine aB ?_
  refine iA rfl rfl (⟨rfl,rfl,rfl⟩)
 by_cases h1:64 < l.length
 ·rw [show jH l=3 by unfold jH;rw [if_neg h0,if_pos h1]]
  repeat refine aB ?_
  refine iA rfl rfl (⟨rfl,rfl,rfl⟩)
 by_cases h2:anyFar l
 ·rw [show jH l=2 by unfold jH;rw [if_neg h0,if_neg h1,if_pos h2]]
  repeat refine aB ?_
  refine dK rfl (hF _ _ aA) ?_
  rw [bJ (show ∃x∈l,x.far from h2)]
  repeat refine aB ?_
  refine iA rfl rfl (⟨rfl,rfl,rfl⟩)
 ·rw [show jH l=0 by unfold jH;rw [if_neg h0,if_neg h1,if_neg h2]]
  repeat refine aB ?_
  refine dK rfl (hF _ _ aA) ?_
  rw [bE (show ¬∃x∈l,x.far from h2)]
  repeat refine aB ?_
  refine iA rfl rfl (⟨rfl,rfl,rfl⟩)
def kdP (x:Int):Prop:=0≤x∧x≤3
instance kdP.dec (x:Int):Decidable (kdP x):=inferInstanceAs (Decidable (0≤x∧x≤3))
theorem aOY {x:Int}:CD Tryz.prog 17 [.int .i64 x] X w0 M0 I0 (fun v M I=>M0=M∧I0=I∧v= .tuple #[.int .i64 (if kdP x then x+1 else 0), .int .i64 (if kdP x then 0 else 1)]):=by
 refine aS Tryz.func17 rfl Tryz.ntmps17 rfl ?_
 by_cases h0:x=0
 ·rw [if_pos (show kdP x from ⟨by omega,by omega⟩),if_pos (show kdP x from ⟨by omega,by omega⟩)]
  subst h0
  repeat refine aB ?_
  refine tyS [2,3] rfl rfl (⟨rfl,rfl,rfl⟩)
 by_cases h1:x=1
 ·rw [if_pos (show kdP x from ⟨by omega,by omega⟩),if_pos (show kdP x from ⟨by omega,by omega⟩)]
  subst h1
  repeat refine aB ?_
  refine tyS [2,3] rfl rfl (⟨rfl,rfl,rfl⟩)
 by_cases h2:x=2
 ·rw [if_pos (show kdP x from ⟨by omega,by omega⟩),if_pos (show kdP x from ⟨by omega,by omega⟩)]
  subst h2
  repeat refine aB ?_
  refine tyS [2,3] rfl rfl (⟨rfl,rfl,rfl⟩)
 by_cases h3:x=3
 ·rw [if_pos (show kdP x from ⟨by omega,by omega⟩),if_pos (show kdP x from ⟨by omega,by omega⟩)]
  subst h3
  repeat refine aB ?_
  refine tyS [2,3] rfl rfl (⟨rfl,rfl,rfl⟩)
 rw [if_neg (show ¬kdP x by unfold kdP;omega),if_neg (show ¬kdP x by unfold kdP;omega)]
 repeat refine aB ?_
 refine tyS [2,3] rfl rfl (⟨rfl,rfl,rfl⟩)
def qI (x:Int) (l:List Q4):Int:=if jH l=0 then (if kdP x then 0 else 1) else jH l
theorem aAU {x:Int} {q:Option Addr} {l:List Q4} {n c:Nat} (hl:l.length=n) (hn:(n:Int)≤9223372036854775807) (hq:aH q (recs iL l)∈I0):
  CD Tryz.prog 40 [.int .i64 x, .slice q n c] X w0 M0 I0 (fun v M I=>M0=M∧I0=I∧v= .tuple #[.int .i64 (if qI x l=0 then x+1 else 0), .int .i64 (qI x l)]):=by
 have hC:=fun M0 I0 h=>xL (X:=X) (w0:=w0) (M0:=M0) (I0:=I0) (q:=q) (l:=l) (n:=n) (c:=c) hl hn h
 have hS:=fun M0 I0=>aOY (X:=X) (w0:=w0) (M0:=M0) (I0:=I0) (x:=x)
 refine aN Tryz.func40 rfl Tryz.ntmps40 rfl ?_
 by_cases h0:jH l=0
 ·rw [h0] at hC
  have e:qI x l=if kdP x then 0 else 1:=by unfold qI;rw [if_pos h0]
  rw [e]
  by_cases hk:kdP x
  ·rw [if_pos hk,if_pos hk] at hS
   rw [if_pos hk,if_pos rfl]
   repeat refine aB ?_
   refine dK rfl (hC _ _ aA) ?_
   repeat refine aB ?_
   refine dK rfl (hS _ _) ?_
   repeat refine aB ?_
   refine tyS [4,5] rfl rfl (⟨rfl,rfl,rfl⟩)
  ·rw [if_neg hk,if_neg hk] at hS
   rw [if_neg hk,if_neg (by decide)]
   repeat refine aB ?_
   refine dK rfl (hC _ _ aA) ?_
   repeat refine aB ?_
   refine dK rfl (hS _ _) ?_
   repeat refine aB ?_
   refine tyS [4,5] rfl rfl (⟨rfl,rfl,rfl⟩)
 ·have e:qI x l=jH l:=by unfold qI;rw [if_neg h0]
  rw [e,if_neg h0]
  obtain ⟨cd,hcd⟩:∃z,jH l=z:=⟨_,rfl⟩
  rw [hcd] at hC h0 ⊢
  repeat refine aB ?_
  refine dK rfl (hC _ _ aA) ?_
  repeat refine aB ?_
  refine tyS [4,5] rfl rfl (⟨rfl,rfl,rfl⟩)
def tolP (t:Int):Prop:=0≤t∧t≤1073741824
instance tolP.dec (x:Int):Decidable (tolP x):=inferInstanceAs (Decidable (0≤x∧x≤1073741824))
theorem bCO {t:Int}:CD Tryz.prog 41 [.int .i64 t] X w0 M0 I0 (fun v M I=>M0=M∧I0=I∧v= .int .i64 (if tolP t then 0 else 2)):=by
 refine aS Tryz.func41 rfl Tryz.ntmps41 rfl ?_
 by_cases h0:t < 0
 ·rw [if_neg (show ¬tolP t by unfold tolP;omega)]
  repeat refine aB ?_
  refine iA rfl rfl (⟨rfl,rfl,rfl⟩)
 by_cases h1:1073741824 < t
 ·rw [if_neg (show ¬tolP t by unfold tolP;omega)]
  repeat refine aB ?_
  refine iA rfl rfl (⟨rfl,rfl,rfl⟩)
 ·rw [if_pos (show tolP t from ⟨by omega,by omega⟩)]
  repeat refine aB ?_
  refine iA rfl rfl (⟨rfl,rfl,rfl⟩)
end
structure V3 where
 x:Rat
 y:Rat
 z:Rat
def V3.dot (a b:V3):Rat:=a.x*b.x+a.y*b.y+a.z*b.z
def V3.sub (a b:V3):V3:=⟨a.x - b.x,a.y - b.y,a.z - b.z⟩
def V3.along (a:V3) (s:Rat) (b:V3):V3:=⟨a.x+s*b.x,a.y+s*b.y,a.z+s*b.z⟩
structure TE where
 x:RE
 y:RE
 z:RE
instance:Inhabited TE:=⟨⟨default,default,default⟩⟩
abbrev eT (p:TE):List Value:=recs eR [p.x,p.y,p.z]
abbrev tv (p:TE):Value:= .agg (recs eR [p.x,p.y,p.z]).toArray
instance:Sized eT 12:=⟨fun _=>rfl⟩
instance:Ones eT:=⟨fun m u hu=>uD _ u hu⟩
def TE.v (p:TE):V3:=⟨p.x.q,p.y.q,p.z.q⟩
structure IsT (p:TE) (k:Nat) (X:List Nat) (w:World):Prop where
 x:IsR p.x k X w
 y:IsR p.y k X w
 z:IsR p.z k X w
abbrev isT (p:TE) (k:Nat):aM:=IsT p k
instance (p:TE) (k:Nat):Fx.Good (IsT p k):=⟨fun X Y w w' h he hY=>⟨Fx.Good.go (φ:=IsR _ _) X Y w w' h.x he hY,Fx.Good.go (φ:=IsR _ _) X Y w w' h.y he hY,Fx.Good.go (φ:=IsR _ _) X Y w w' h.z he hY⟩⟩
theorem Hv.mkT {I:List aM} {a b c:RE} {k:Nat} (ha:Hv I (bW a k)) (hb:Hv I (bW b k)) (hc:Hv I (bW c k)):Hv I (isT ⟨a,b,c⟩ k):=⟨fun X w hw=>⟨ha.go X w hw,hb.go X w hw,hc.go X w hw⟩⟩
def TE.l (p:TE) (b:Nat):RL:=⟨some ⟨b,0,none⟩,3,[p.x,p.y,p.z]⟩
theorem Hv.tl {I:List aM} {p:TE} {b k:Nat} (h:Hv I (isT p k)) (hs:aH (some ⟨b,0,none⟩) (eT p)∈I):Hv I (iQ (p.l b) k):=⟨fun X w hw=>⟨(hw _ hs:SlI _ _ X w).go,fun e he=>by
 have h1:=h.go X w hw
 have he:e∈[p.x,p.y,p.z]:=he
 simp only [List.mem_cons,List.not_mem_nil,or_false] at he
 rcases he with rfl|rfl|rfl
 ·exact h1.x
 ·exact h1.y
 ·exact h1.z,⟨Nat.le_refl 3, .inl (Ok.mk _ _)⟩⟩⟩
def TQ (q:V3) (k:Nat) (M0:List Ent) (I0:List aM) (v:Value) (M:List Ent) (I:List aM):Prop:=M0=M∧∃p:TE,v=tv p∧p.v=q∧I=isT p k::I0
section
variable {X:List Nat} {w0:World} {M0:List Ent} {I0:List aM}
end
theorem Hv.r3 {I:List aM} {a b c:RE} {k:Nat} (ha:Hv I (bW a k)) (hb:Hv I (bW b k)) (hc:Hv I (bW c k)):Hv I (aU [a,b,c] k):=⟨fun X w hw=>⟨fun x hx=>by
 simp only [List.mem_cons,List.not_mem_nil,or_false] at hx
 rcases hx with rfl|rfl|rfl
 ·exact ha.go X w hw
 ·exact hb.go X w hw
 ·exact hc.go X w hw⟩⟩
theorem Hv.l3q {I:List aM} {a b c:RL} {k:Nat} (ha:Hv I (iQ a k)) (hb:Hv I (iQ b k)) (hc:Hv I (iQ c k)):Hv I (dX [a,b,c] k):=⟨fun X w hw=>⟨fun x hx=>by
 simp only [List.mem_cons,List.not_mem_nil,or_false] at hx
 rcases hx with rfl|rfl|rfl
 ·exact ha.go X w hw
 ·exact hb.go X w hw
 ·exact hc.go X w hw⟩⟩
section
variable {X:List Nat} {w0:World} {M0 M1:List Ent} {I0:List aM}
theorem jG {x:Int} (hx: -9223372036854775808≤x∧x≤9223372036854775807) {k:Nat} (hk:x.natAbs≤2 ^ k):CD Tryz.prog 111 [.int .i64 x] X w0 M0 I0 (RQ (x:Rat) k M0 I0):=by
 refine aS Tryz.func111 rfl Tryz.ntmps111 rfl ?_
 refine iH ?_
 refine dS (fun b2=>?_)
 repeat refine aB ?_
 (refine aQ rfl (tZ hx hk) ?_;rintro _ _ _ ⟨rfl,e,rfl,he,rfl⟩;refine aL ?_)
 repeat refine aB ?_
 refine aT (cs:=eR e) (.inl rfl) rfl rfl aA rfl M0 (bW e k::I0) aF aD ⟨rfl,e,rfl,he,rfl⟩
theorem aUM {a b:RE} {k m:Nat} (hk:k+m≤500000000000) (hb0:b.q≠0) (ha:Hv I0 (bW a k)) (hb:Hv I0 (bW b m)):
  CD Tryz.prog 191 [rv a,rv b] X w0 M0 I0 (RQ (a.q / b.q) (k+m) M0 I0):=by
 refine aN Tryz.func191 rfl Tryz.ntmps191 rfl ?_
 refine iH ?_
 refine gU rfl (fun b2=>?_)
 refine gU rfl (fun b3=>?_)
 refine dS (fun b4=>?_)
 repeat refine aB ?_
 (refine aQ rfl (aET (k:=k) (m:=m) hk hb0 ha hb) ?_;rintro _ _ _ ⟨rfl,e,rfl,he,rfl⟩;refine aL ?_)
 repeat refine aB ?_
 refine dS (fun b5=>?_)
 repeat refine aB ?_
 refine aT (cs:=eR e) (.inl rfl) rfl rfl aA rfl M0 (bW e (k+m)::I0) aF aD ⟨rfl,e,rfl,he,rfl⟩
theorem aER {a b:TE} {k:Nat} (ha:Hv I0 (isT a k)) (hb:Hv I0 (isT b k)):
  CD Tryz.prog 248 [tv a,tv b] X w0 M0 I0 (XQ [[a.x.q,a.y.q,a.z.q],[b.x.q,b.y.q,b.z.q],[0,0,1]] 3 3 k M0 I0):=by
 have hW0:=fun M0 I0=>jG (X:=X) (w0:=w0) (M0:=M0) (I0:=I0) (x:=0) (by decide) (k:=0) (by decide)
 have hW1:=fun M0 I0=>jG (X:=X) (w0:=w0) (M0:=M0) (I0:=I0) (x:=1) (by decide) (k:=0) (by decide)
 refine aX (φ:=isT a k) ha (aX (φ:=isT b k) hb.cons ?_)
 refine aN Tryz.func248 rfl Tryz.ntmps248 rfl ?_
 refine iH ?_
 refine gU rfl (fun b2=>?_)
 refine aI .here ?_
 refine gU rfl (fun b3=>?_)
 refine aI .here ?_
 repeat refine aB ?_
 refine bH (φ:=iQ (a.l b2) k) (Hv.tl (Hv.mem (φ:=isT a k) aA) aA) ?_
 refine bH (φ:=iQ (b.l b3) k) (Hv.tl (Hv.mem (φ:=isT b k) aA) aA) ?_
 (repeat refine aG ?_);refine qQ (M0) (iQ (b.l b3) k::iQ (a.l b2) k::I0) [0,1,2,3,4,5,6,7] [4,4,0,0,0,0,0,0] mixed ?_
 (refine aC rfl (fun _=>qW rfl) rfl rfl ?_)
 (refine aC rfl (fun _=>qW rfl) rfl rfl ?_)
 (refine aQ rfl (hW0 _ _) ?_;rintro _ _ _ ⟨rfl,e0,rfl,he0,rfl⟩;refine aL ?_)
 (refine aQ rfl (hW0 _ _) ?_;rintro _ _ _ ⟨rfl,e1,rfl,he1,rfl⟩;refine aL ?_)
 (refine aQ rfl (hW1 _ _) ?_;rintro _ _ _ ⟨rfl,e2,rfl,he2,rfl⟩;refine aL ?_)
 refine gX (cs:=recs eR [e0,e1,e2]) ([rv e0,rv e1,rv e2]) rfl (fun b5=>?_)
 refine cK (φ:=aU [e0,e1,e2] k) (Hv.r3 (Hv.q (k:=0) aA (Nat.zero_le _)) (Hv.q (k:=0) aA (Nat.zero_le _)) (Hv.q (k:=0) aA (Nat.zero_le _))) ?_
 refine gF (mm:=3) 4 .here rfl (by omega) ?_
 refine aHM (es:=[e0,e1,e2]) (k:=k) aA ?_
 refine gX (cs:=recs eL [a.l b2,b.l b3,⟨some ⟨b5,0,none⟩,3,[e0,e1,e2]⟩]) ([lv (a.l b2),lv (b.l b3),lv ⟨some ⟨b5,0,none⟩,3,[e0,e1,e2]⟩]) rfl (fun b6=>?_)
 refine cK (φ:=dX [a.l b2,b.l b3,⟨some ⟨b5,0,none⟩,3,[e0,e1,e2]⟩] k) (Hv.l3q (Hv.mem aA) (Hv.mem aA) (Hv.mem aA)) ?_
 refine gF (mm:=3) 1 .here rfl (by omega) ?_
 refine aUE (rows:=[a.l b2,b.l b3,⟨some ⟨b5,0,none⟩,3,[e0,e1,e2]⟩]) (k:=k) aA ?_
 repeat refine aB ?_
 refine fB (M':=M0) (I':=iB ⟨some ⟨b6,0,none⟩,3,[a.l b2,b.l b3,⟨some ⟨b5,0,none⟩,3,[e0,e1,e2]⟩]⟩ k::I0) aF aD ?_
 refine aP (by first|exact .inl rfl|exact .inr rfl) rfl rfl _ _ aF aD (⟨rfl,⟨some ⟨b6,0,none⟩,3,[a.l b2,b.l b3,⟨some ⟨b5,0,none⟩,3,[e0,e1,e2]⟩]⟩,rfl,by show [_,_,[e0.q,e1.q,e2.q]]=_;rw [he0,he1,he2];rfl,⟨rfl,fun r hr=>by
  simp only [List.mem_cons,List.not_mem_nil,or_false] at hr
  rcases hr with rfl|rfl|rfl <;>rfl⟩,rfl⟩)
end
section
variable {X:List Nat} {w0:World} {M0 M1:List Ent} {I0:List aM}
theorem yY (l:List Int) (x:Int):cz (l++[x])=cz l++[(x:Rat)]:=by simp [cz]
theorem xG {r:Int} {q:Option Addr} {xs:List Int} {n c pa pb:Nat} {qa qb:Option Addr} {ca cb u:Nat} {rows:List RL} {bs:List RE} (hl:xs.length=n) (hn:n≤100) (hlr:rows.length≤1000∧bs.length≤1000)
  (hb:∀x∈xs,(-9223372036854775808≤x∧x≤9223372036854775807)∧x.natAbs≤2 ^ u) (hr:(-9223372036854775808≤r∧r≤9223372036854775807)∧r.natAbs≤2 ^ u) (hq:aH q (recs eZ xs)∈I0) (ha:dX rows u∈I0) (hbb:aU bs u∈I0):
  CD Tryz.prog 247 [.int .i64 r, .slice q n c, .pointer (some ⟨pa,0,none⟩), .pointer (some ⟨pb,0,none⟩)] X w0
   (.row qa rows.length ca (recs eL rows) 70 1:: .row qb bs.length cb (recs eR bs) 77 4:: .blk pb [.slice qb bs.length cb] 70:: .blk pa [.slice qa rows.length ca] 34::M1) I0
   (fun _ M I=>∃(qa' qb':Option Addr) (ca' cb':Nat) (x:RL) (e:RE),x.q=cz xs∧e.q=(r:Rat)∧
    M= .row qa' (rows++[x]).length ca' (recs eL (rows++[x])) 70 1:: .row qb' (bs++[e]).length cb' (recs eR (bs++[e])) 77 4:: .blk pb [.slice qb' (bs++[e]).length cb'] 70:: .blk pa [.slice qa' (rows++[x]).length ca'] 34::M1∧I=dX (rows++[x]) u::aU (bs++[e]) u::I0):=by
 refine aX (φ:=aH q (recs eZ xs)) (Hv.mem hq) (aX (φ:=dX rows u) (Hv.mem (List.mem_cons_of_mem _ ha)) (aX (φ:=aU bs u) (Hv.mem (List.mem_cons_of_mem _ (List.mem_cons_of_mem _ hbb))) ?_))
 have hWr:=fun M0 I0=>jG (X:=X) (w0:=w0) (M0:=M0) (I0:=I0) (x:=r) hr.1 (k:=u) hr.2
 refine aAH Tryz.func247 rfl Tryz.ntmps247 rfl ?_
 repeat refine aB ?_
 refine iN 77 4 ?_
 refine bH (φ:=aU [] u) Hv.nilR ?_
 refine lV [0,2,3,9,10] rfl (fun k G M I=>∃(i:Nat) (es:List RE) (qe:Option Addr) (ce:Nat),i≤n∧k=n - i∧es.length=i∧qs es=cz (xs.take i)∧G=[(6, .slice qe es.length ce),(11, .int .i64 i)]∧M= .row qe es.length ce (recs eR es) 77 4:: .row qa rows.length ca (recs eL rows) 70 1:: .row qb bs.length cb (recs eR bs) 77 4:: .blk pb [.slice qb bs.length cb] 70:: .blk pa [.slice qa rows.length ca] 34::M1∧I=aU es u::aU bs u::dX rows u::aH q (recs eZ xs)::I0) (n) (⟨0,[],none,0,by omega,rfl,rfl,rfl,rfl,rfl,rfl⟩) ?_
 rintro kk G M I ⟨i,es,qe,ce,hi,rfl,hel,heq,rfl,rfl,rfl⟩
 by_cases hin:i < n
 ·have hx:=hb _ (bD (ms:=xs) (i:=(i:Int)) (by omega))
  obtain ⟨x,hxx⟩:∃x,gt xs (i:Int)=x:=⟨_,rfl⟩
  rw [hxx] at hx
  have hW:=fun M0 I0=>jG (X:=X) (w0:=w0) (M0:=M0) (I0:=I0) (x:=x) hx.1 (k:=u) hx.2
  have ht:xs.take (i+1)=xs.take i++[x]:=by rw [←hxx,fE (by omega)];exact (List.take_append_getElem (by omega)).symm
  repeat refine aB ?_
  rw [hxx]
  (refine aQ rfl (hW _ _) ?_;rintro _ _ _ ⟨rfl,e,rfl,he,rfl⟩;refine aL ?_)
  refine gX (cs:=recs eR [e]) ([rv e]) rfl (fun b=>?_)
  refine wB (ys:=[e]) 1 rfl rfl rfl (fun q2 c3=>?_)
  repeat refine aB ?_
  refine dF (φ:=aU (es++[e]) u) (Hv.snoc aA aA) ?_
  refine gJ (n - (i+1)) (⟨i+1,es++[e],q2,c3,by omega,rfl,by simp [hel],?_,rfl,rfl,rfl⟩)
  rw [ht,yY,←heq]
  show (es++[e]).map RE.q=qs es++[(x:Rat)]
  rw [List.map_append,←he]
  rfl
 ·obtain rfl:i=n:=by omega
  rw [←hl,List.take_length] at heq
  repeat refine aB ?_
  refine aID (k:=u) aA ?_
  (repeat refine aG ?_);refine nQ 5 (.blk pb [.slice qb bs.length cb] 70:: .blk pa [.slice qa rows.length ca] 34::M1) (iQ ⟨qe,ce,es⟩ u::aU bs u::dX rows u::aH q (recs eZ xs)::I0) [0,1,4,5,2,3,6,7,8,9,10] [4,4,5,5,0,0,0,0,0,0,0] aF aD mixed (by kernel_rfl) ?_
  repeat refine aB ?_
  refine gX (cs:=recs eL [⟨qe,ce,es⟩]) ([lv ⟨qe,ce,es⟩]) rfl (fun b7=>?_)
  refine wB (ys:=[⟨qe,ce,es⟩]) 1 rfl rfl rfl (fun qa2 ca2=>?_)
  (refine aQ rfl (hWr _ _) ?_;rintro _ _ _ ⟨rfl,e,rfl,he,rfl⟩;refine aL ?_)
  refine gX (cs:=recs eR [e]) ([rv e]) rfl (fun b8=>?_)
  refine wB (ys:=[e]) 3 rfl rfl rfl (fun qb2 cb2=>?_)
  repeat refine aB ?_
  refine dF (φ:=aU (bs++[e]) u) (Hv.snoc aA aA) ?_
  refine dF (φ:=dX (rows++[(⟨qe,ce,es⟩:RL)]) u) (Hv.snocL aA aA) ?_
  refine nH (by first|exact .inl rfl|exact .inr rfl) rfl _ _ aF aD (⟨qa2,qb2,ca2,cb2,⟨qe,ce,es⟩,e,heq,he,rfl,rfl⟩)
theorem tO {k:Nat} {l:List Q4} {s:Q4}:tN k (l++[s])=tN k l++[cz (dr1 k s),cz (dr2 k s)]:=by simp [tN]
theorem uT {k:Nat} {l:List Q4} {s:Q4}:dsB k (l++[s])=dsB k l++[(db1 k s:Rat),(db2 k s:Rat)]:=by simp [dsB]
theorem e16:2 ^ 16=65536:=rfl
theorem aSS {kd:Nat} {q:Option Addr} {l:List Q4} {n c:Nat} (hk:kd≤2) (hl:l.length=n) (hn:n≤64) (hs:∀s∈l,s.near) (hq:aH q (recs iL l)∈I0):
  CD Tryz.prog 186 [.int .i64 (kd:Int), .slice q n c] X w0 M0 I0 (fun v M I=>M0=M∧∃(A:MX) (b:RL),v= .tuple #[mv A,lv b]∧A.q=tN kd l∧b.q=dsB kd l∧I=iQ b 16::iB A 16::I0):=by
 refine aX (φ:=aH q (recs iL l)) (Hv.mem hq) ?_
 refine aN Tryz.func186 rfl Tryz.ntmps186 rfl ?_
 refine iH ?_
 refine dS (fun pa=>?_)
 refine dS (fun pb=>?_)
 repeat refine aB ?_
 refine iN 77 4 ?_
 refine iN 70 1 ?_
 refine bH (φ:=aU [] 16) Hv.nilR ?_
 refine bH (φ:=dX [] 16) Hv.nilL ?_
 refine lV [0,4,5,6,14,15] rfl (fun k G M I=>∃(i:Nat) (rows:List RL) (bs:List RE) (qa qb:Option Addr) (ca cb:Nat),i≤n∧k=n - i∧rows.map RL.q=tN kd (l.take i)∧qs bs=dsB kd (l.take i)∧G=[(16, .int .i64 i)]∧M= .row qa rows.length ca (recs eL rows) 70 1:: .row qb bs.length cb (recs eR bs) 77 4:: .blk pb [.slice qb bs.length cb] 70:: .blk pa [.slice qa rows.length ca] 34::M0∧I=dX rows 16::aU bs 16::aH q (recs iL l)::I0) (n) (⟨0,[],[],none,none,0,0,by omega,rfl,rfl,rfl,rfl,rfl,rfl⟩) ?_
 rintro kk G M I ⟨i,rows,bs,qa,qb,ca,cb,hi,rfl,hrq,hbq,rfl,rfl,rfl⟩
 have hlr:rows.length=2*i:=by have:=congrArg List.length hrq;rw [List.length_map,xB,List.length_take] at this;omega
 have hlb:bs.length=2*i:=by have:=congrArg List.length hbq;rw [show (qs bs).length=bs.length from List.length_map ..,vK,List.length_take] at this;omega
 by_cases hin:i < n
 ·have hmem:=bD (ms:=l) (i:=(i:Int)) (by omega)
  have ht:l.take (i+1)=l.take i++[gt l (i:Int)]:=by rw [gtQ (by omega)];exact (List.take_append_getElem (by omega)).symm
  obtain ⟨s,hss⟩:∃s,gt l (i:Int)=s:=⟨_,rfl⟩
  rw [hss] at hmem ht
  obtain ⟨n1,n2,n3,n4⟩:=hs s hmem
  repeat refine aB ?_
  rw [hss]
  refine dS (fun b8=>?_)
  repeat refine aB ?_
  (repeat refine aG ?_);refine dJ [0,1,2,3,4,5,6,7,8,9,10,11,12,13,14,15] [0,0,0,0,0,0,0,0,0,0,0,0,0,0,0,0] mixed (by kernel_rfl) ?_
  repeat refine aB ?_
  rcases (show kd=0∨kd=1∨kd=2 by omega) with h0|h0|h0
  ·obtain rfl:kd=0:=by omega
   have hr1:(-9223372036854775808≤s.u - s.x∧s.u - s.x≤9223372036854775807)∧(s.u - s.x).natAbs≤2 ^ 16:=by rw [e16];omega
   have hr2:(-9223372036854775808≤s.v - s.y∧s.v - s.y≤9223372036854775807)∧(s.v - s.y).natAbs≤2 ^ 16:=by rw [e16];omega
   have hx1:∀z∈[1,0],(-9223372036854775808≤z∧z≤9223372036854775807)∧z.natAbs≤2 ^ 16:=by rw [e16];intro z hz;simp only [List.mem_cons,List.not_mem_nil,or_false] at hz;omega
   have hx2:∀z∈[0,1],(-9223372036854775808≤z∧z≤9223372036854775807)∧z.natAbs≤2 ^ 16:=by rw [e16];intro z hz;simp only [List.mem_cons,List.not_mem_nil,or_false] at hz;omega
   repeat refine aB ?_
   refine gX (cs:=recs eZ [1,0]) ([.int .i64 (1), .int .i64 (0)]) rfl (fun b9=>?_)
   refine aI .here ?_
   refine yN (M':= .row qa rows.length ca (recs eL rows) 70 1:: .row qb bs.length cb (recs eR bs) 77 4:: .blk pb [.slice qb bs.length cb] 70:: .blk pa [.slice qa rows.length ca] 34::M0) (I':=aH (some ⟨b9,0,none⟩) (recs eZ [1,0])::dX rows 16::aU bs 16::aH q (recs iL l)::I0) aF aD ?_
   (refine eQ rfl rfl (xG (u:=16) (q:=some ⟨b9,0,none⟩) (xs:=[1,0]) (n:=2) (c:=2) (rows:=rows) (bs:=bs) (r:=s.u - s.x) rfl (by omega) ⟨by omega,by omega⟩ hx1 hr1 aA aA aA) rfl rfl rfl ?_;rintro _ _ _ ⟨qa1,qb1,ca1,cb1,x1,y1,hxq1,hyq1,rfl,rfl⟩;refine aL ?_)
   repeat refine aB ?_
   refine gX (cs:=recs eZ [0,1]) ([.int .i64 (0), .int .i64 (1)]) rfl (fun b10=>?_)
   refine aI .here ?_
   refine yN (M':= .row qa1 (rows++[x1]).length ca1 (recs eL (rows++[x1])) 70 1:: .row qb1 (bs++[y1]).length cb1 (recs eR (bs++[y1])) 77 4:: .blk pb [.slice qb1 (bs++[y1]).length cb1] 70:: .blk pa [.slice qa1 (rows++[x1]).length ca1] 34::M0) (I':=aH (some ⟨b10,0,none⟩) (recs eZ [0,1])::dX (rows++[x1]) 16::aU (bs++[y1]) 16::aH q (recs iL l)::I0) aF aD ?_
   (refine eQ rfl rfl (xG (u:=16) (q:=some ⟨b10,0,none⟩) (xs:=[0,1]) (n:=2) (c:=2) (rows:=rows++[x1]) (bs:=bs++[y1]) (r:=s.v - s.y) rfl (by omega) ⟨by simp;omega,by simp;omega⟩ hx2 hr2 aA aA aA) rfl rfl rfl ?_;rintro _ _ _ ⟨qa2,qb2,ca2,cb2,x2,y2,hxq2,hyq2,rfl,rfl⟩;refine aL ?_)
   repeat refine aB ?_
   refine gJ (n - (i+1)) (⟨i+1,rows++[x1]++[x2],bs++[y1]++[y2],qa2,qb2,ca2,cb2,by omega,rfl,by rw [ht,tO,←hrq,List.map_append,List.map_append,List.append_assoc];show _++[x1.q,x2.q]=_;rw [hxq1,hxq2];rfl,by rw [ht,uT,←hbq];show (bs++[y1]++[y2]).map RE.q=_;rw [List.map_append,List.map_append,List.append_assoc];show _++[y1.q,y2.q]=_;rw [hyq1,hyq2];rfl,rfl,rfl,rfl⟩)
  ·obtain rfl:kd=1:=by omega
   have hr1:(-9223372036854775808≤s.u∧s.u≤9223372036854775807)∧(s.u).natAbs≤2 ^ 16:=by rw [e16];omega
   have hr2:(-9223372036854775808≤s.v∧s.v≤9223372036854775807)∧(s.v).natAbs≤2 ^ 16:=by rw [e16];omega
   have hx1:∀z∈[s.x, -s.y,1,0],(-9223372036854775808≤z∧z≤9223372036854775807)∧z.natAbs≤2 ^ 16:=by rw [e16];intro z hz;simp only [List.mem_cons,List.not_mem_nil,or_false] at hz;omega
   have hx2:∀z∈[s.y,s.x,0,1],(-9223372036854775808≤z∧z≤9223372036854775807)∧z.natAbs≤2 ^ 16:=by rw [e16];intro z hz;simp only [List.mem_cons,List.not_mem_nil,or_false] at hz;omega
   repeat refine aB ?_
   rw [Int.zero_sub]
   refine gX (cs:=recs eZ [s.x, -s.y,1,0]) ([.int .i64 (s.x), .int .i64 (-s.y), .int .i64 (1), .int .i64 (0)]) rfl (fun b9=>?_)
   refine aI .here ?_
   refine yN (M':= .row qa rows.length ca (recs eL rows) 70 1:: .row qb bs.length cb (recs eR bs) 77 4:: .blk pb [.slice qb bs.length cb] 70:: .blk pa [.slice qa rows.length ca] 34::M0) (I':=aH (some ⟨b9,0,none⟩) (recs eZ [s.x, -s.y,1,0])::dX rows 16::aU bs 16::aH q (recs iL l)::I0) aF aD ?_
   (refine eQ rfl rfl (xG (u:=16) (q:=some ⟨b9,0,none⟩) (xs:=[s.x, -s.y,1,0]) (n:=4) (c:=4) (rows:=rows) (bs:=bs) (r:=s.u) rfl (by omega) ⟨by omega,by omega⟩ hx1 hr1 aA aA aA) rfl rfl rfl ?_;rintro _ _ _ ⟨qa1,qb1,ca1,cb1,x1,y1,hxq1,hyq1,rfl,rfl⟩;refine aL ?_)
   repeat refine aB ?_
   refine gX (cs:=recs eZ [s.y,s.x,0,1]) ([.int .i64 (s.y), .int .i64 (s.x), .int .i64 (0), .int .i64 (1)]) rfl (fun b10=>?_)
   refine aI .here ?_
   refine yN (M':= .row qa1 (rows++[x1]).length ca1 (recs eL (rows++[x1])) 70 1:: .row qb1 (bs++[y1]).length cb1 (recs eR (bs++[y1])) 77 4:: .blk pb [.slice qb1 (bs++[y1]).length cb1] 70:: .blk pa [.slice qa1 (rows++[x1]).length ca1] 34::M0) (I':=aH (some ⟨b10,0,none⟩) (recs eZ [s.y,s.x,0,1])::dX (rows++[x1]) 16::aU (bs++[y1]) 16::aH q (recs iL l)::I0) aF aD ?_
   (refine eQ rfl rfl (xG (u:=16) (q:=some ⟨b10,0,none⟩) (xs:=[s.y,s.x,0,1]) (n:=4) (c:=4) (rows:=rows++[x1]) (bs:=bs++[y1]) (r:=s.v) rfl (by omega) ⟨by simp;omega,by simp;omega⟩ hx2 hr2 aA aA aA) rfl rfl rfl ?_;rintro _ _ _ ⟨qa2,qb2,ca2,cb2,x2,y2,hxq2,hyq2,rfl,rfl⟩;refine aL ?_)
   repeat refine aB ?_
   refine gJ (n - (i+1)) (⟨i+1,rows++[x1]++[x2],bs++[y1]++[y2],qa2,qb2,ca2,cb2,by omega,rfl,by rw [ht,tO,←hrq,List.map_append,List.map_append,List.append_assoc];show _++[x1.q,x2.q]=_;rw [hxq1,hxq2];rfl,by rw [ht,uT,←hbq];show (bs++[y1]++[y2]).map RE.q=_;rw [List.map_append,List.map_append,List.append_assoc];show _++[y1.q,y2.q]=_;rw [hyq1,hyq2];rfl,rfl,rfl,rfl⟩)
  ·obtain rfl:kd=2:=by omega
   have hr1:(-9223372036854775808≤s.u∧s.u≤9223372036854775807)∧(s.u).natAbs≤2 ^ 16:=by rw [e16];omega
   have hr2:(-9223372036854775808≤s.v∧s.v≤9223372036854775807)∧(s.v).natAbs≤2 ^ 16:=by rw [e16];omega
   have hx1:∀z∈[s.x,s.y,1,0,0,0],(-9223372036854775808≤z∧z≤9223372036854775807)∧z.natAbs≤2 ^ 16:=by rw [e16];intro z hz;simp only [List.mem_cons,List.not_mem_nil,or_false] at hz;omega
   have hx2:∀z∈[0,0,0,s.x,s.y,1],(-9223372036854775808≤z∧z≤9223372036854775807)∧z.natAbs≤2 ^ 16:=by rw [e16];intro z hz;simp only [List.mem_cons,List.not_mem_nil,or_false] at hz;omega
   repeat refine aB ?_
   refine gX (cs:=recs eZ [s.x,s.y,1,0,0,0]) ([.int .i64 (s.x), .int .i64 (s.y), .int .i64 (1), .int .i64 (0), .int .i64 (0), .int .i64 (0)]) rfl (fun b9=>?_)
   refine aI .here ?_
   refine yN (M':= .row qa rows.length ca (recs eL rows) 70 1:: .row qb bs.length cb (recs eR bs) 77 4:: .blk pb [.slice qb bs.length cb] 70:: .blk pa [.slice qa rows.length ca] 34::M0) (I':=aH (some ⟨b9,0,none⟩) (recs eZ [s.x,s.y,1,0,0,0])::dX rows 16::aU bs 16::aH q (recs iL l)::I0) aF aD ?_
   (refine eQ rfl rfl (xG (u:=16) (q:=some ⟨b9,0,none⟩) (xs:=[s.x,s.y,1,0,0,0]) (n:=6) (c:=6) (rows:=rows) (bs:=bs) (r:=s.u) rfl (by omega) ⟨by omega,by omega⟩ hx1 hr1 aA aA aA) rfl rfl rfl ?_;rintro _ _ _ ⟨qa1,qb1,ca1,cb1,x1,y1,hxq1,hyq1,rfl,rfl⟩;refine aL ?_)
   repeat refine aB ?_
   refine gX (cs:=recs eZ [0,0,0,s.x,s.y,1]) ([.int .i64 (0), .int .i64 (0), .int .i64 (0), .int .i64 (s.x), .int .i64 (s.y), .int .i64 (1)]) rfl (fun b10=>?_)
   refine aI .here ?_
   refine yN (M':= .row qa1 (rows++[x1]).length ca1 (recs eL (rows++[x1])) 70 1:: .row qb1 (bs++[y1]).length cb1 (recs eR (bs++[y1])) 77 4:: .blk pb [.slice qb1 (bs++[y1]).length cb1] 70:: .blk pa [.slice qa1 (rows++[x1]).length ca1] 34::M0) (I':=aH (some ⟨b10,0,none⟩) (recs eZ [0,0,0,s.x,s.y,1])::dX (rows++[x1]) 16::aU (bs++[y1]) 16::aH q (recs iL l)::I0) aF aD ?_
   (refine eQ rfl rfl (xG (u:=16) (q:=some ⟨b10,0,none⟩) (xs:=[0,0,0,s.x,s.y,1]) (n:=6) (c:=6) (rows:=rows++[x1]) (bs:=bs++[y1]) (r:=s.v) rfl (by omega) ⟨by simp;omega,by simp;omega⟩ hx2 hr2 aA aA aA) rfl rfl rfl ?_;rintro _ _ _ ⟨qa2,qb2,ca2,cb2,x2,y2,hxq2,hyq2,rfl,rfl⟩;refine aL ?_)
   repeat refine aB ?_
   refine gJ (n - (i+1)) (⟨i+1,rows++[x1]++[x2],bs++[y1]++[y2],qa2,qb2,ca2,cb2,by omega,rfl,by rw [ht,tO,←hrq,List.map_append,List.map_append,List.append_assoc];show _++[x1.q,x2.q]=_;rw [hxq1,hxq2];rfl,by rw [ht,uT,←hbq];show (bs++[y1]++[y2]).map RE.q=_;rw [List.map_append,List.map_append,List.append_assoc];show _++[y1.q,y2.q]=_;rw [hyq1,hyq2];rfl,rfl,rfl,rfl⟩)
 ·obtain rfl:i=n:=by omega
  rw [←hl,List.take_length] at hrq hbq
  repeat refine aB ?_
  (repeat refine aG ?_);refine nQ 1 (.blk pb [.slice qb bs.length cb] 70::M0) (I0) [0,1,2,3] [0,1,0,0] aF aD mixed (by kernel_rfl) ?_
  repeat refine aB ?_
  refine aDZ (k:=16) aA ?_
  refine aIT (k:=16) aA ?_
  refine fF (rs:=[.cell 4 34, .cell 5 70]) (vs:=[mv ⟨qa,ca,rows⟩,lv ⟨qb,cb,bs⟩]) (.inl rfl) rfl (.cell inferInstance rfl aA (.cell inferInstance rfl aA .nil)) rfl M0 (iQ ⟨qb,cb,bs⟩ 16::iB ⟨qa,ca,rows⟩ 16::I0) aF aD ⟨rfl,⟨qa,ca,rows⟩,⟨qb,cb,bs⟩,rfl,hrq,hbq,rfl⟩
end
theorem sgnQ {q:Rat}:q.num.sign=0↔q=0:=by rw [Int.sign_eq_zero_iff_zero,Rat.num_eq_zero]
abbrev hdL (r:RL):HD:=⟨r.p,r.es.length,r.c⟩
theorem aUT (rows:List RL):recs eH (rows.map hdL)=recs eL rows:=by
 induction rows with
 |nil=>rfl
 |cons x r ih=>
  have h1:recs eH ((x::r).map hdL)=eH (hdL x)++recs eH (r.map hdL):=rfl
  have h2:recs eL (x::r)=eL x++recs eL r:=rfl
  rw [h1,h2,ih]
section
variable {P:Program} {n:Nat} {Q:Exit→Act→World→Prop} {G:Env} {X:List Nat} {w0:World} {M:List Ent} {I:List aM}
theorem aAJ {cd:Code} {b k C:Nat} {rows:List RL} {ty:TypeId} (hl:rows.length=C) (hC:C≤1000000) (ha:dX rows k∈I) (h:TD P n cd Q G X w0 M (iB ⟨some ⟨b,0,none⟩,C,rows⟩ k::I)):TD P n cd Q G X w0 (.blk b (recs eL rows) ty::M) I:=by
 subst hl
 refine uH (mm:=rows.length) 1 .here (by rw [fH]) (by omega) ?_
 exact aFP (fun _ hw=>Mem.toX hw ha) h
end
section
variable {X:List Nat} {w0:World} {M0 M1:List Ent} {I0:List aM}
theorem aLY {a:MX} {k:Nat} (hb:kb k 3≤20000000000) (hk0:k≤20000000000) (da:a.fit 3 3) (ha:iB a k∈I0):CD Tryz.prog 188 [mv a] X w0 M0 I0 (fun v M I=>M0=M∧I0=I∧v= .bool (B (dt 3 (at2 a.q)≠0))):=by
 have hD:=fun M0 I0 h=>aCA (X:=X) (w0:=w0) (M0:=M0) (I0:=I0) (a:=a) (n:=3) (k0:=k) hb hk0 da h
 have hr:=da.1.1
 refine aS Tryz.func188 rfl Tryz.ntmps188 rfl ?_
 repeat refine aB ?_
 (refine aQ rfl (hD _ _ aA) ?_;rintro _ _ _ ⟨rfl,e,rfl,he,rfl⟩;refine aL ?_)
 repeat refine aB ?_
 refine dS (fun b3=>?_)
 repeat refine aB ?_
 refine dK rfl (nD (e:=e) (k:=kb k 3) (by omega) (Hv.mem aA)) ?_
 repeat refine aB ?_
 refine fB (M':=M0) (I':=I0) aF aD ?_
 refine aP (by first|exact .inl rfl|exact .inr rfl) rfl rfl _ _ aF aD (⟨rfl,rfl,congrArg Value.bool (iG (by rw [←he];exact not_congr sgnQ))⟩)
theorem aRW {kd k:Nat} {x:RL} (hk:kd≤2) (hkk:k≤100000000000) (hl:x.es.length=mI kd) (hx:iQ x k∈I0):CD Tryz.prog 187 [.int .i64 (kd:Int),lv x] X w0 M0 I0 (XQ (frm kd x.q) 3 3 k M0 I0):=by
 have hW0:=fun M0 I0=>jG (X:=X) (w0:=w0) (M0:=M0) (I0:=I0) (x:=0) (by decide) (k:=0) (by decide)
 have hW1:=fun M0 I0=>jG (X:=X) (w0:=w0) (M0:=M0) (I0:=I0) (x:=1) (by decide) (k:=0) (by decide)
 have hq:∀i:Nat,i < mI kd→x.q.getD i 0=(gt x.es (i:Int)).q:=fun i hi=>iM (by omega)
 refine aX (φ:=aH x.p (recs eR x.es)) (Hv.lsl hx) (aX (φ:=iQ x k) (Hv.mem (List.mem_cons_of_mem _ hx)) ?_)
 refine aN Tryz.func187 rfl Tryz.ntmps187 rfl ?_
 rcases (show kd=0∨kd=1∨kd=2 by omega) with h0|h0|h0
 ·obtain rfl:kd=0:=h0
  have hl2:x.es.length=2:=hl
  have q0:=hq 0 (by decide)
  have q1:=hq 1 (by decide)
  repeat refine aB ?_
  (repeat refine aG ?_);refine qQ (M0) (iQ x k::aH x.p (recs eR x.es)::I0) [2,3,4,8,9,10,0,1,5,6,7,11,12,13] [5,5,5,5,5,5,0,0,2,0,0,0,0,0] mixed ?_
  repeat refine aB ?_
  (refine aQ rfl (hW1 _ _) ?_;rintro _ _ _ ⟨rfl,e0,rfl,he0,rfl⟩;refine aL ?_)
  repeat refine aB ?_
  (refine aQ rfl (hW0 _ _) ?_;rintro _ _ _ ⟨rfl,e1,rfl,he1,rfl⟩;refine aL ?_)
  repeat refine aB ?_
  (refine aC rfl (fun _=>dL (vals:=[rv e0,rv e1,rv (gt x.es 0)]) (cells:=recs eR [e0,e1,gt x.es 0]) rfl ?hpl rfl ?hz) rfl rfl ?_;(case hpl=>exact (by intro v hv;repeat (first|exact absurd hv (List.not_mem_nil)|(rcases List.mem_cons.1 hv with rfl|hv; · rfl))));(case hz=>rfl))
  repeat refine aB ?_
  (refine aQ rfl (hW0 _ _) ?_;rintro _ _ _ ⟨rfl,e2,rfl,he2,rfl⟩;refine aL ?_)
  repeat refine aB ?_
  (refine aQ rfl (hW1 _ _) ?_;rintro _ _ _ ⟨rfl,e3,rfl,he3,rfl⟩;refine aL ?_)
  repeat refine aB ?_
  (refine aC rfl (fun _=>dL (vals:=[rv e2,rv e3,rv (gt x.es 1)]) (cells:=recs eR [e2,e3,gt x.es 1]) rfl ?hpl rfl ?hz) rfl rfl ?_;(case hpl=>exact (by intro v hv;repeat (first|exact absurd hv (List.not_mem_nil)|(rcases List.mem_cons.1 hv with rfl|hv; · rfl))));(case hz=>rfl))
  repeat refine aB ?_
  (refine aQ rfl (aER (a:=⟨e0,e1,gt x.es 0⟩) (b:=⟨e2,e3,gt x.es 1⟩) (k:=k) (Hv.mkT (Hv.q (k:=0) aA (Nat.zero_le _)) (Hv.q (k:=0) aA (Nat.zero_le _)) (Hv.lel (r:=x) (k:=k) aA ⟨by omega,by omega⟩)) (Hv.mkT (Hv.q (k:=0) aA (Nat.zero_le _)) (Hv.q (k:=0) aA (Nat.zero_le _)) (Hv.lel (r:=x) (k:=k) aA ⟨by omega,by omega⟩))) ?_;rintro _ _ _ ⟨rfl,m,rfl,hm,dm,rfl⟩;refine aL ?_)
  repeat refine aB ?_
  refine fB (M':=M0) (I':=iB m k::I0) aF aD ?_
  refine aP (by first|exact .inl rfl|exact .inr rfl) rfl rfl _ _ aF aD (⟨rfl,m,rfl,by rw [hm,he0,he1,he2,he3];unfold frm;rw [if_pos rfl,q0,q1];rfl,dm,rfl⟩)
 ·obtain rfl:kd=1:=h0
  have hl2:x.es.length=4:=hl
  have q0:=hq 0 (by decide)
  have q1:=hq 1 (by decide)
  have q2:=hq 2 (by decide)
  have q3:=hq 3 (by decide)
  have hN:=fun M0 I0 h=>aHT (X:=X) (w0:=w0) (M0:=M0) (I0:=I0) (e:=gt x.es 1) (k:=k) (by omega) h
  repeat refine aB ?_
  (repeat refine aG ?_);refine qQ (M0) (iQ x k::aH x.p (recs eR x.es)::I0) [0,1,2,3,4,5,7,8,9,11,12,13,14,15,16,17,18,19,20,6,10,21,22] [2,2,2,2,2,1,2,2,2,2,2,2,2,2,2,2,2,2,1,0,0,0,0] mixed ?_
  repeat refine aB ?_
  (refine aC rfl (fun _=>dL (vals:=[rv (gt x.es 1),rv (gt x.es 0),rv (gt x.es 3)]) (cells:=recs eR [gt x.es 1,gt x.es 0,gt x.es 3]) rfl ?hpl rfl ?hz) rfl rfl ?_;(case hpl=>exact (by intro v hv;repeat (first|exact absurd hv (List.not_mem_nil)|(rcases List.mem_cons.1 hv with rfl|hv; · rfl))));(case hz=>rfl))
  repeat refine aB ?_
  (refine aQ rfl (hN _ _ (Hv.lel (r:=x) (k:=k) aA ⟨by omega,by omega⟩)) ?_;rintro _ _ _ ⟨rfl,e1,rfl,he1,rfl⟩;refine aL ?_)
  repeat refine aB ?_
  (refine aC rfl (fun _=>dL (vals:=[rv (gt x.es 0),rv e1,rv (gt x.es 2)]) (cells:=recs eR [gt x.es 0,e1,gt x.es 2]) rfl ?hpl rfl ?hz) rfl rfl ?_;(case hpl=>exact (by intro v hv;repeat (first|exact absurd hv (List.not_mem_nil)|(rcases List.mem_cons.1 hv with rfl|hv; · rfl))));(case hz=>rfl))
  repeat refine aB ?_
  (refine aQ rfl (aER (a:=⟨gt x.es 0,e1,gt x.es 2⟩) (b:=⟨gt x.es 1,gt x.es 0,gt x.es 3⟩) (k:=k) (Hv.mkT (Hv.lel (r:=x) (k:=k) aA ⟨by omega,by omega⟩) (Hv.mem aA) (Hv.lel (r:=x) (k:=k) aA ⟨by omega,by omega⟩)) (Hv.mkT (Hv.lel (r:=x) (k:=k) aA ⟨by omega,by omega⟩) (Hv.lel (r:=x) (k:=k) aA ⟨by omega,by omega⟩) (Hv.lel (r:=x) (k:=k) aA ⟨by omega,by omega⟩))) ?_;rintro _ _ _ ⟨rfl,m,rfl,hm,dm,rfl⟩;refine aL ?_)
  repeat refine aB ?_
  refine fB (M':=M0) (I':=iB m k::I0) aF aD ?_
  refine aP (by first|exact .inl rfl|exact .inr rfl) rfl rfl _ _ aF aD (⟨rfl,m,rfl,by rw [hm,he1];unfold frm;rw [if_neg (by decide),if_pos rfl,q0,q1,q2,q3];rfl,dm,rfl⟩)
 ·obtain rfl:kd=2:=h0
  have hl2:x.es.length=6:=hl
  have q0:=hq 0 (by decide)
  have q1:=hq 1 (by decide)
  have q2:=hq 2 (by decide)
  have q3:=hq 3 (by decide)
  have q4:=hq 4 (by decide)
  have q5:=hq 5 (by decide)
  repeat refine aB ?_
  (repeat refine aG ?_);refine qQ (M0) (iQ x k::aH x.p (recs eR x.es)::I0) [0,1,2,3,4,5,6,7,8,9,10,11,12,13,14,15,16,17,18,19,20,21] [1,1,1,1,1,1,1,1,1,0,1,1,1,1,1,1,1,1,1,0,0,0] mixed ?_
  repeat refine aB ?_
  (refine aC rfl (fun _=>dL (vals:=[rv (gt x.es 0),rv (gt x.es 1),rv (gt x.es 2)]) (cells:=recs eR [gt x.es 0,gt x.es 1,gt x.es 2]) rfl ?hpl rfl ?hz) rfl rfl ?_;(case hpl=>exact (by intro v hv;repeat (first|exact absurd hv (List.not_mem_nil)|(rcases List.mem_cons.1 hv with rfl|hv; · rfl))));(case hz=>rfl))
  repeat refine aB ?_
  (refine aC rfl (fun _=>dL (vals:=[rv (gt x.es 3),rv (gt x.es 4),rv (gt x.es 5)]) (cells:=recs eR [gt x.es 3,gt x.es 4,gt x.es 5]) rfl ?hpl rfl ?hz) rfl rfl ?_;(case hpl=>exact (by intro v hv;repeat (first|exact absurd hv (List.not_mem_nil)|(rcases List.mem_cons.1 hv with rfl|hv; · rfl))));(case hz=>rfl))
  repeat refine aB ?_
  (refine aQ rfl (aER (a:=⟨gt x.es 0,gt x.es 1,gt x.es 2⟩) (b:=⟨gt x.es 3,gt x.es 4,gt x.es 5⟩) (k:=k) (Hv.mkT (Hv.lel (r:=x) (k:=k) aA ⟨by omega,by omega⟩) (Hv.lel (r:=x) (k:=k) aA ⟨by omega,by omega⟩) (Hv.lel (r:=x) (k:=k) aA ⟨by omega,by omega⟩)) (Hv.mkT (Hv.lel (r:=x) (k:=k) aA ⟨by omega,by omega⟩) (Hv.lel (r:=x) (k:=k) aA ⟨by omega,by omega⟩) (Hv.lel (r:=x) (k:=k) aA ⟨by omega,by omega⟩))) ?_;rintro _ _ _ ⟨rfl,m,rfl,hm,dm,rfl⟩;refine aL ?_)
  repeat refine aB ?_
  refine fB (M':=M0) (I':=iB m k::I0) aF aD ?_
  refine aP (by first|exact .inl rfl|exact .inr rfl) rfl rfl _ _ aF aD (⟨rfl,m,rfl,by rw [hm];unfold frm;rw [if_neg (by decide),if_neg (by decide),q0,q1,q2,q3,q4,q5];rfl,dm,rfl⟩)
end
end Go.Proofs.YtmmmfphealhapaaGreat
