/- Drawn regions whose order forks more than once: what is left of a region as an end. -/
import Derived.Test.YthhldplegmeolaaGreatZuaf
import Derived.Test.YthhldplegmeolaaGreatZuao
import Derived.Test.YthhldplegmeolaaGreatZual
set_option linter.unusedSimpArgs false
set_option linter.unusedVariables false
set_option maxRecDepth 100000
set_option maxHeartbeats 4000000
namespace Go.Fx
def Rest (P:Program) (l:List Oper) (Q:Exit→Act→World→Prop) (Cs:Nat→World→Prop) (fuel k:Nat) (listed:Array Bool):Exit→Act→World→Prop
 | .normal,a,w=>mV P l.toArray Q Cs fuel k listed a w
 |_,_,_=>False
section
variable {P:Program} {n:Nat} {Q:Exit→Act→World→Prop} {G:Env} {w:World} {l:List Oper} {Cs:Nat→World→Prop}
theorem tY {fuel fuel' k:Nat} {listed listed':Array Bool} (p ms:List Nat) (hm:∀s w,Cs s w→Cs (s+1) w) (hs:Region.noSelect l.toArray=true) (hok:kW l.toArray p ms listed=some listed') (hf:fuel'=fuel+p.length) (hsz:listed.size=l.toArray.size) (hC:Cs k w)
  (h:R P n l (Rest P l Q Cs fuel (k+vT l.toArray p) listed') (.any Cs k ms) (pick l p) G w):N n (Rest P l Q Cs fuel' k listed) .normal G w:=⟨fun a ha=>by
 subst hf
 exact oM hm hs p ms k listed a w hC hsz hok (fun _ _ _ _ hq=>hq) (h.go a ha)⟩
theorem aBS {fuel k:Nat} {listed:Array Bool} (p ms:List Nat) (hm:∀s w,Cs s w→Cs (s+1) w) (hs:Region.noSelect l.toArray=true) (hok:fM l.toArray p ms listed=true) (hf:fuel=p.length) (hsz:listed.size=l.toArray.size) (hC:Cs k w)
  (h:R P n l Q (.any Cs k ms) (pick l p) G w):N n (Rest P l Q Cs fuel k listed) .normal G w:=⟨fun a ha=>by
 subst hf
 exact gX hm hs p ms k listed a w hC hsz hok (h.go a ha)⟩
theorem aFS {fuel k i:Nat} {listed:Array Bool} {o:Oper} {a:Act} (hi:l.toArray[i]?=some o) (hk:dE o.op=false)
  (h:wpM P l.toArray (Rest P l Q Cs fuel (k+1) (listed.setIfInBounds i true)) (.any Cs k []) (pick l [i]) a w):
  wpOp P l.toArray QF i (fun a' w'=>Cs (k+eAt l.toArray i) w'∧mV P l.toArray Q Cs fuel (k+eAt l.toArray i) (listed.setIfInBounds i true) a' w') a w:=by
 have hg:nth l i=o:=aCS l i o (by simpa using hi)
 simp only [pick,hg] at h
 rw [vX hi hk]
 unfold wpOp
 simp only [hi]
 by_cases hw:Region.wanted o (yielded l.toArray a.tmps)=true
 ·rw [if_pos hw]
  rcases h.1 hw with ⟨hk2,_⟩|⟨_,hk2⟩
  ·rw [hk] at hk2;cases hk2
  ·exact .inl (Oper.wp_mono (fun a' w' ⟨h1,h2⟩=>⟨h1,h2⟩) hk2)
 ·rw [if_neg hw]
  obtain ⟨hh1,hh2⟩:=h.2 (by simpa using hw)
  simp only [Mode.held,hk,cond_false] at hh1
  exact ⟨hh1,hh2⟩
def aEZ (ops:Array Oper) (i:Nat):Bool:=
 match ops[i]? with
 |some o=> !dE o.op
 |none=>false
theorem yR {fuel k i j:Nat} {listed:Array Bool} (hr:(Region.ready .any l.toArray listed==[i,j] && aEZ l.toArray i && aEZ l.toArray j)=true)
  (h1:R P n l (Rest P l Q Cs fuel (k+1) (listed.setIfInBounds i true)) (.any Cs k []) (pick l [i]) G w)
  (h2:R P n l (Rest P l Q Cs fuel (k+1) (listed.setIfInBounds j true)) (.any Cs k []) (pick l [j]) G w):N n (Rest P l Q Cs (fuel+1) k listed) .normal G w:=⟨fun a ha=>by
 simp only [Bool.and_eq_true,beq_iff_eq] at hr
 obtain ⟨⟨hr,e1⟩,e2⟩:=hr
 have get:∀x,aEZ l.toArray x=true→∃o,l.toArray[x]?=some o∧dE o.op=false:=fun x hx=>by
  unfold aEZ at hx
  cases ho:l.toArray[x]? with
  |none=>simp [ho] at hx
  |some o=>simp [ho] at hx;exact ⟨o,rfl,hx⟩
 obtain ⟨o1,ho1,hk1⟩:=get i e1
 obtain ⟨o2,ho2,hk2⟩:=get j e2
 refine ⟨fun h0=>(by rw [hr] at h0;cases h0),fun x hx=>?_⟩
 rw [hr] at hx
 simp only [List.mem_cons,List.not_mem_nil,or_false] at hx
 rcases hx with rfl|rfl
 ·exact aFS ho1 hk1 (h1.go a ha)
 ·exact aFS ho2 hk2 (h2.go a ha)⟩
theorem aMX {id:Nat} (Cs:Nat→World→Prop) (hx:P.follows .mixedOrders=true) (h:N n (Rest P l Q Cs l.length 0 (Array.replicate l.length false)) .normal G w.drew):T P n (.region id l.toArray true) Q G w:=⟨fun a ha=>by
 refine wp_region_any hx ?_
 have:=h.go a ha
 have e:l.toArray.size=l.length:=by simp
 rw [e]
 exact oJ _ _ _ _ _ this⟩
end
section
variable {P:Program} {n:Nat} {Q:Exit→Act→World→Prop} {G:Env} {X:List Nat} {w0:World} {M M1:List Ent} {I I1:List aN} {l:List Oper}
theorem pF {id:Nat} (M1:List Ent) (I1:List aN) (hx:P.follows .mixedOrders=true) (h:ND n (Rest P l Q (wV X w0 M1 I1) l.length 0 (Array.replicate l.length false)) .normal G X w0 M I):TD P n (.region id l.toArray true) Q G X w0 M I:=
 ⟨fun w hw=>aMX (wV X w0 M1 I1) hx (h.go w.drew hw.drew)⟩
theorem jT {fuel fuel' k:Nat} {listed listed':Array Bool} (p ms:List Nat) (hM:SubP M M1) (hI:Inc I I1) (hs:Region.noSelect l.toArray=true) (hok:kW l.toArray p ms listed=some listed') (hf:fuel'=fuel+p.length) (hsz:listed.size=l.toArray.size)
  (h:RD P n l (Rest P l Q (wV X w0 M1 I1) fuel (k+vT l.toArray p) listed') (.any (wV X w0 M1 I1) k ms) (pick l p) G X w0 M I):ND n (Rest P l Q (wV X w0 M1 I1) fuel' k listed) .normal G X w0 M I:=
 ⟨fun w hw=>tY p ms (fun _ _ h=>h) hs hok hf hsz (hw.weak hM hI) (h.go w hw)⟩
theorem bF {fuel k:Nat} {listed:Array Bool} (p ms:List Nat) (hM:SubP M M1) (hI:Inc I I1) (hs:Region.noSelect l.toArray=true) (hok:fM l.toArray p ms listed=true) (hf:fuel=p.length) (hsz:listed.size=l.toArray.size)
  (h:RD P n l Q (.any (wV X w0 M1 I1) k ms) (pick l p) G X w0 M I):ND n (Rest P l Q (wV X w0 M1 I1) fuel k listed) .normal G X w0 M I:=
 ⟨fun w hw=>aBS p ms (fun _ _ h=>h) hs hok hf hsz (hw.weak hM hI) (h.go w hw)⟩
theorem bW {fuel k i j:Nat} {listed:Array Bool} (hr:(Region.ready .any l.toArray listed==[i,j] && aEZ l.toArray i && aEZ l.toArray j)=true)
  (h1:RD P n l (Rest P l Q (wV X w0 M1 I1) fuel (k+1) (listed.setIfInBounds i true)) (.any (wV X w0 M1 I1) k []) (pick l [i]) G X w0 M I)
  (h2:RD P n l (Rest P l Q (wV X w0 M1 I1) fuel (k+1) (listed.setIfInBounds j true)) (.any (wV X w0 M1 I1) k []) (pick l [j]) G X w0 M I):ND n (Rest P l Q (wV X w0 M1 I1) (fuel+1) k listed) .normal G X w0 M I:=
 ⟨fun w hw=>yR hr (h1.go w hw) (h2.go w hw)⟩
end
end Go.Fx
namespace Go.Fx
section
variable {P:Program} {n:Nat} {G:Env} {ty:TypeId} {C:World→Prop}
end
def PlOk (place:Nat→Option (Nat × Nat)):Nat→Nat→List Value→Prop
 |_,_,[]=>True
 |k,off,v::r=>place k=some (off,v.cells.size)∧PlOk place (k+1) (off+v.cells.size) r
def cellsOf' (vals:List Value):List Value:=vals.flatMap (fun v=>v.cells.toList)
section
variable {P:Program} {n:Nat} {G:Env} {ty:TypeId} {C:World→Prop}
end
theorem tC {P:Program} {n:Nat} {G:Env} {ty:TypeId} {C:World→Prop} {t t':TypeId} {x y:Operand} {a b:Bool} [ht:BoolTy P t] (hx:ev G x=some (.bool a)) (hy:ev G y=some (.bool b)):
  Const P n G (.binOp .neq t x y t') ty C (.bool (!(a==b))):=by
 refine ⟨?_⟩
 intro s ha dst pos after guard w _
 have e1:(eqGuard .neq t x y (.bool a) (.bool b)).run P w= .ok () w:=rfl
 simp only [execOp,ha.ev hx,ha.ev hy,Sem.run_bind,e1,Result.andThen_ok,run_neq_bool _ t a b ht.und,Sem.run_pure]
theorem AtsZ.n8 {cs:List Value} {o:Nat} {a b c d e f g h:Value} (h0:cs[o]?=some a) (h1:cs[o+1]?=some b) (h2:cs[o+2]?=some c) (h3:cs[o+3]?=some d) (h4:cs[o+4]?=some e) (h5:cs[o+5]?=some f) (h6:cs[o+6]?=some g) (h7:cs[o+7]?=some h):AtsZ cs o [a,b,c,d,e,f,g,h] 8:=⟨⟨fun j v hj=>by
 match j,hj with
 |0,hj=>simp at hj;subst hj;exact h0
 |1,hj=>simp at hj;subst hj;exact h1
 |2,hj=>simp at hj;subst hj;exact h2
 |3,hj=>simp at hj;subst hj;exact h3
 |4,hj=>simp at hj;subst hj;exact h4
 |5,hj=>simp at hj;subst hj;exact h5
 |6,hj=>simp at hj;subst hj;exact h6
 |7,hj=>simp at hj;subst hj;exact h7
 |j+8,hj=>simp at hj⟩,rfl⟩
theorem atY {cs vs:List Value} {o sz:Nat} (h:AtsZ cs o vs sz:=by first|(with_reducible refine AtsZ.r ?_;exact jE)|(with_reducible refine AtsZ.r2 ?_ ?_ ?_;exact jE;rfl;rfl)|(with_reducible refine AtsZ.r4 ?_ ?_ ?_ ?_ ?_;exact jE;rfl;rfl;rfl;rfl)|exact AtsZ.all rfl|exact AtsZ.n2 rfl rfl|exact AtsZ.n4 rfl rfl rfl rfl|exact AtsZ.n8 rfl rfl rfl rfl rfl rfl rfl rfl|(refine AtsZ.r ?_;exact jE)|(refine AtsZ.app ?_;refine AtsZ.r ?_;exact jE)):AtsZ cs o vs sz:=h
end Go.Fx
namespace Go.Proofs.YthhldplegmeolaaGreat
open Go Go.Fx
structure PE where
 x:RE
 y:RE
instance:Inhabited PE:=⟨⟨default,default⟩⟩
abbrev eP (p:PE):List Value:=[.bool (B (p.x.q.num < 0)), .slice p.x.p1 (gr p.x.q.num.natAbs).length p.x.c1, .bool (B ((p.x.q.den:Int) < 0)), .slice p.x.p2 (gr (p.x.q.den:Int).natAbs).length p.x.c2, .bool (B (p.y.q.num < 0)), .slice p.y.p1 (gr p.y.q.num.natAbs).length p.y.c1, .bool (B ((p.y.q.den:Int) < 0)), .slice p.y.p2 (gr (p.y.q.den:Int).natAbs).length p.y.c2]
abbrev pv (p:PE):Value:= .agg #[.bool (B (p.x.q.num < 0)), .slice p.x.p1 (gr p.x.q.num.natAbs).length p.x.c1, .bool (B ((p.x.q.den:Int) < 0)), .slice p.x.p2 (gr (p.x.q.den:Int).natAbs).length p.x.c2, .bool (B (p.y.q.num < 0)), .slice p.y.p1 (gr p.y.q.num.natAbs).length p.y.c1, .bool (B ((p.y.q.den:Int) < 0)), .slice p.y.p2 (gr (p.y.q.den:Int).natAbs).length p.y.c2]
instance:Sized eP 8:=⟨fun _=>rfl⟩
instance:Ones eP:=⟨fun m u hu=>by
 simp only [eP,List.mem_cons,List.not_mem_nil,or_false] at hu
 rcases hu with rfl|rfl|rfl|rfl|rfl|rfl|rfl|rfl <;>rfl⟩
def PE.v (p:PE):V2:=⟨p.x.q,p.y.q⟩
structure IsP (p:PE) (k:Nat) (X:List Nat) (w:World):Prop where
 x:IsR p.x k X w
 y:IsR p.y k X w
abbrev isP (p:PE) (k:Nat):aN:=IsP p k
instance (p:PE) (k:Nat):Fx.Good (IsP p k):=⟨fun X Y w w' h he hY=>⟨Fx.Good.go (φ:=IsR _ _) X Y w w' h.x he hY,Fx.Good.go (φ:=IsR _ _) X Y w w' h.y he hY⟩⟩
def PQ (q:V2) (k:Nat) (M0:List Ent) (I0:List aN) (v:Value) (M:List Ent) (I:List aN):Prop:=M0=M∧∃p:PE,v=pv p∧p.v=q∧I=isP p k::I0
section
variable {n:Nat} {Q:Exit→Act→World→Prop} {G:Env} {X:List Nat} {w0:World} {M:List Ent} {I:List aN}
end
section
variable {X:List Nat} {w0:World} {M0:List Ent} {I0:List aN}
end
structure PW where
 x:RW
 y:RW
instance:Inhabited PW:=⟨⟨default,default⟩⟩
abbrev ePW (p:PW):List Value:=[.bool p.x.n1, .slice p.x.p1 p.x.g1.length p.x.c1, .bool p.x.n2, .slice p.x.p2 p.x.g2.length p.x.c2, .bool p.y.n1, .slice p.y.p1 p.y.g1.length p.y.c1, .bool p.y.n2, .slice p.y.p2 p.y.g2.length p.y.c2]
abbrev pvW (p:PW):Value:= .agg #[.bool p.x.n1, .slice p.x.p1 p.x.g1.length p.x.c1, .bool p.x.n2, .slice p.x.p2 p.x.g2.length p.x.c2, .bool p.y.n1, .slice p.y.p1 p.y.g1.length p.y.c1, .bool p.y.n2, .slice p.y.p2 p.y.g2.length p.y.c2]
instance:Sized ePW 8:=⟨fun _=>rfl⟩
instance:Ones ePW:=⟨fun m u hu=>by
 simp only [ePW,List.mem_cons,List.not_mem_nil,or_false] at hu
 rcases hu with rfl|rfl|rfl|rfl|rfl|rfl|rfl|rfl <;>rfl⟩
def PE.raw (p:PE):PW:=⟨p.x.raw,p.y.raw⟩
def RW.small (r:RW):Prop:=r.g1.length≤1000000000∧r.g2.length≤1000000000
def PW.small (p:PW):Prop:=p.x.small∧p.y.small
def PW.good (p:PW):Prop:=p.x.good∧p.y.good
instance PW.decG (p:PW):Decidable p.good:=by unfold PW.good;exact inferInstance
structure IsPW (p:PW) (X:List Nat) (w:World):Prop where
 x:IsW p.x X w
 y:IsW p.y X w
abbrev isPW (p:PW):aN:=IsPW p
instance (p:PW):Fx.Good (IsPW p):=⟨fun X Y w w' h he hY=>⟨Fx.Good.go (φ:=IsW _) X Y w w' h.x he hY,Fx.Good.go (φ:=IsW _) X Y w w' h.y he hY⟩⟩
structure AllW (rs:List RW) (X:List Nat) (w:World):Prop where
 go:∀r∈rs,IsW r X w
abbrev allW (rs:List RW):aN:=AllW rs
instance (rs:List RW):Fx.Good (AllW rs):=⟨fun X Y w w' h he hY=>⟨fun r hm=>Fx.Good.go (φ:=IsW _) X Y w w' (h.go r hm) he hY⟩⟩
structure AllPW (ps:List PW) (X:List Nat) (w:World):Prop where
 go:∀p∈ps,IsPW p X w
abbrev allPW (ps:List PW):aN:=AllPW ps
instance (ps:List PW):Fx.Good (AllPW ps):=⟨fun X Y w w' h he hY=>⟨fun r hm=>Fx.Good.go (φ:=IsPW _) X Y w w' (h.go r hm) he hY⟩⟩
theorem aPV {P:Program} {f:FuncId} {vs:List Value} {X:List Nat} {w0:World} {M:List Ent} {I:List aN} {K:Value→List Ent→List aN→Prop} {φ:Prop} (h:∀w,Mem X w0 M I w→φ) (k:φ→CD P f vs X w0 M I K):CD P f vs X w0 M I K:=⟨fun w hw=>(k (h w hw)).go w hw⟩
section
variable {X:List Nat} {w0:World} {M0:List Ent} {I0:List aN}
end
end Go.Proofs.YthhldplegmeolaaGreat
namespace Go.Proofs.YthhldplegmeolaaGreat
open Go Go.Fx
structure C4 where
 a:Value
 b:Value
 c:Value
 d:Value
abbrev e4 (x:C4):List Value:=[x.a,x.b,x.c,x.d]
instance:Inhabited C4:=⟨⟨.bool false, .slice none 0 0, .bool false, .slice none 0 0⟩⟩
instance:Sized e4 4:=⟨fun _=>rfl⟩
abbrev z4:C4:=⟨.bool false, .slice none 0 0, .bool false, .slice none 0 0⟩
abbrev t4 (e:RE):C4:=⟨.bool (B (e.q.num < 0)), .slice e.p1 (gr e.q.num.natAbs).length e.c1, .bool (B ((e.q.den:Int) < 0)), .slice e.p2 (gr (e.q.den:Int).natAbs).length e.c2⟩
theorem aDC (es:List RE):recs e4 (es.map t4)=recs eR es:=by
 induction es with
 |nil=>rfl
 |cons x r ih=>
  have h1:recs e4 ((x::r).map t4)=e4 (t4 x)++recs e4 (r.map t4):=rfl
  have h2:recs eR (x::r)=eR x++recs eR r:=rfl
  rw [h1,h2,ih]
structure HD where
 p:Option Addr
 n:Nat
 c:Nat
instance:Inhabited HD:=⟨⟨none,0,0⟩⟩
abbrev eH (h:HD):List Value:=[.slice h.p h.n h.c]
instance:Sized eH 1:=⟨fun _=>rfl⟩
structure MR where
 b:Nat
 es:List RE
instance:Inhabited MR:=⟨⟨0,[]⟩⟩
abbrev hdM (r:MR):HD:=⟨some ⟨r.b,0,none⟩,r.es.length,r.es.length⟩
abbrev eM (r:MR):List Value:=[.slice (some ⟨r.b,0,none⟩) r.es.length r.es.length]
instance:Sized eM 1:=⟨fun _=>rfl⟩
abbrev eQ (r:MR):Ent:= .blk r.b (recs eR r.es) 36
theorem aNL (rows:List MR):recs eH (rows.map hdM)=recs eM rows:=by
 induction rows with
 |nil=>rfl
 |cons x r ih=>
  have h1:recs eH ((x::r).map hdM)=eH (hdM x)++recs eH (r.map hdM):=rfl
  have h2:recs eM (x::r)=eM x++recs eM r:=rfl
  rw [h1,h2,ih]
structure AllM (rows:List MR) (k:Nat) (X:List Nat) (w:World):Prop where
 go:∀r∈rows,∀e∈r.es,IsR e k X w
abbrev allM (rows:List MR) (k:Nat):aN:=AllM rows k
instance (rows:List MR) (k:Nat):Fx.Good (AllM rows k):=⟨fun X Y w w' h he hY=>⟨fun r hr e hm=>Fx.Good.go (φ:=IsR _ _) X Y w w' (h.go r hr e hm) he hY⟩⟩
theorem Hv.snoc {I:List aN} {es:List RE} {e:RE} {k:Nat} (h1:aX es k∈I) (h2:bE e k∈I):Hv I (aX (es++[e]) k):=⟨fun X w hw=>⟨fun x hx=>by
 rcases List.mem_append.1 hx with hx|hx
 ·exact (hw _ h1:AllR es k X w).go x hx
 ·rw [List.mem_singleton.1 hx];exact hw _ h2⟩⟩
theorem Hv.nilR {I:List aN} {k:Nat}:Hv I (aX [] k):=⟨fun X w _=>⟨fun x hx=>by simp at hx⟩⟩
theorem Hv.nilM {I:List aN} {k:Nat}:Hv I (allM [] k):=⟨fun X w _=>⟨fun x hx=>by simp at hx⟩⟩
theorem Hv.snocM {I:List aN} {rows:List MR} {r:MR} {k:Nat} (h1:allM rows k∈I) (h2:aX r.es k∈I):Hv I (allM (rows++[r]) k):=⟨fun X w hw=>⟨fun x hx=>by
 rcases List.mem_append.1 hx with hx|hx
 ·exact (hw _ h1:AllM rows k X w).go x hx
 ·rw [List.mem_singleton.1 hx];exact (hw _ h2:AllR r.es k X w).go⟩⟩
theorem rJ {α:Type} [Inhabited α] {A B:List α} {x:α} {i:Int} (h:i=A.length):gt (A++x::B) i=x:=by
 subst h
 rw [eY (by simp)]
 simp
theorem yO {α:Type} {A B:List α} {x y:α} {i:Int} (h:i=A.length):st (A++x::B) i y=A++y::B:=by
 subst h
 simp [st]
theorem qM {α:Type} {n:Nat} {z:α} (h:0 < n):List.replicate n z=z::List.replicate (n - 1) z:=by
 obtain ⟨m,rfl⟩:∃m,n=m+1:=⟨n - 1,by omega⟩
 rfl
theorem oF {α:Type} {enc:α→List Value} {sz:Nat} [h:Sized enc sz] (hsz:0 < sz) (zz:α) (mm:Nat):(madeCells (enc zz).toArray (mm*sz)).toList=recs enc (List.replicate mm zz):=by
 have hl:(enc zz).length=sz:=h.len zz
 apply List.ext_getElem
 ·rw [Array.length_toList,size_madeCells,fH,List.length_replicate]
 ·intro i h1 h2
  rw [Array.length_toList,size_madeCells] at h1
  have hq:i / sz < mm:=by rw [Nat.div_lt_iff_lt_mul hsz];exact h1
  have hr:i % sz < sz:=Nat.mod_lt _ hsz
  have hv:(enc zz)[i % sz]?=some ((enc zz)[i % sz]'(by omega)):=List.getElem?_eq_getElem (by omega)
  have:=aAA (enc:=enc) (List.replicate mm zz) (i / sz) (i % sz) zz _ (by rw [List.getElem?_replicate,if_pos hq]) hv
  rw [Nat.div_add_mod'] at this
  have h3:=(List.getElem?_eq_some_iff.1 this).2
  rw [h3]
  simp [madeCells,hl,hr]
def MkP (R C:Nat) (F:Nat→Nat→Rat) (k:Nat) (M0:List Ent) (I0:List aN) (v:Value) (M:List Ent) (I:List aN):Prop:=
 ∃(bo:Nat) (rows:List MR),v= .slice (some ⟨bo,0,none⟩) R R∧rows.length=R∧(∀r∈rows,r.es.length=C)∧(rows.map (fun r=>r.es.map (·.q))=(List.range R).map (fun i=>(List.range C).map (F i)))∧
  M= .blk bo (recs eM rows) 24::(rows.map eQ++M0)∧I=allM rows k::I0
section
variable {P:Program} {n:Nat} {Q:Exit→Act→World→Prop} {G:Env} {X:List Nat} {w0:World} {M M':List Ent} {I:List aN}
theorem oC {ex:Exit} (h:M.Perm M') (k:ND n Q ex G X w0 M' I):ND n Q ex G X w0 M I:=rU (fun _ hw=>hw.perm h) k
theorem nX {c:Code} (h:M.Perm M') (k:TD P n c Q G X w0 M' I):TD P n c Q G X w0 M I:=aCN (fun _ hw=>hw.perm h) k
theorem yC {ops l:List Oper} {m:Fx.Mode} (h:M.Perm M') (k:RD P n ops Q m l G X w0 M' I):RD P n ops Q m l G X w0 M I:=mO (fun _ hw=>hw.perm h) k
theorem aKH {x o:Ent} {A B:List Ent}:(x::o::(A++B)).Perm (o::((A++[x])++B)):=by
 refine (List.Perm.swap _ _ _).trans (List.Perm.cons _ ?_)
 rw [List.append_assoc]
 exact List.perm_middle.symm
end
section
variable {X:List Nat} {w0:World} {M0:List Ent} {I0:List aN}
theorem zT {g:FuncId} [FnOk Tryz.prog g] {fs cs:Array Value} {R C k0:Nat} (hR:R≤100) (hC:C≤200) (F:Nat→Nat→Rat)
  (hg:∀M I,(∀φ∈I0,φ∈I)→∀i j:Nat,i < R→j < C→CD Tryz.prog g (fs.toList++[.int .i64 (i:Int), .int .i64 (j:Int)]++cs.toList) X w0 M I (RQ (F i j) k0 M I)):
  CD Tryz.prog 104 [.int .i64 (R:Int), .int .i64 (C:Int), .func (.func g) fs cs] X w0 M0 I0 (MkP R C F k0 M0 I0):=by
 refine iC Tryz.func104 rfl Tryz.ntmps104 rfl ?_
 repeat refine aM ?_
 (refine iD (R) rfl rfl (by omega) (by omega) (by omega) (by omega) (oF (enc:=eH) (by decide) ⟨none,0,0⟩ R) rfl rfl ?_;intro bo;refine aU ?_)
 refine iA (φ:=allM [] k0) Hv.nilM ?_
 repeat refine aM ?_
 refine pU [1,2,7,13] rfl (fun k G M I=>∃(i:Nat) (rows:List MR),i≤R∧k=R - i∧rows.length=i∧(∀r∈rows,r.es.length=C)∧(rows.map (fun r=>r.es.map (·.q))=(List.range i).map (fun i=>(List.range C).map (F i)))∧G=[(14, .int .i64 i)]∧M= .blk bo (recs eH (rows.map hdM++List.replicate (R - i) ⟨none,0,0⟩)) 24::(rows.map eQ++M0)∧I=allM rows k0::I0) (R) (⟨0,[],by omega,by omega,rfl,by simp,by simp,rfl,rfl,rfl⟩) ?_
 rintro k G M I ⟨i,rows,hi,rfl,hrl,hrc,hrF,rfl,rfl,rfl⟩
 by_cases hiR:i < R
 ·have hz:=qM (n:=R - i) (z:=(⟨none,0,0⟩:HD)) (by omega)
  repeat refine aM ?_
  (refine iD (C) rfl rfl (by omega) (by omega) (by omega) (by omega) (oF (enc:=e4) (by decide) z4 C) rfl rfl ?_;intro bi;refine aU ?_)
  rw [hz]
  have hlh0:((rows.map hdM++(⟨none,0,0⟩:HD)::List.replicate (R - i - 1) ⟨none,0,0⟩).length:Int)=R:=by simp;omega
  repeat refine yXf ?_
  refine nS rfl rfl rfl mW (StAt.r1 (⟨some ⟨bi,0,none⟩,C,C⟩:HD) (by omega) rfl) rfl rfl ⟨okF,?_⟩
  rw [yO (by simp;omega)]
  obtain ⟨hs,hhs⟩:∃hs,hs=rows.map hdM++(⟨some ⟨bi,0,none⟩,C,C⟩:HD)::List.replicate (R - i - 1) ⟨none,0,0⟩:=⟨_,rfl⟩
  rw [←hhs]
  have hgh:gt hs (i:Int)=⟨some ⟨bi,0,none⟩,C,C⟩:=by rw [hhs];exact rJ (by simp;omega)
  have hlh:hs.length=R:=by rw [hhs];simp;omega
  have hgp:(gt hs (i:Int)).p=some ⟨bi,0,none⟩:=by rw [hgh]
  have hgn:(gt hs (i:Int)).n=C:=by rw [hgh]
  have hgc:(gt hs (i:Int)).c=C:=by rw [hgh]
  repeat refine aM ?_
  rw [hgp,hgn,hgc]
  refine bN (φ:=aX [] k0) Hv.nilR ?_
  refine pU [1,2,7,8,13,14,26] rfl (fun k G M I=>∃(j:Nat) (es:List RE),j≤C∧k=C - j∧es.length=j∧es.map (·.q)=(List.range j).map (F i)∧G=[(27, .int .i64 j)]∧M= .blk bi (recs e4 (es.map t4++List.replicate (C - j) z4)) 36:: .blk bo (recs eH hs) 24::(rows.map eQ++M0)∧I=aX es k0::allM rows k0::I0) (C) (⟨0,[],by omega,by omega,rfl,rfl,rfl,rfl,rfl⟩) ?_
  rintro k G M I ⟨j,es,hj,rfl,hel,heF,rfl,rfl,rfl⟩
  by_cases hjC:j < C
  ·have hz2:=qM (n:=C - j) (z:=z4) (by omega)
   rw [hz2]
   have hl2:((es.map t4++z4::List.replicate (C - j - 1) z4).length:Int)=C:=by simp;omega
   repeat refine aM ?_
   (repeat refine aF ?_);refine aS 1 [0,1,2,3,4,5,6,7,8,9,10] [1,1,1,1,1,0,0,0,0,0,0] mixed (by kernel_rfl) ?_
   repeat refine aM ?_
   rw [hgp,hgn,hgc]
   (refine fT rfl rfl (hg _ _ (fun φ h=>List.Mem.tail _ (List.Mem.tail _ h)) i j hiR hjC) rfl rfl rfl ?_;rintro _ _ _ ⟨rfl,e,rfl,he,rfl⟩;refine aU ?_)
   repeat refine yXf ?_
   refine iG (vs:=eR e) rfl rfl rfl (Ones.one e) mW (StAts.r (t4 e) (by omega) rfl) rfl rfl ⟨okF,?_⟩
   rw [yO (by simp;omega)]
   repeat refine aM ?_
   refine bX (φ:=aX (es++[e]) k0) (Hv.snoc aA aA) ?_
   have e9:es.map t4++t4 e::List.replicate (C - j - 1) z4=(es++[e]).map t4++List.replicate (C - (j+1)) z4:=by simp [Nat.sub_sub]
   rw [e9]
   refine lN (C - (j+1)) (⟨j+1,es++[e],by omega,rfl,by simp;omega,by simp [heF,List.range_succ,he],rfl,rfl,rfl⟩)
  ·obtain rfl:j=C:=by omega
   rw [Nat.sub_self,List.replicate_zero,List.append_nil,aDC]
   have e8:hs=(rows++[(⟨bi,es⟩:MR)]).map hdM++List.replicate (R - (i+1)) ⟨none,0,0⟩:=by rw [hhs];simp [hel,Nat.sub_sub]
   repeat refine aM ?_
   rw [e8]
   refine bX (φ:=allM (rows++[(⟨bi,es⟩:MR)]) k0) (Hv.snocM aA aA) ?_
   refine oC (M':= .blk bo (recs eH ((rows++[(⟨bi,es⟩:MR)]).map hdM++List.replicate (R - (i+1)) ⟨none,0,0⟩)) 24::((rows++[(⟨bi,es⟩:MR)]).map eQ++M0)) (by rw [List.map_append (f:=eQ)];exact aKH) ?_
   refine lN (R - (i+1)) (⟨i+1,rows++[(⟨bi,es⟩:MR)],by omega,rfl,by simp;omega,fun r hr=>by rcases List.mem_append.1 hr with h|h;exact hrc r h;rw [List.mem_singleton.1 h];exact hel,by rw [List.map_append,hrF,List.range_succ,List.map_append];simp [heF],rfl,rfl,rfl⟩)
 ·obtain rfl:i=R:=by omega
  have hz:List.replicate (i - i) (⟨none,0,0⟩:HD)=[]:=by rw [Nat.sub_self];rfl
  rw [hz,List.append_nil,aNL]
  repeat refine aM ?_
  refine iZ rfl rfl (⟨bo,rows,rfl,hrl,hrc,hrF,rfl,rfl⟩)
end
end Go.Proofs.YthhldplegmeolaaGreat
namespace Go.Proofs.YthhldplegmeolaaGreat
open Go Go.Fx
theorem oW (q:Rat):q.num.sign=0↔q=0:=⟨fun h=>Rat.num_eq_zero.1 (Int.sign_eq_zero_iff_zero.1 h),fun h=>by rw [h];rfl⟩
theorem Hv.stR {I:List aN} {es:List RE} {e:RE} {i:Int} {k:Nat} (h1:aX es k∈I) (h2:bE e k∈I):Hv I (aX (st es i e) k):=⟨fun X w hw=>⟨fun x hx=>by
 rcases List.mem_or_eq_of_mem_set hx with hx|hx
 ·exact (hw _ h1:AllR es k X w).go x hx
 ·rw [hx];exact hw _ h2⟩⟩
theorem oN {es:List RE} {e:RE} {i t:Nat} (hi:i < es.length):gt (st es (i:Int) e) (t:Int)=if t=i then e else gt es (t:Int):=by
 rw [aLW e ⟨by omega,by omega⟩ (by omega)]
 by_cases h:t=i
 ·rw [if_pos h,if_pos (by omega)]
 ·rw [if_neg h,if_neg (by omega)]
section
variable {X:List Nat} {w0:World} {M0:List Ent} {I0:List aN}
theorem aPX {i j:Int}:CD Tryz.prog 105 [.int .i64 i, .int .i64 j] X w0 M0 I0 (RQ (if i=j then 1 else 0) 0 M0 I0):=by
 have h1:=fun M0 I0=>kU (X:=X) (w0:=w0) (M0:=M0) (I0:=I0) (x:=1) (by decide) (k:=0) (by decide)
 have h0:=fun M0 I0=>kU (X:=X) (w0:=w0) (M0:=M0) (I0:=I0) (x:=0) (by decide) (k:=0) (by decide)
 refine aP Tryz.func105 rfl Tryz.ntmps105 rfl ?_
 refine fG ?_
 refine dG (fun b2=>?_)
 by_cases h:i=j
 ·rw [if_pos h]
  repeat refine aM ?_
  refine gT rfl (h1 _ _) (fun e he=>?_)
  repeat refine aM ?_
  refine aR (cs:=eR e) (.inl rfl) rfl rfl aA rfl M0 (bE e 0::I0) aK aJ ⟨rfl,e,rfl,he,rfl⟩
 ·rw [if_neg h]
  repeat refine aM ?_
  refine gT rfl (h0 _ _) (fun e he=>?_)
  repeat refine aM ?_
  refine aR (cs:=eR e) (.inl rfl) rfl rfl aA rfl M0 (bE e 0::I0) aK aJ ⟨rfl,e,rfl,he,rfl⟩
theorem aFG {a b:RE} {k m:Nat} (hk:k+m≤500000000000) (hb0:b.q≠0) (ha:Hv I0 (bE a k)) (hb:Hv I0 (bE b m)):
  CD Tryz.prog 138 [rv a,rv b] X w0 M0 I0 (RQ (a.q / b.q) (k+m) M0 I0):=by
 refine aP Tryz.func138 rfl Tryz.ntmps138 rfl ?_
 refine fG ?_
 refine fQ rfl (fun b1=>?_)
 refine fQ rfl (fun b2=>?_)
 refine dG (fun b3=>?_)
 repeat refine aM ?_
 (refine bA rfl (rQ hk hb0 ha hb) ?_;rintro _ _ _ ⟨rfl,e,rfl,he,rfl⟩;refine aU ?_)
 repeat refine aM ?_
 refine dG (fun b4=>?_)
 repeat refine aM ?_
 refine aR (cs:=eR e) (.inl rfl) rfl rfl aA rfl M0 (bE e (k+m)::I0) aK aJ ⟨rfl,e,rfl,he,rfl⟩
theorem aEN {b1 b2:Nat} {es os:List RE} {κ:RE} {kz h m fr n:Nat} {M1:List Ent} (hn:n≤1000) (hK:kz+(m+h)+1≤400000000000) (hes:es.length=n) (hos:os.length=n) (hfr:fr≤n)
  (he:aX es kz∈I0) (ho:aX os h∈I0) (hκ:bE κ m∈I0) (hM:M0= .blk b1 (recs eR es) 36:: .blk b2 (recs eR os) 36::M1):
  CD Tryz.prog 139 [.slice (some ⟨b1,0,none⟩) n n, .slice (some ⟨b2,0,none⟩) n n,rv κ, .int .i64 (fr:Int)] X w0 M0 I0 (fun v M I=>v= .tuple #[]∧∃es':List RE,es'.length=n∧(∀t:Nat,t < n→(gt es' (t:Int)).q=if t < fr then (gt es (t:Int)).q else (gt es (t:Int)).q - κ.q*(gt os (t:Int)).q)∧M= .blk b1 (recs eR es') 36:: .blk b2 (recs eR os) 36::M1∧I=aX es' (kz+(m+h)+1)::I0):=by
 subst hM
 refine tQ Tryz.func139 rfl Tryz.ntmps139 rfl ?_
 refine fG ?_
 refine fQ rfl (fun bk=>?_)
 repeat refine aM ?_
 refine bN (φ:=aX es (kz+(m+h)+1)) (Hv.allMono he (by omega)) ?_
 refine pU [0,1,6] rfl (fun k G M I=>∃(j:Nat) (e1:List RE),fr≤j∧j≤n∧k=n - j∧e1.length=n∧(∀t:Nat,j≤t→gt e1 (t:Int)=gt es (t:Int))∧(∀t:Nat,t < j→(gt e1 (t:Int)).q=if t < fr then (gt es (t:Int)).q else (gt es (t:Int)).q - κ.q*(gt os (t:Int)).q)∧G=[(8, .int .i64 j)]∧M= .blk bk (eR κ) 36:: .blk b1 (recs eR e1) 36:: .blk b2 (recs eR os) 36::M1∧I=aX e1 (kz+(m+h)+1)::I0) (n - fr) (⟨fr,es,by omega,hfr,rfl,hes,fun _ _=>rfl,fun t ht=>by rw [if_pos ht],rfl,rfl,rfl⟩) ?_
 rintro kk G M I ⟨j,e1,hj1,hj,rfl,hel,hkeep,hdone,rfl,rfl,rfl⟩
 by_cases hjn:j < n
 ·have hgj:gt e1 (j:Int)=gt es (j:Int):=hkeep j (Nat.le_refl _)
  have hvj:Hv (aX e1 (kz+(m+h)+1)::I0) (bE (gt os (j:Int)) h):=(Hv.all (i:=(j:Int)) ho (by omega) (Nat.le_refl _)).cons
  have hve:Hv (aX e1 (kz+(m+h)+1)::I0) (bE (gt e1 (j:Int)) kz):=by rw [hgj];exact (Hv.all (i:=(j:Int)) he (by omega) (Nat.le_refl _)).cons
  have hvk:Hv (aX e1 (kz+(m+h)+1)::I0) (bE κ m):=(Hv.mem hκ).cons
  have hS:=jS (X:=X) (w0:=w0) (M0:= .blk bk (eR κ) 36:: .blk b1 (recs eR e1) 36:: .blk b2 (recs eR os) 36::M1) (e:=gt os (j:Int)) (k:=h) (by omega) hvj
  by_cases h0:(gt os (j:Int)).q=0
  ·rw [(oW _).2 h0] at hS
   repeat refine aM ?_
   (refine bA rfl (hS) ?_;rintro _ _ _ ⟨rfl,rfl,rfl⟩;refine aU ?_)
   repeat refine aM ?_
   refine lN (n - (j+1)) (⟨j+1,e1,by omega,by omega,rfl,hel,fun t ht=>hkeep t (by omega),fun t ht=>?_,rfl,rfl,rfl⟩)
   by_cases htj:t=j
   ·subst htj
    rw [if_neg (by omega),hgj,h0,Rat.mul_zero,Rat.sub_eq_add_neg,Rat.neg_zero,Rat.add_zero]
   ·exact hdone t (by omega)
  ·have hs0:¬(gt os (j:Int)).q.num.sign=0:=fun h=>h0 ((oW _).1 h)
   generalize (gt os (j:Int)).q.num.sign=sg at*
   repeat refine aM ?_
   (refine bA rfl (hS) ?_;rintro _ _ _ ⟨rfl,rfl,rfl⟩;refine aU ?_)
   repeat refine aM ?_
   (repeat refine aF ?_);refine aS 2 [0,1,2,3,4,5,6,7,8,9,10,11,12,13,14] [2,2,2,2,2,1,1,2,2,2,1,0,0,0,0] mixed (by kernel_rfl) ?_
   repeat refine aM ?_
   refine gT rfl (jX (k:=m) (m:=h) (by omega) hvk hvj) (fun e2 he2=>?_)
   refine gT rfl (yH (k:=kz) (m:=m+h) (by omega) hve.cons (Hv.mem (List.Mem.head _))) (fun e3 he3=>?_)
   repeat refine yXf ?_
   refine iG (vs:=eR e3) rfl rfl rfl (Ones.one e3) mW (StAts.r e3 (by omega) rfl) rfl rfl ⟨okF,?_⟩
   repeat refine aM ?_
   refine bX (φ:=aX (st e1 (j:Int) e3) (kz+(m+h)+1)) (Hv.stR aA aA) ?_
   refine lN (n - (j+1)) (⟨j+1,st e1 (j:Int) e3,by omega,by omega,rfl,by rw [bP];exact hel,fun t ht=>?_,fun t ht=>?_,rfl,rfl,rfl⟩)
   ·rw [oN (by omega),if_neg (by omega)];exact hkeep t (by omega)
   ·rw [oN (by omega)]
    by_cases htj:t=j
    ·subst htj
     rw [if_pos rfl,if_neg (by omega),he3,he2,hgj]
    ·rw [if_neg htj];exact hdone t (by omega)
 ·obtain rfl:j=n:=by omega
  repeat refine aM ?_
  refine aHQ (by first|exact .inl rfl|exact .inr rfl) rfl _ _ aK aJ (⟨rfl,e1,hel,hdone,rfl,rfl⟩)
end
end Go.Proofs.YthhldplegmeolaaGreat
namespace Go.Proofs.YthhldplegmeolaaGreat
open Go Go.Fx
abbrev Mt:=List (List Rat)
def rowAt (A:Mt) (i:Nat):List Rat:=A.getD i []
def at2 (A:Mt) (i j:Nat):Rat:=(rowAt A i).getD j 0
def swp (A:Mt) (r k:Nat):Mt:=(A.set r (rowAt A k)).set k (rowAt A r)
def gJ (j:Nat) (κ:Rat) (l:List Rat):List Rat:=l.mapIdx (fun c x=>if c < j then x else κ*x)
def nJ (j:Nat) (κ:Rat) (p:List Rat) (l:List Rat):List Rat:=l.mapIdx (fun c x=>if c < j then x else x - κ*p.getD c 0)
def lZ (A:Mt) (j:Nat):Nat→Nat→Nat
 |0,k=>k
 |f+1,k=>if k < A.length∧at2 A k j=0 then lZ A j f (k+1) else k
def tL (A:Mt) (r j:Nat) (pr:List Rat):Mt:=A.mapIdx (fun i row=>if i=r then row else if row.getD j 0=0 then row else nJ j (row.getD j 0) pr row)
def vW (A:Mt) (r j k:Nat):Mt:=
 tL ((swp A r k).set r (gJ j (1 / at2 (swp A r k) r j) (rowAt (swp A r k) r))) r j (gJ j (1 / at2 (swp A r k) r j) (rowAt (swp A r k) r))
def aOK (s:Mt × List Nat) (j:Nat):Mt × List Nat:=
 if lZ s.1 j (s.1.length - s.2.length) s.2.length < s.1.length then (vW s.1 s.2.length j (lZ s.1 j (s.1.length - s.2.length) s.2.length),s.2++[j]) else s
def nZ (A:Mt) (n:Nat):Mt × List Nat:=(List.range n).foldl aOK (A,[])
theorem wS (A:Mt) (n:Nat):nZ A (n+1)=aOK (nZ A n) n:=by
 unfold nZ
 rw [List.range_succ,List.foldl_append]
 rfl
abbrev qs (es:List RE):List Rat:=es.map (·.q)
abbrev mq (rows:List MR):Mt:=rows.map (fun r=>qs r.es)
theorem dM {α:Type} [Inhabited α] {ms:List α} {i:Nat} (h:i < ms.length):gt ms (i:Int)=ms[i]:=eY h
theorem rZ {rows:List MR} {i:Nat} (h:i < rows.length):rowAt (mq rows) i=qs (gt rows (i:Int)).es:=by
 unfold rowAt
 rw [dM h]
 simp [List.getD,h]
theorem bT {es:List RE} {j:Nat} (h:j < es.length):(qs es).getD j 0=(gt es (j:Int)).q:=by
 rw [dM h]
 simp [List.getD,h]
theorem aDG {rows:List MR} {i j:Nat} (h:i < rows.length) (hj:j < (gt rows (i:Int)).es.length):at2 (mq rows) i j=(gt (gt rows (i:Int)).es (j:Int)).q:=by
 unfold at2
 rw [rZ h,bT hj]
theorem aGL {rows:List MR} {i:Nat} {r:MR}:mq (rows.set i r)=(mq rows).set i (qs r.es):=by simp [List.map_set]
theorem aFL {A:Mt} {j:Nat}:∀(f k:Nat),k+f=A.length→k≤lZ A j f k∧lZ A j f k≤A.length∧(lZ A j f k < A.length→at2 A (lZ A j f k) j≠0)
 |0,k,h=>⟨Nat.le_refl _,by simp [lZ];omega,fun h'=>by simp [lZ] at h';omega⟩
 |f+1,k,h=>by
  unfold lZ
  by_cases hc:k < A.length∧at2 A k j=0
  ·rw [if_pos hc]
   obtain ⟨h1,h2,h3⟩:=aFL (A:=A) (j:=j) f (k+1) (by omega)
   exact ⟨by omega,h2,h3⟩
  ·rw [if_neg hc]
   exact ⟨Nat.le_refl _,by omega,fun hk h0=>hc ⟨hk,h0⟩⟩
/- permutations -/
theorem nC {α:Type}:∀(l:List α) (i:Nat) (h:i < l.length),l.Perm (l[i]::l.eraseIdx i)
 |[],_,h=>by simp at h
 |x::r,0,_=>by simp
 |x::r,i+1,h=>by
  have ih:=nC r i (by simpa using h)
  simp only [List.getElem_cons_succ,List.eraseIdx_cons_succ]
  exact (List.Perm.cons _ ih).trans (List.Perm.swap _ _ _)
def mH {α:Type} (l:List α) (i j:Nat):List α:=(l.eraseIdx (max i j)).eraseIdx (min i j)
theorem sG {α:Type} (l:List α) (i j:Nat) (hi:i < l.length) (hj:j < l.length) (hij:i≠j):l.Perm (l[i]::l[j]::mH l i j):=by
 rcases Nat.lt_or_ge i j with h|h
 ·have e1:max i j=j:=by omega
  have e2:min i j=i:=by omega
  unfold mH
  rw [e1,e2]
  have h1:=nC l j hj
  have hl:i < (l.eraseIdx j).length:=by rw [List.length_eraseIdx_of_lt hj];omega
  have h2:=nC (l.eraseIdx j) i hl
  rw [List.getElem_eraseIdx_of_lt hl h] at h2
  exact (h1.trans (List.Perm.cons _ h2)).trans (List.Perm.swap _ _ _)
 ·have e1:max i j=i:=by omega
  have e2:min i j=j:=by omega
  unfold mH
  rw [e1,e2]
  have h1:=nC l i hi
  have hl:j < (l.eraseIdx i).length:=by rw [List.length_eraseIdx_of_lt hi];omega
  have h2:=nC (l.eraseIdx i) j hl
  rw [List.getElem_eraseIdx_of_lt hl (by omega)] at h2
  exact h1.trans (List.Perm.cons _ h2)
theorem wU {α:Type} (l:List α) (i j:Nat) (x:α) (hij:i≠j):mH (l.set i x) i j=mH l i j:=by
 unfold mH
 rcases Nat.lt_or_ge i j with h|h
 ·have e1:max i j=j:=by omega
  have e2:min i j=i:=by omega
  rw [e1,e2]
  apply List.ext_getElem?
  intro n
  simp only [List.getElem?_eraseIdx,List.getElem?_set]
  split <;>split <;>(try split) <;>first|rfl|omega
 ·have e1:max i j=i:=by omega
  rw [e1,List.eraseIdx_set_eq]
theorem aAL {α:Type} (l:List α) (i:Nat) (x:α):(l.set i x).eraseIdx i=l.eraseIdx i:=List.eraseIdx_set_eq ..
theorem xJ {rows:List MR} {i:Nat} {es:List RE} (hi:i < rows.length) (hl:es.length=(gt rows (i:Int)).es.length):recs eM (rows.set i ⟨(gt rows (i:Int)).b,es⟩)=recs eM rows:=by
 have h1:=jP (enc:=eM) rows i ⟨(gt rows (i:Int)).b,es⟩ hi
 rw [←h1]
 have e:eM ⟨(gt rows (i:Int)).b,es⟩=eM (gt rows (i:Int)):=by simp [eM,hl]
 rw [e,jP (enc:=eM) rows i _ hi,dM hi,List.set_getElem_self]
end Go.Proofs.YthhldplegmeolaaGreat
