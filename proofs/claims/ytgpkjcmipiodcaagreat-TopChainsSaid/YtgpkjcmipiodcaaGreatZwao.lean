/- fraction: Add, Sub, Mul, Divide, Compare fiducialref01: magnitudes: group, made, plus, min -/
import Derived.Test.YtgpkjcmipiodcaaGreatZwan
import Derived.Test.YtgpkjcmipiodcaaGreatZwam
import Derived.Test.YtgpkjcmipiodcaaGreatZwai
import Derived.Test.YtgpkjcmipiodcaaGreatZwah
import Derived.Test.YtgpkjcmipiodcaaGreatZwaf
import Derived.Test.YtgpkjcmipiodcaaGreatZwaj
import Derived.Test.YtgpkjcmipiodcaaGreatZwal
set_option linter.unusedSimpArgs false
set_option linter.unusedVariables false
set_option maxRecDepth 100000
set_option maxHeartbeats 4000000
namespace Go.Proofs.YtgpkjcmipiodcaaGreat
open Go Go.Fx
theorem aNI (k m:Nat):2 ^ (k+m)+2 ^ (m+k)≤2 ^ (k+m+1):=by
 rw [Nat.add_comm m k,Nat.pow_succ];omega
theorem zP (q:Rat):(0:Int) < q.den:=by have:=q.den_nz;omega
theorem yD (p q:Rat):((p.den:Int)*q.den)≠0:=by
 have:=Int.mul_pos (zP p) (zP q);omega
theorem aLT {p q:Rat} (h:q≠0):((p.den:Int)*q.num)≠0:=fun h0=>by
 rcases Int.mul_eq_zero.1 h0 with h1|h1
 ·exact absurd h1 (by have:=zP p;omega)
 ·exact h (Rat.num_eq_zero.1 h1)
section
variable {X:List Nat} {w0:World} {M0:List Ent} {I0:List aV}
theorem uL {a b:RE} {k m:Nat} (hk:k+m+1≤500000000000) (ha:Hv I0 (cK a k)) (hb:Hv I0 (cK b m)):
  CD Tryz.prog 79 [rv a,rv b] X w0 M0 I0 (RQ (a.q+b.q) (k+m+1) M0 I0):=by
 refine aP Tryz.func79 rfl Tryz.ntmps79 rfl ?_
 refine fE ?_
 refine fG rfl (fun b1=>?_)
 refine fG rfl (fun b2=>?_)
 refine bG (fun b3=>?_)
 repeat refine aW ?_
 (repeat refine aJ ?_);refine aO 2 [0,2,1,3,4,5] [1,2,0,0,0,0] mixed (by kernel_rfl) ?_
 repeat refine aW ?_
 refine iG rfl (nW (k:=k) (by omega) ha) (fun x hx=>?_)
 repeat refine aW ?_
 refine iG rfl (nW (k:=m) (by omega) hb.cons) (fun y hy=>?_)
 refine jK (e:=x) (k:=k) (Hv.mem (List.Mem.tail _ (List.Mem.head _))) ?_
 refine jK (e:=y) (k:=m) (Hv.mem (List.Mem.tail _ (List.Mem.tail _ (List.Mem.head _)))) ?_
 rw [←hx,←hy]
 have hM1:=fun u v M0 I0=>sZ (X:=X) (w0:=w0) (M0:=M0) (I0:=I0) (u:=u) (v:=v) (y:=x.q.num) (z:=y.q.den) (k:=k) (m:=m) (by omega)
 have hM2:=fun u v M0 I0=>sZ (X:=X) (w0:=w0) (M0:=M0) (I0:=I0) (u:=u) (v:=v) (y:=y.q.num) (z:=x.q.den) (k:=m) (m:=k) (by omega)
 have hM3:=fun u v M0 I0=>sZ (X:=X) (w0:=w0) (M0:=M0) (I0:=I0) (u:=u) (v:=v) (y:=x.q.den) (z:=y.q.den) (k:=k) (m:=m) (by omega)
 have hA:=fun u v M0 I0=>aUL (X:=X) (w0:=w0) (M0:=M0) (I0:=I0) (u:=u) (v:=v) (y:=x.q.num*y.q.den) (z:=y.q.num*x.q.den) (k:=k+m) (m:=m+k) (c:=k+m+1) (by omega) (by omega) (by omega) (aNI k m)
 have hR:=fun u v M0 I0=>vD (X:=X) (w0:=w0) (M0:=M0) (I0:=I0) (u:=u) (v:=v) (n:=x.q.num*y.q.den+y.q.num*x.q.den) (d:=x.q.den*y.q.den) (k:=k+m+1) (by omega) (yD _ _)
 rw [←uT] at hR
 repeat refine aW ?_
 (repeat refine aJ ?_);refine vT (.blk b2 (eR y) 40:: .blk b1 (eR x) 40::M0) (I0) [0,1,2,3,5,6,7,8,11,12,13,14,4,9,10,15,16,17] [5,4,5,4,5,4,5,4,5,4,5,4,0,0,0,0,0,0] mixed ?_
 repeat refine aW ?_
 (refine aU rfl (hM1 _ _ _ _ aA aA) ?_;rintro _ _ _ ⟨rfl,rfl⟩;refine aL ?_)
 (refine aU rfl (hM2 _ _ _ _ aA aA) ?_;rintro _ _ _ ⟨rfl,rfl⟩;refine aL ?_)
 (refine aU rfl (hA _ _ _ _ aA aA) ?_;rintro _ _ _ ⟨rfl,rfl⟩;refine aL ?_)
 (refine aU rfl (hM3 _ _ _ _ aA aA) ?_;rintro _ _ _ ⟨rfl,rfl⟩;refine aL ?_)
 refine aED (k2:=k+m+1) (List.Mem.head _) (by omega) ?_
 refine iG rfl (hR _ _ _ _ aA aA) (fun e he=>?_)
 repeat refine aW ?_
 refine bA (cs:=eR e) (.inl rfl) rfl rfl aA rfl M0 (cK e (k+m+1)::I0) aG aF ⟨rfl,e,rfl,he,rfl⟩
theorem zB {a b:RE} {k m:Nat} (hk:k+m+1≤500000000000) (ha:Hv I0 (cK a k)) (hb:Hv I0 (cK b m)):
  CD Tryz.prog 88 [rv a,rv b] X w0 M0 I0 (RQ (a.q - b.q) (k+m+1) M0 I0):=by
 refine aP Tryz.func88 rfl Tryz.ntmps88 rfl ?_
 refine fE ?_
 refine fG rfl (fun b1=>?_)
 refine fG rfl (fun b2=>?_)
 refine bG (fun b3=>?_)
 repeat refine aW ?_
 (repeat refine aJ ?_);refine aO 1 [0,1,2,3,4] [1,1,0,0,0] mixed (by kernel_rfl) ?_
 repeat refine aW ?_
 refine iG rfl (aNF (k:=m) (by omega) hb) (fun y hy=>?_)
 rw [Rat.sub_eq_add_neg,←hy]
 refine iG rfl (uL hk ha.cons (Hv.mem (List.Mem.head _))) (fun e he=>?_)
 repeat refine aW ?_
 refine bA (cs:=eR e) (.inl rfl) rfl rfl aA rfl M0 (cK e (k+m+1)::I0) aG aF ⟨rfl,e,rfl,he,rfl⟩
theorem iV {a b:RE} {k m:Nat} (hk:k+m≤500000000000) (ha:Hv I0 (cK a k)) (hb:Hv I0 (cK b m)):
  CD Tryz.prog 46 [rv a,rv b] X w0 M0 I0 (RQ (a.q*b.q) (k+m) M0 I0):=by
 refine aP Tryz.func46 rfl Tryz.ntmps46 rfl ?_
 refine fE ?_
 refine fG rfl (fun b1=>?_)
 refine fG rfl (fun b2=>?_)
 refine bG (fun b3=>?_)
 repeat refine aW ?_
 (repeat refine aJ ?_);refine aO 2 [0,2,1,3,4,5] [1,2,0,0,0,0] mixed (by kernel_rfl) ?_
 repeat refine aW ?_
 refine iG rfl (nW (k:=k) (by omega) ha) (fun x hx=>?_)
 repeat refine aW ?_
 refine iG rfl (nW (k:=m) (by omega) hb.cons) (fun y hy=>?_)
 refine jK (e:=x) (k:=k) (Hv.mem (List.Mem.tail _ (List.Mem.head _))) ?_
 refine jK (e:=y) (k:=m) (Hv.mem (List.Mem.tail _ (List.Mem.tail _ (List.Mem.head _)))) ?_
 rw [←hx,←hy]
 have hM1:=fun u v M0 I0=>sZ (X:=X) (w0:=w0) (M0:=M0) (I0:=I0) (u:=u) (v:=v) (y:=x.q.num) (z:=y.q.num) (k:=k) (m:=m) (by omega)
 have hM3:=fun u v M0 I0=>sZ (X:=X) (w0:=w0) (M0:=M0) (I0:=I0) (u:=u) (v:=v) (y:=x.q.den) (z:=y.q.den) (k:=k) (m:=m) (by omega)
 have hR:=fun u v M0 I0=>vD (X:=X) (w0:=w0) (M0:=M0) (I0:=I0) (u:=u) (v:=v) (n:=x.q.num*y.q.num) (d:=x.q.den*y.q.den) (k:=k+m) (by omega) (yD _ _)
 rw [←aDC] at hR
 repeat refine aW ?_
 (repeat refine aJ ?_);refine vT (.blk b2 (eR y) 40:: .blk b1 (eR x) 40::M0) (I0) [0,1,2,3,5,6,7,8,4,9,10,11] [3,2,3,2,3,2,3,2,0,0,0,0] mixed ?_
 repeat refine aW ?_
 (refine aU rfl (hM1 _ _ _ _ aA aA) ?_;rintro _ _ _ ⟨rfl,rfl⟩;refine aL ?_)
 (refine aU rfl (hM3 _ _ _ _ aA aA) ?_;rintro _ _ _ ⟨rfl,rfl⟩;refine aL ?_)
 refine iG rfl (hR _ _ _ _ aA aA) (fun e he=>?_)
 repeat refine aW ?_
 refine bA (cs:=eR e) (.inl rfl) rfl rfl aA rfl M0 (cK e (k+m)::I0) aG aF ⟨rfl,e,rfl,he,rfl⟩
abbrev zR:Value:= .agg #[.bool false, .slice none 0 0, .bool false, .slice none 0 0]
theorem lI {a b:RE} {k m:Nat} (hk:k+m≤500000000000) (hb0:b.q≠0) (ha:Hv I0 (cK a k)) (hb:Hv I0 (cK b m)):
  CD Tryz.prog 43 [rv a,rv b] X w0 M0 I0 (RQc (a.q / b.q) (k+m) M0 I0):=by
 refine aP Tryz.func43 rfl Tryz.ntmps43 rfl ?_
 refine fE ?_
 refine fG rfl (fun b1=>?_)
 refine fG rfl (fun b2=>?_)
 refine bG (fun b3=>?_)
 repeat refine aW ?_
 (repeat refine aJ ?_);refine aO 2 [0,2,1,3,4,5] [1,2,0,0,0,0] mixed (by kernel_rfl) ?_
 repeat refine aW ?_
 refine iG rfl (nW (k:=k) (by omega) ha) (fun x hx=>?_)
 repeat refine aW ?_
 refine iG rfl (nW (k:=m) (by omega) hb.cons) (fun y hy=>?_)
 refine jK (e:=x) (k:=k) (Hv.mem (List.Mem.tail _ (List.Mem.head _))) ?_
 refine jK (e:=y) (k:=m) (Hv.mem (List.Mem.tail _ (List.Mem.tail _ (List.Mem.head _)))) ?_
 rw [←hx,←hy]
 rw [←hy] at hb0
 have hs0:¬y.q.num.sign=0:=fun h=>hb0 (Rat.num_eq_zero.1 (Int.sign_eq_zero_iff_zero.1 h))
 have hS:=fun M0 I0=>oC (X:=X) (w0:=w0) (M0:=M0) (I0:=I0) (u:=vI y.p1 y.c1 y.q.num) (z:=y.q.num) (k:=m) (by omega)
 have hM1:=fun u v M0 I0=>sZ (X:=X) (w0:=w0) (M0:=M0) (I0:=I0) (u:=u) (v:=v) (y:=x.q.num) (z:=y.q.den) (k:=k) (m:=m) (by omega)
 have hM3:=fun u v M0 I0=>sZ (X:=X) (w0:=w0) (M0:=M0) (I0:=I0) (u:=u) (v:=v) (y:=x.q.den) (z:=y.q.num) (k:=k) (m:=m) (by omega)
 have hR:=fun u v M0 I0=>vD (X:=X) (w0:=w0) (M0:=M0) (I0:=I0) (u:=u) (v:=v) (n:=x.q.num*y.q.den) (d:=x.q.den*y.q.num) (k:=k+m) (by omega) (aLT hb0)
 rw [←aDT] at hR
 generalize y.q.num.sign=sy at*
 repeat refine aW ?_
 refine dP rfl (hS _ _ aA) ?_
 repeat refine aW ?_
 (repeat refine aJ ?_);refine vT (.blk b2 (eR y) 40:: .blk b1 (eR x) 40::M0) (I0) [0,1,2,3,5,6,7,8,4,9,10,11,12] [3,2,3,2,3,2,3,2,0,0,0,0,0] mixed ?_
 repeat refine aW ?_
 (refine aU rfl (hM1 _ _ _ _ aA aA) ?_;rintro _ _ _ ⟨rfl,rfl⟩;refine aL ?_)
 (refine aU rfl (hM3 _ _ _ _ aA aA) ?_;rintro _ _ _ ⟨rfl,rfl⟩;refine aL ?_)
 refine iG rfl (hR _ _ _ _ aA aA) (fun e he=>?_)
 repeat refine aW ?_
 refine dI (rs:=[.cell 4 40, .tmp 5]) (vs:=[rv e, .int .i64 0]) (.inl rfl) rfl (.cellN (cs:=eR e) inferInstance rfl aA rfl (.tmp rfl .nil)) rfl M0 (cK e (k+m)::I0) aG aF ⟨rfl,e,rfl,he,rfl⟩
def aDX (p q:Rat):Int:=fP (p.num*q.den) (q.num*p.den)
theorem vF {p q:Rat}:aDX p q=0↔p=q:=by
 unfold aDX fP;rw [bAO];split <;>(try split) <;>omega
theorem oM {a b:RE} {k m:Nat} (hk:k+m≤400000000000) (ha:Hv I0 (cK a k)) (hb:Hv I0 (cK b m)):
  CD Tryz.prog 45 [rv a,rv b] X w0 M0 I0 (fun v M I=>M0=M∧I0=I∧v= .int .i64 (aDX a.q b.q)):=by
 refine aP Tryz.func45 rfl Tryz.ntmps45 rfl ?_
 refine fE ?_
 refine fG rfl (fun b1=>?_)
 refine fG rfl (fun b2=>?_)
 repeat refine aW ?_
 (repeat refine aJ ?_);refine aO 2 [0,2,1,3,4,5] [1,2,0,0,0,0] mixed (by kernel_rfl) ?_
 repeat refine aW ?_
 refine iG rfl (nW (k:=k) (by omega) ha) (fun x hx=>?_)
 repeat refine aW ?_
 refine iG rfl (nW (k:=m) (by omega) hb.cons) (fun y hy=>?_)
 refine jK (e:=x) (k:=k) (Hv.mem (List.Mem.tail _ (List.Mem.head _))) ?_
 refine jK (e:=y) (k:=m) (Hv.mem (List.Mem.tail _ (List.Mem.tail _ (List.Mem.head _)))) ?_
 rw [←hx,←hy]
 have hM1:=fun u v M0 I0=>sZ (X:=X) (w0:=w0) (M0:=M0) (I0:=I0) (u:=u) (v:=v) (y:=x.q.num) (z:=y.q.den) (k:=k) (m:=m) (by omega)
 have hM2:=fun u v M0 I0=>sZ (X:=X) (w0:=w0) (M0:=M0) (I0:=I0) (u:=u) (v:=v) (y:=y.q.num) (z:=x.q.den) (k:=m) (m:=k) (by omega)
 have hC:=fun u v M0 I0=>yG (X:=X) (w0:=w0) (M0:=M0) (I0:=I0) (u:=u) (v:=v) (y:=x.q.num*y.q.den) (z:=y.q.num*x.q.den) (k:=k+m) (m:=m+k) (by omega) (by omega)
 repeat refine aW ?_
 (repeat refine aJ ?_);refine vT (.blk b2 (eR y) 40:: .blk b1 (eR x) 40::M0) (I0) [0,1,2,3,5,6,7,8,4,9,10,11] [3,2,3,2,3,2,3,2,0,0,0,0] mixed ?_
 repeat refine aW ?_
 (refine aU rfl (hM1 _ _ _ _ aA aA) ?_;rintro _ _ _ ⟨rfl,rfl⟩;refine aL ?_)
 (refine aU rfl (hM2 _ _ _ _ aA aA) ?_;rintro _ _ _ ⟨rfl,rfl⟩;refine aL ?_)
 refine dP rfl (hC _ _ _ _ aA aA) ?_
 repeat refine aW ?_
 refine gD rfl rfl (⟨rfl,rfl,rfl⟩)
end
section
variable {P:Program} {n:Nat} {G:Env}
theorem aEQ {C:World→Prop} {ty t e:TypeId} {sz:Nat} {x y:Operand} {k:IntKind} {i:Int} {q:Option Addr} [ht:SliceTy P t e sz] (hx:ev G x=some (.slice q 0 0)) (hy:ev G y=some (.int k i)) (hi:i=0):
  Const P n G (.slice t x none (some y) none) ty C (.slice q 0 0):=by
 subst hi
 refine ⟨?_⟩
 intro st ha dst pos after guard w _
 cases q with
 |none=>simp [execOp,Instr.sliceAt,Instr.slice,ha.ev hx,dM ht.und,Fx.run_sizeOf ht.size,Instr.sliceBounds,Instr.sliceBound,asIntOf,ha.ev hy]
 |some ad=>simp [execOp,Instr.sliceAt,Instr.slice,ha.ev hx,dM ht.und,Fx.run_sizeOf ht.size,Instr.sliceBounds,Instr.sliceBound,asIntOf,ha.ev hy,Addr.add]
end
section
variable {X:List Nat} {w0:World} {M0:List Ent} {I0:List aV}
theorem qP {q:Option Addr} {l:List Int} {n c:Nat} {i:Int} (hn:n=l.length) (hi:0≤i) (hl:aI q (recs eG l)∈I0) (hd:Dig l):
  CD Tryz.prog 206 [.slice q n c, .int .i64 i] X w0 M0 I0 (fun v M I=>M0=M∧I0=I∧v= .int .u64 (gt l i)):=by
 subst hn
 have d:=hd.gt i
 refine eD Tryz.func206 rfl Tryz.ntmps206 rfl ?_
 repeat' (first|refine lY ?_|refine aQ rfl (fun h=>?_) (fun h=>?_)|refine aR rfl rfl (fun h=>?_) (fun h=>?_)|fail)
 ·refine aH (by first|exact .inl rfl|exact .inr rfl) rfl rfl _ _ bX bV (⟨rfl,rfl,rfl⟩)
 ·refine aH (by first|exact .inl rfl|exact .inr rfl) rfl rfl _ _ bX bV (⟨rfl,rfl,by rw [aNT (by omega)]⟩)
theorem aGC {p:Prop} [Decidable p] {q:Option Addr} {l:List Int} {n c:Nat} (h63:l.length≤1000000000000) (hc:l.length≤c) (hok:Ok q∨(l.length=0∧c=0)) (hd:Dig l) (hv:val l=n) (hl:aI q (recs eG l)∈I0):
  CD Tryz.prog 164 [.bool (B p), .slice q l.length c] X w0 M0 I0 (fun v M I=>M0=M∧∃q' c',v= .agg #[.bool (B (p∧n≠0)), .slice q' (gr n).length c']∧rR q' n c'∧I=aI q' (recs eG (gr n))::I0):=by
 have hg:gH l=gr n:=pE hd hv
 refine eD Tryz.func164 rfl Tryz.ntmps164 rfl ?_
 refine fE ?_
 refine bG (fun b=>?_)
 repeat refine lY ?_
 refine eO [0,1,4] rfl (fun k G M I=>∃m:Nat,m≤l.length∧k=m∧gH (l.take m)=gH l∧∃x:Int,x=m∧G=[(5, .int .i64 x)]∧M= .blk b [.bool false, .slice none 0 0] 38::M0∧I0=I) (l.length) _ _ _ dS bX bV (⟨l.length,by omega,rfl,by rw [List.take_length],_,rfl,rfl,rfl,rfl⟩) ?_
 rintro k G M I ⟨m,hm,rfl,ht,x,hx,rfl,rfl,rfl⟩
 have hend:gH l=l.take k→(n≠0↔0 < k)∧(gr n).length=k:=fun e=>by
  have hl1:(gr n).length=k:=by rw [←hg,e,List.length_take];omega
  refine ⟨⟨fun h=>?_,fun h h0=>?_⟩,hl1⟩
  ·rw [←hl1];exact List.length_pos_iff.2 (fun e=>h (nD.1 e))
  ·rw [h0,fO] at hl1;simp at hl1;omega
 have hstep:∀j:Nat,j < l.length→l.take (j+1)=l.take j++[gt l (j:Int)]:=fun j hj=>by rw [List.take_succ_eq_append_getElem hj,eU hj]
 repeat' (first|refine lY ?_|refine aQ rfl (fun h=>?_) (fun h=>?_)|refine aR rfl rfl (fun h=>?_) (fun h=>?_)|fail)
 ·have h1:=h
  refine bY (k - 1) _ _ _ (by first|omega|(simp only [List.length_append,List.length_cons,List.length_nil];omega)) dS bX bV (⟨k - 1,by omega,rfl,?_,_,by omega,rfl,rfl,rfl⟩)
  rw [←ht]
  obtain ⟨j,rfl⟩:∃j,k=j+1:=⟨k - 1,by omega⟩
  have e:((j+1:Nat):Int) - 1=j:=by omega
  rw [hx,e] at h1
  rw [hstep j (by omega),h1,yB]
  rfl
 all_goals
  have htk:gH l=l.take k:=by
   rw [←ht]
   refine aCR ?_
   rcases Nat.eq_zero_or_pos k with h0|h0
   ·subst h0;simp [Top]
   ·obtain ⟨j,rfl⟩:∃j,k=j+1:=⟨k - 1,by omega⟩
    have e:((j+1:Nat):Int) - 1=j:=by omega
    rw [hstep j (by omega),Top.snoc]
    first
     |(rw [←e,←hx];assumption)
     |(exfalso;omega)
  obtain ⟨hnz,hlk⟩:=hend htk
  have hgk:gr n=l.take k:=by rw [←hg,htk]
 all_goals
  have hsl:aI q (recs eG (gr n))∈aI q (recs eG (gr n))::I0:=List.Mem.head _
  refine xU (M':= .blk b [.bool false, .slice none 0 0] 38::M0) (I':=aI q (recs eG (gr n))::I0) (fun w hw=>hw.takeI (cs:=recs eG (gr n)) (tl:=recs eG (l.drop k)) (by rw [hgk,←jO,List.take_append_drop];exact hl)) ?_
  subst hx
  refine lL (cs:=recs eG []) ([]) rfl (fun b1=>?_)
  repeat refine lY ?_
  have hbool:∀y:Bool,(y=true↔(p∧n≠0))→Value.bool y= .bool (B (p∧n≠0)):=fun y hy=>by
   refine congrArg Value.bool ?_
   by_cases hp:p∧n≠0
   ·rw [cB hp];exact hy.2 hp
   ·rw [bF hp];cases y with
    |false=>rfl
    |true=>exact absurd (hy.1 rfl) hp
  rcases hok with hok|⟨hl0,hc0⟩
  ·obtain ⟨b9,o9,rfl⟩:=hok.cases
   refine aD rfl (fun _=>uP k rfl rfl rfl (by omega)) rfl rfl ?_
   refine jC (b:=b1) (mm:=0) 1 sQ rfl (by omega) ?_
   refine oO (xs:=[]) (ys:=gr n) 0 rfl rfl rfl (Src.imm (List.Mem.head _) (.inl (Ok.mk _ _))) (by decide) hlk (by simp <;>omega) (by simp <;>omega) rfl rfl ?_
   intro a2 c2
   refine ⟨okJ,?_⟩
   rw [List.nil_append]
   refine qK (fun w hw=>And.intro (hw.rowLe (List.Mem.head _)) ((hw.rowS (List.Mem.head _)).2.imp id And.right)) (fun ho3=>?_)
   refine gW yI ?_
   refine aD rfl (fun _=>aK (pvs:=[(0,_),(1,_)]) (cells:=[_, .slice a2 (gr n).length c2]) rfl rfl) rfl rfl ?_
   repeat refine lY ?_
   refine bA (cs:=[_, .slice a2 (gr n).length c2]) (.inl rfl) rfl rfl aY rfl M0 (aI a2 (recs eG (gr n))::I0) bX bV ⟨rfl,a2,c2,?_,ho3,rfl⟩
   first
    |exact congrArg (fun x=>Value.agg #[x, .slice a2 (gr n).length c2]) (hbool (B ((0:Int) < ((k:Nat):Int))) (by rw [rZ,decide_eq_true_iff];exact ⟨fun h=>⟨by assumption,hnz.2 (by omega)⟩,fun h=>by have:=hnz.1 h.2;omega⟩))
    |exact congrArg (fun x=>Value.agg #[x, .slice a2 (gr n).length c2]) (hbool false ⟨fun h=>(by cases h),fun h=>absurd h.1 (by assumption)⟩)
  ·subst hc0
   obtain rfl:k=0:=by omega
   have hn0:gr n=[]:=by rw [hgk];rfl
   obtain rfl:l=[]:=List.eq_nil_of_length_eq_zero hl0
   refine aD rfl (fun _=>aEQ rfl rfl rfl) rfl rfl ?_
   refine jC (b:=b1) (mm:=0) 1 sQ rfl (by omega) ?_
   refine oO (xs:=[]) (ys:=gr n) 0 rfl rfl rfl (Src.imm (List.Mem.head _) (.inr ⟨rfl,rfl⟩)) (by decide) hlk (by simp <;>omega) (by simp <;>omega) rfl rfl ?_
   intro a2 c2
   refine ⟨okJ,?_⟩
   rw [List.nil_append]
   refine qK (fun w hw=>And.intro (hw.rowLe (List.Mem.head _)) ((hw.rowS (List.Mem.head _)).2.imp id And.right)) (fun ho3=>?_)
   refine gW yI ?_
   refine aD rfl (fun _=>aK (pvs:=[(0,_),(1,_)]) (cells:=[_, .slice a2 (gr n).length c2]) rfl rfl) rfl rfl ?_
   repeat refine lY ?_
   refine bA (cs:=[_, .slice a2 (gr n).length c2]) (.inl rfl) rfl rfl aY rfl M0 (aI a2 (recs eG (gr n))::I0) bX bV ⟨rfl,a2,c2,?_,ho3,rfl⟩
   first
    |exact congrArg (fun x=>Value.agg #[x, .slice a2 (gr n).length c2]) (hbool (B ((0:Int) < ((0:Nat):Int))) (by rw [rZ,decide_eq_true_iff];exact ⟨fun h=>⟨by assumption,hnz.2 (by omega)⟩,fun h=>by have:=hnz.1 h.2;omega⟩))
    |exact congrArg (fun x=>Value.agg #[x, .slice a2 (gr n).length c2]) (hbool false ⟨fun h=>(by cases h),fun h=>absurd h.1 (by assumption)⟩)
end
end Go.Proofs.YtgpkjcmipiodcaaGreat
namespace Go.Proofs.YtgpkjcmipiodcaaGreat
open Go Go.Fx
theorem vY (l:List Int) (x:Int):val (l++[x])=val l+1000000000 ^ l.length*x:=by rw [val_append];simp [val]
theorem qQ (l:List Int) (i:Nat):val (l.take (i+1))=val (l.take i)+1000000000 ^ i*gt l (i:Int):=by rw [bR,xR]
section
variable {X:List Nat} {w0:World} {M0:List Ent} {I0:List aV}
theorem oL {q:Option Addr} {l:List Int} {n c:Nat} (h63:l.length≤1000000000000) (hc:l.length≤c) (hok:Ok q∨(l.length=0∧c=0)) (hd:Dig l) (hv:val l=n) (hl:aI q (recs eG l)∈I0):
  CD Tryz.prog 164 [.bool false, .slice q l.length c] X w0 M0 I0 (fun v M I=>M0=M∧∃q' c',v= .agg #[.bool (B (False∧n≠0)), .slice q' (gr n).length c']∧rR q' n c'∧I=aI q' (recs eG (gr n))::I0):=by
 have:=aGC (X:=X) (w0:=w0) (M0:=M0) (I0:=I0) (p:=False) h63 hc hok hd hv hl
 rwa [bF (show ¬False from id)] at this
theorem aDY {s:Int} (h:0≤s):s.tmod 1000000000=s % 1000000000:=Int.tmod_eq_emod_of_nonneg h
theorem aDJ {s:Int} (h:0≤s):s.tdiv 1000000000=s / 1000000000:=Int.tdiv_eq_ediv_of_nonneg h
theorem aUZ {p q:Option Addr} {m n cp cq:Nat} (hm:(gr m).length≤100000000000) (hn:(gr n).length≤100000000000) (hp:aI p (recs eG (gr m))∈I0) (hq:aI q (recs eG (gr n))∈I0):
  CD Tryz.prog 214 [.slice p (gr m).length cp, .slice q (gr n).length cq] X w0 M0 I0 (GrP (m+n) M0 I0):=by
 have da:=bK m
 have db:=bK n
 have va:=bT m
 have vb:=bT n
 generalize ha:gr m=a at*
 generalize hb:gr n=b at*
 obtain ⟨N,hN⟩:∃N:Nat,N=max a.length b.length:=⟨_,rfl⟩
 refine aP Tryz.func214 rfl Tryz.ntmps214 rfl ?_
 repeat' (first|refine aW ?_|refine aQ rfl (fun h=>?_) (fun h=>?_)|refine aR rfl rfl (fun h=>?_) (fun h=>?_)|fail)
 refine lL (cs:=recs eG []) ([]) rfl (fun b1=>?_)
 repeat' (first|refine aW ?_|refine aQ rfl (fun h=>?_) (fun h=>?_)|refine aR rfl rfl (fun h=>?_) (fun h=>?_)|fail)
 refine vW (b:=b1) (mm:=0) 1 iN rfl (by omega) ?_
 refine eO [0,1] rfl (fun k G M I=>∃(i:Nat) (o:List Int) (cr:Int) (q1:Option Addr) (c1:Nat),i≤N∧k=N - i∧o.length=i∧Dig o∧(0≤cr∧cr≤1)∧val o+1000000000 ^ i*cr=val (a.take i)+val (b.take i)∧G=[(5, .slice q1 o.length c1),(6, .int .u64 cr),(7, .int .i64 i)]∧M= .row q1 o.length c1 (recs eG o) 181 1::M0∧I0=I) (N) _ _ _ dS aG aF (⟨0,[],0,_,_,by omega,rfl,rfl,Dig.nil,by omega,by simp [val],rfl,rfl,rfl⟩) ?_
 rintro k G M I ⟨i,o,cr,q1,c1,hi,rfl,ho,hd,hcr,hv,rfl,rfl,rfl⟩
 by_cases hiN:i < N
 ·have d1:=da.gt i
  have d2:=db.gt i
  have e1:=aDY (s:=gt a i+gt b i+cr) (by omega)
  have e2:=aDJ (s:=gt a i+gt b i+cr) (by omega)
  obtain ⟨s,hs⟩:∃s,s=(gt a i+gt b i+cr) % 1000000000:=⟨_,rfl⟩
  obtain ⟨t,ht⟩:∃t,t=(gt a i+gt b i+cr) / 1000000000:=⟨_,rfl⟩
  have hst:0≤s∧s < 1000000000∧0≤t∧t≤1∧s+1000000000*t=gt a i+gt b i+cr:=by omega
  rw [←hs] at e1
  rw [←ht] at e2
  have hG:=fun M0 I0=>qP (X:=X) (w0:=w0) (M0:=M0) (I0:=I0) (q:=p) (l:=a) (n:=a.length) (c:=cp) (i:=i) rfl (by omega)
  have hG2:=fun M0 I0=>qP (X:=X) (w0:=w0) (M0:=M0) (I0:=I0) (q:=q) (l:=b) (n:=b.length) (c:=cq) (i:=i) rfl (by omega)
  repeat' (first|refine aW ?_|refine aQ rfl (fun h=>?_) (fun h=>?_)|refine aR rfl rfl (fun h=>?_) (fun h=>?_)|fail)
  all_goals
   refine dP rfl (hG _ _ aA da) ?_
   repeat' (first|refine aW ?_|refine aQ rfl (fun h=>?_) (fun h=>?_)|refine aR rfl rfl (fun h=>?_) (fun h=>?_)|fail)
   refine dP rfl (hG2 _ _ aA db) ?_
   repeat' (first|refine aW ?_|refine aQ rfl (fun h=>?_) (fun h=>?_)|refine aR rfl rfl (fun h=>?_) (fun h=>?_)|fail)
   rw [e1]
   repeat' (first|refine aW ?_|refine aQ rfl (fun h=>?_) (fun h=>?_)|refine aR rfl rfl (fun h=>?_) (fun h=>?_)|fail)
   refine lL (cs:=recs eG [s]) ([.int .u32 s]) rfl (fun b2=>?_)
   refine tyP (ys:=[s]) 1 rfl rfl rfl (fun a2 c2=>?_)
   repeat' (first|refine aW ?_|refine aQ rfl (fun h=>?_) (fun h=>?_)|refine aR rfl rfl (fun h=>?_) (fun h=>?_)|fail)
   rw [e2]
   refine iC (N - (i+1)) (⟨i+1,o++[s],t,a2,c2,by omega,rfl,by simp;omega,hd.snoc (by omega),by omega,?_,rfl,rfl,rfl⟩)
   rw [vY,qQ,qQ,ho,Int.pow_succ,Int.mul_assoc]
   have h3:=congrArg (fun x=>1000000000 ^ i*x) hst.2.2.2.2
   simp only [Int.mul_add] at h3 hv ⊢
   omega
 ·obtain rfl:i=N:=by omega
  rw [List.take_of_length_le (show a.length≤i by omega),List.take_of_length_le (show b.length≤i by omega),va,vb] at hv
  have hv2:val (o++[cr])=((m+n:Nat):Int):=by rw [vY,ho,hv];omega
  have hd2:Dig (o++[cr]):=hd.snoc (by omega)
  repeat' (first|refine aW ?_|refine aQ rfl (fun h=>?_) (fun h=>?_)|refine aR rfl rfl (fun h=>?_) (fun h=>?_)|fail)
  refine lL (cs:=recs eG [cr]) ([.int .u32 cr]) rfl (fun b2=>?_)
  refine tyP (ys:=[cr]) 1 rfl rfl rfl (fun a2 c2=>?_)
  refine qK (fun w hw=>And.intro (hw.rowLe (List.Mem.tail _ (List.Mem.head _))) ((hw.rowS (List.Mem.tail _ (List.Mem.head _))).2.imp id And.right)) (fun ho3=>?_)
  refine gW uB ?_
  (refine aS rfl (oL (by simp;omega) ho3.1 ho3.2 hd2 hv2 aA) rfl rfl ?_;rintro _ _ _ ⟨rfl,q',c',rfl,hc',rfl⟩;refine aL ?_)
  repeat' (first|refine aW ?_|refine aQ rfl (fun h=>?_) (fun h=>?_)|refine aR rfl rfl (fun h=>?_) (fun h=>?_)|fail)
  refine gD rfl rfl (⟨rfl,q',c',rfl,hc',rfl⟩)
theorem xJ {p q:Option Addr} {m n cp cq:Nat} (hm:(gr m).length≤100000000000) (hle:n≤m) (hp:aI p (recs eG (gr m))∈I0) (hq:aI q (recs eG (gr n))∈I0):
  CD Tryz.prog 207 [.slice p (gr m).length cp, .slice q (gr n).length cq] X w0 M0 I0 (GrP (m - n) M0 I0):=by
 have da:=bK m
 have db:=bK n
 have va:=bT m
 have vb:=bT n
 have hl:(gr n).length≤(gr m).length:=fK hle
 generalize ha:gr m=a at*
 generalize hb:gr n=b at*
 obtain ⟨N,hN⟩:∃N:Nat,N=a.length:=⟨_,rfl⟩
 refine aP Tryz.func207 rfl Tryz.ntmps207 rfl ?_
 repeat' (first|refine aW ?_|refine aQ rfl (fun h=>?_) (fun h=>?_)|refine aR rfl rfl (fun h=>?_) (fun h=>?_)|fail)
 refine lL (cs:=recs eG []) ([]) rfl (fun b1=>?_)
 repeat' (first|refine aW ?_|refine aQ rfl (fun h=>?_) (fun h=>?_)|refine aR rfl rfl (fun h=>?_) (fun h=>?_)|fail)
 refine vW (b:=b1) (mm:=0) 1 iN rfl (by omega) ?_
 refine eO [0,1] rfl (fun k G M I=>∃(i:Nat) (o:List Int) (cr:Int) (q1:Option Addr) (c1:Nat),i≤N∧k=N - i∧o.length=i∧Dig o∧(0≤cr∧cr≤1)∧val o - 1000000000 ^ i*cr=val (a.take i) - val (b.take i)∧G=[(5, .slice q1 o.length c1),(6, .int .u64 cr),(7, .int .i64 i)]∧M= .row q1 o.length c1 (recs eG o) 181 1::M0∧I0=I) (N) _ _ _ dS aG aF (⟨0,[],0,_,_,by omega,rfl,rfl,Dig.nil,by omega,by simp [val],rfl,rfl,rfl⟩) ?_
 rintro k G M I ⟨i,o,cr,q1,c1,hi,rfl,ho,hd,hcr,hv,rfl,rfl,rfl⟩
 by_cases hiN:i < N
 ·have d1:=da.gt i
  have d2:=db.gt i
  have e1:=aDY (s:=1000000000+gt a i - gt b i - cr) (by omega)
  have e2:=aDJ (s:=1000000000+gt a i - gt b i - cr) (by omega)
  obtain ⟨s,hs⟩:∃s,s=(1000000000+gt a i - gt b i - cr) % 1000000000:=⟨_,rfl⟩
  obtain ⟨t,ht⟩:∃t,t=(1000000000+gt a i - gt b i - cr) / 1000000000:=⟨_,rfl⟩
  have hst:0≤s∧s < 1000000000∧0≤t∧t≤1∧s - 1000000000*(1 - t)=gt a i - gt b i - cr:=by omega
  rw [←hs] at e1
  rw [←ht] at e2
  have hG:=fun M0 I0=>qP (X:=X) (w0:=w0) (M0:=M0) (I0:=I0) (q:=p) (l:=a) (n:=a.length) (c:=cp) (i:=i) rfl (by omega)
  have hG2:=fun M0 I0=>qP (X:=X) (w0:=w0) (M0:=M0) (I0:=I0) (q:=q) (l:=b) (n:=b.length) (c:=cq) (i:=i) rfl (by omega)
  repeat' (first|refine aW ?_|refine aQ rfl (fun h=>?_) (fun h=>?_)|refine aR rfl rfl (fun h=>?_) (fun h=>?_)|fail)
  refine dP rfl (hG _ _ aA da) ?_
  repeat' (first|refine aW ?_|refine aQ rfl (fun h=>?_) (fun h=>?_)|refine aR rfl rfl (fun h=>?_) (fun h=>?_)|fail)
  refine dP rfl (hG2 _ _ aA db) ?_
  repeat' (first|refine aW ?_|refine aQ rfl (fun h=>?_) (fun h=>?_)|refine aR rfl rfl (fun h=>?_) (fun h=>?_)|fail)
  rw [e1]
  repeat' (first|refine aW ?_|refine aQ rfl (fun h=>?_) (fun h=>?_)|refine aR rfl rfl (fun h=>?_) (fun h=>?_)|fail)
  refine lL (cs:=recs eG [s]) ([.int .u32 s]) rfl (fun b2=>?_)
  refine tyP (ys:=[s]) 1 rfl rfl rfl (fun a2 c2=>?_)
  repeat' (first|refine aW ?_|refine aQ rfl (fun h=>?_) (fun h=>?_)|refine aR rfl rfl (fun h=>?_) (fun h=>?_)|fail)
  rw [e2]
  repeat' (first|refine aW ?_|refine aQ rfl (fun h=>?_) (fun h=>?_)|refine aR rfl rfl (fun h=>?_) (fun h=>?_)|fail)
  refine iC (N - (i+1)) (⟨i+1,o++[s],1 - t,a2,c2,by omega,rfl,by simp;omega,hd.snoc (by omega),by omega,?_,rfl,rfl,rfl⟩)
  rw [vY,qQ,qQ,ho,Int.pow_succ,Int.mul_assoc]
  have h3:=congrArg (fun x=>1000000000 ^ i*x) hst.2.2.2.2
  simp only [Int.mul_sub] at h3 hv ⊢
  omega
 ·obtain rfl:i=N:=by omega
  rw [List.take_of_length_le (show a.length≤i by omega),List.take_of_length_le (show b.length≤i by omega),va,vb] at hv
  have hcr0:cr=0:=by
   have h1:=jG hd
   rw [ho] at h1
   by_cases c:cr=0
   ·exact c
   ·have:cr=1:=by omega
    subst this
    omega
  subst hcr0
  have hv2:val o=((m - n:Nat):Int):=by omega
  refine xH (fun w hw=>And.intro (hw.rowLe (List.Mem.head _)) ((hw.rowS (List.Mem.head _)).2.imp id And.right)) (fun ho3=>?_)
  repeat' (first|refine aW ?_|refine aQ rfl (fun h=>?_) (fun h=>?_)|refine aR rfl rfl (fun h=>?_) (fun h=>?_)|fail)
  refine gW uB ?_
  (refine aU rfl (oL (by omega) ho3.1 ho3.2 hd hv2 aA) ?_;rintro _ _ _ ⟨rfl,q',c',rfl,hc',rfl⟩;refine aL ?_)
  repeat' (first|refine aW ?_|refine aQ rfl (fun h=>?_) (fun h=>?_)|refine aR rfl rfl (fun h=>?_) (fun h=>?_)|fail)
  refine gD rfl rfl (⟨rfl,q',c',rfl,hc',rfl⟩)
theorem yE {p:Option Addr} {m d cp:Nat} (hm:(gr m).length≤100000000000) (hdd:d < 1000000000) (hp:aI p (recs eG (gr m))∈I0):
  CD Tryz.prog 204 [.slice p (gr m).length cp, .int .u64 (d:Int)] X w0 M0 I0 (GrP (m*d) M0 I0):=by
 have da:=bK m
 have va:=bT m
 generalize ha:gr m=a at*
 obtain ⟨N,hN⟩:∃N:Nat,N=a.length:=⟨_,rfl⟩
 refine aP Tryz.func204 rfl Tryz.ntmps204 rfl ?_
 repeat' (first|refine aW ?_|refine aQ rfl (fun h=>?_) (fun h=>?_)|refine aR rfl rfl (fun h=>?_) (fun h=>?_)|fail)
 refine lL (cs:=recs eG []) ([]) rfl (fun b1=>?_)
 repeat' (first|refine aW ?_|refine aQ rfl (fun h=>?_) (fun h=>?_)|refine aR rfl rfl (fun h=>?_) (fun h=>?_)|fail)
 refine vW (b:=b1) (mm:=0) 1 iN rfl (by omega) ?_
 refine eO [0,1] rfl (fun k G M I=>∃(i:Nat) (o:List Int) (cr:Int) (q1:Option Addr) (c1:Nat),i≤N∧k=N - i∧o.length=i∧Dig o∧(0≤cr∧cr < 1000000000)∧val o+1000000000 ^ i*cr=val (a.take i)*d∧G=[(5, .slice q1 o.length c1),(6, .int .u64 cr),(7, .int .i64 i)]∧M= .row q1 o.length c1 (recs eG o) 181 1::M0∧I0=I) (N) _ _ _ dS aG aF (⟨0,[],0,_,_,by omega,rfl,rfl,Dig.nil,by omega,by simp [val],rfl,rfl,rfl⟩) ?_
 rintro k G M I ⟨i,o,cr,q1,c1,hi,rfl,ho,hd,hcr,hv,rfl,rfl,rfl⟩
 by_cases hiN:i < N
 ·have d1:=da.gt i
  have d4:=uI d1 (q:=(d:Int)) ⟨by omega,by omega⟩ (o:=0) (by omega) hcr
  obtain ⟨d5,d6,d7⟩:=d4
  rw [Int.zero_add] at d6 d7
  have d8:0≤gt a i*(d:Int)∧gt a i*(d:Int)≤18446744073709551615:=by omega
  have e1:=aDY d6.1
  have e2:=aDJ d6.1
  obtain ⟨s,hs⟩:∃s,s=(gt a i*(d:Int)+cr) % 1000000000:=⟨_,rfl⟩
  obtain ⟨t,ht⟩:∃t,t=(gt a i*(d:Int)+cr) / 1000000000:=⟨_,rfl⟩
  have hst:0≤s∧s < 1000000000∧s+1000000000*t=gt a i*(d:Int)+cr:=by omega
  rw [←hs] at e1
  rw [←ht] at e2 d7
  repeat' (first|refine aW ?_|refine aQ rfl (fun h=>?_) (fun h=>?_)|refine aR rfl rfl (fun h=>?_) (fun h=>?_)|fail)
  rw [e1]
  repeat' (first|refine aW ?_|refine aQ rfl (fun h=>?_) (fun h=>?_)|refine aR rfl rfl (fun h=>?_) (fun h=>?_)|fail)
  refine lL (cs:=recs eG [s]) ([.int .u32 s]) rfl (fun b2=>?_)
  refine tyP (ys:=[s]) 1 rfl rfl rfl (fun a2 c2=>?_)
  repeat' (first|refine aW ?_|refine aQ rfl (fun h=>?_) (fun h=>?_)|refine aR rfl rfl (fun h=>?_) (fun h=>?_)|fail)
  rw [e2]
  refine iC (N - (i+1)) (⟨i+1,o++[s],t,a2,c2,by omega,rfl,by simp;omega,hd.snoc (by omega),d7,?_,rfl,rfl,rfl⟩)
  rw [vY,qQ,ho,Int.pow_succ,Int.mul_assoc,Int.add_mul,Int.mul_assoc]
  have h3:=congrArg (fun x=>1000000000 ^ i*x) hst.2.2
  simp only [Int.mul_add] at h3 hv ⊢
  omega
 ·obtain rfl:i=N:=by omega
  rw [List.take_of_length_le (show a.length≤i by omega),va] at hv
  have hv2:val (o++[cr])=((m*d:Nat):Int):=by rw [vY,ho,hv];simp
  have hd2:Dig (o++[cr]):=hd.snoc (by omega)
  repeat' (first|refine aW ?_|refine aQ rfl (fun h=>?_) (fun h=>?_)|refine aR rfl rfl (fun h=>?_) (fun h=>?_)|fail)
  refine lL (cs:=recs eG [cr]) ([.int .u32 cr]) rfl (fun b2=>?_)
  refine tyP (ys:=[cr]) 1 rfl rfl rfl (fun a2 c2=>?_)
  refine qK (fun w hw=>And.intro (hw.rowLe (List.Mem.tail _ (List.Mem.head _))) ((hw.rowS (List.Mem.tail _ (List.Mem.head _))).2.imp id And.right)) (fun ho3=>?_)
  refine gW uB ?_
  (refine aS rfl (oL (by simp;omega) ho3.1 ho3.2 hd2 hv2 aA) rfl rfl ?_;rintro _ _ _ ⟨rfl,q',c',rfl,hc',rfl⟩;refine aL ?_)
  repeat' (first|refine aW ?_|refine aQ rfl (fun h=>?_) (fun h=>?_)|refine aR rfl rfl (fun h=>?_) (fun h=>?_)|fail)
  refine gD rfl rfl (⟨rfl,q',c',rfl,hc',rfl⟩)
theorem aKN {p:Option Addr} {m d cp:Nat} (hm:(gr m).length≤100000000000) (hdd:d < 1000000000) (hc:rR p m cp) (hp:aI p (recs eG (gr m))∈I0):
  CD Tryz.prog 205 [.slice p (gr m).length cp, .int .u32 (d:Int)] X w0 M0 I0 (GrP (m*1000000000+d) M0 I0):=by
 have da:=bK m
 have va:=bT m
 obtain ⟨hc1,hc2⟩:=hc
 generalize ha:gr m=a at*
 have hd2:Dig ([(d:Int)]++a):=Dig.app.2 ⟨by rw [Dig.cons];exact ⟨by omega,Dig.nil⟩,da⟩
 have hv2:val ([(d:Int)]++a)=((m*1000000000+d:Nat):Int):=by simp only [val_append,val,List.length_cons,List.length_nil,va];omega
 refine aP Tryz.func205 rfl Tryz.ntmps205 rfl ?_
 repeat' (first|refine aW ?_|refine aQ rfl (fun h=>?_) (fun h=>?_)|refine aR rfl rfl (fun h=>?_) (fun h=>?_)|fail)
 refine lL (cs:=recs eG [(d:Int)]) ([.int .u32 (d:Int)]) rfl (fun b1=>?_)
 repeat' (first|refine aW ?_|refine aQ rfl (fun h=>?_) (fun h=>?_)|refine aR rfl rfl (fun h=>?_) (fun h=>?_)|fail)
 refine jC (b:=b1) (mm:=1) 1 iN rfl (by omega) ?_
 refine oO (xs:=[(d:Int)]) (ys:=a) 0 rfl rfl rfl (Src.imm aA hc2) (by decide) rfl (by simp;omega) (by simp;omega) rfl rfl ?_
 intro a2 c2
 refine aL ?_
 refine qK (fun w hw=>And.intro (hw.rowLe (List.Mem.head _)) ((hw.rowS (List.Mem.head _)).2.imp id And.right)) (fun ho3=>?_)
 refine gW uB ?_
 (refine aS rfl (oL (by simp;omega) ho3.1 ho3.2 hd2 hv2 aA) rfl rfl ?_;rintro _ _ _ ⟨rfl,q',c',rfl,hc',rfl⟩;refine aL ?_)
 repeat' (first|refine aW ?_|refine aQ rfl (fun h=>?_) (fun h=>?_)|refine aR rfl rfl (fun h=>?_) (fun h=>?_)|fail)
 refine gD rfl rfl (⟨rfl,q',c',rfl,hc',rfl⟩)
theorem aAF {p q:Option Addr} {m n cp cq:Nat} (hm:(gr m).length≤100000000000) (hn:(gr n).length≤100000000000) (hp:aI p (recs eG (gr m))∈I0) (hq:aI q (recs eG (gr n))∈I0):
  CD Tryz.prog 203 [.slice p (gr m).length cp, .slice q (gr n).length cq] X w0 M0 I0 (fun v M I=>M0=M∧I0=I∧v= .int .i64 (fP m n)):=by
 have ca:=wT m
 have cb:=wT n
 have va:=bT m
 have vb:=bT n
 generalize ha:gr m=a at*
 generalize hb:gr n=b at*
 refine aP Tryz.func203 rfl Tryz.ntmps203 rfl ?_
 by_cases hl:a.length=b.length
 ·repeat' (first|refine aW ?_|refine aQ rfl (fun h=>?_) (fun h=>?_)|refine aR rfl rfl (fun h=>?_) (fun h=>?_)|fail)
  refine eO [0,1] rfl (fun k G M I=>∃(i:Nat) (x:Int),i≤a.length∧k=i∧x=(i:Int) - 1∧a.drop i=b.drop i∧G=[(5, .int .i64 x)]∧M0=M∧I0=I) (a.length) _ _ _ dS aG aF (⟨a.length,_,by omega,rfl,rfl,by rw [List.drop_of_length_le (by omega),List.drop_of_length_le (by omega)],rfl,rfl,rfl⟩) ?_
  rintro k G M I ⟨i,x,hi,rfl,hx,hs,rfl,rfl,rfl⟩
  by_cases h0:k=0
  ·subst h0
   rw [List.drop_zero,List.drop_zero] at hs
   have e:(m:Int)=n:=by rw [←va,←vb,hs]
   have hc0:fP (m:Int) n=0:=by unfold fP;rw [if_neg (by omega),if_neg (by omega)]
   rw [hc0]
   repeat' (first|refine aW ?_|refine aQ rfl (fun h=>?_) (fun h=>?_)|refine aR rfl rfl (fun h=>?_) (fun h=>?_)|fail)
   refine gD rfl rfl (⟨rfl,rfl,rfl⟩)
  ·obtain ⟨j,rfl⟩:∃j,k=j+1:=⟨k - 1,by omega⟩
   obtain rfl:x=(j:Int):=by omega
   have hlt:gt a (j:Int) < gt b (j:Int)→fP (m:Int) n= -1:=fun h=>by
    rw [xR,xR] at h
    have:=aVI ca.1 cb.1 hl (by omega) hs h
    rw [va,vb] at this
    exact if_pos this
   have hgt:gt b (j:Int) < gt a (j:Int)→fP (m:Int) n=1:=fun h=>by
    rw [xR,xR] at h
    have:=aVI cb.1 ca.1 hl.symm (by omega) hs.symm h
    rw [va,vb] at this
    unfold fP
    rw [if_neg (by omega),if_pos this]
   have heq:gt a (j:Int)=gt b (j:Int)→a.drop j=b.drop j:=fun h=>by
    rw [xR,xR] at h
    exact aUC hl (by omega) h hs
   repeat' (first|refine aW ?_|refine aQ rfl (fun h=>?_) (fun h=>?_)|refine aR rfl rfl (fun h=>?_) (fun h=>?_)|fail)
   (repeat refine aJ ?_);refine gG [0,1,2,3,4,5,6,7,8] [0,0,0,0,0,0,0,0,0] mixed (by kernel_rfl) ?_
   repeat' (first|refine aW ?_|refine aQ rfl (fun h=>?_) (fun h=>?_)|refine aR rfl rfl (fun h=>?_) (fun h=>?_)|fail)
   ·rw [hlt (by assumption)]
    refine gD rfl rfl (⟨rfl,rfl,rfl⟩)
   (repeat refine aJ ?_);refine gG [0,1,2,3,4,5,6,7,8] [0,0,0,0,0,0,0,0,0] mixed (by kernel_rfl) ?_
   repeat' (first|refine aW ?_|refine aQ rfl (fun h=>?_) (fun h=>?_)|refine aR rfl rfl (fun h=>?_) (fun h=>?_)|fail)
   ·rw [hgt (by assumption)]
    refine gD rfl rfl (⟨rfl,rfl,rfl⟩)
   ·repeat' (first|refine aW ?_|refine aQ rfl (fun h=>?_) (fun h=>?_)|refine aR rfl rfl (fun h=>?_) (fun h=>?_)|fail)
    refine iC (j) (⟨j,(j:Int) - 1,by omega,rfl,by omega,heq (by omega),rfl,rfl,rfl⟩)
 ·have hlt:a.length < b.length→fP (m:Int) n= -1:=fun h=>by
   have:=aGP ca cb h
   rw [va,vb] at this
   exact if_pos this
  have hgt:b.length < a.length→fP (m:Int) n=1:=fun h=>by
   have:=aGP cb ca h
   rw [va,vb] at this
   unfold fP
   rw [if_neg (by omega),if_pos this]
  repeat' (first|refine aW ?_|refine aQ rfl (fun h=>?_) (fun h=>?_)|refine aR rfl rfl (fun h=>?_) (fun h=>?_)|fail)
  ·rw [hlt (by omega)]
   refine gD rfl rfl (⟨rfl,rfl,rfl⟩)
  ·rw [hgt (by omega)]
   refine gD rfl rfl (⟨rfl,rfl,rfl⟩)
end
end Go.Proofs.YtgpkjcmipiodcaaGreat
namespace Go.Proofs.YtgpkjcmipiodcaaGreat
open Go Go.Fx
theorem aEB {n i:Nat}:0≤gt (gr n) (i:Int)∧gt (gr n) (i:Int) < 1000000000:=(bK n).gt i
theorem aZU {a:Option Addr} {c l sz:Nat} (h:Ok a):Ok (aET a c l sz):=by
 obtain ⟨b,o,rfl⟩:=h.cases
 unfold aET
 split
 ·exact Ok.mk _ _
 ·simp only [Option.map_some,add_lit];exact Ok.mk _ _
theorem aJS {R N t:Nat} (hN:(gr N).length=t+1) (hR:R < N*1000000000):
  ∃g:Nat,(gt (gr R) (((t+1:Nat):Int))*1000000000+gt (gr R) (t:Int)).tdiv (gt (gr N) (t:Int)+1)=(g:Int)∧g*N≤R∧g < 1000000000:=by
 have dR:=bK R
 have dN:=bK N
 have vR:=bT R
 have vN:=bT N
 have hNl:=jG dN
 rw [hN,vN] at hNl
 have hPp:=jD t
 have e1:(1000000000:Int) ^ (t+1)=1000000000 ^ t*1000000000:=Int.pow_succ _ _
 have hR2:val (gr R) < 1000000000 ^ (t+1+1):=by
  rw [vR,Int.pow_succ,e1]
  rw [e1] at hNl
  have:((R:Nat):Int) < (N:Int)*1000000000:=by omega
  omega
 have hT:=wR dR hR2
 have hT2:=bR (gr R) t
 have hM:=wR dN (k:=t) (by rw [vN];exact hNl)
 rw [←xR] at hT hT2 hM
 rw [vR] at hT
 rw [vN] at hM
 have l1:=iK dR t
 have l2:=bQ (dR.take t)
 have l3:=iK dN t
 have l4:=bQ (dN.take t)
 have g1:=dR.gt ((t+1:Nat):Int)
 have g2:=dR.gt (t:Int)
 have g3:=dN.gt (t:Int)
 rw [hT2,e1] at hT
 generalize val ((gr R).take t)=low at*
 generalize val ((gr N).take t)=bl at*
 generalize gt (gr R) (t:Int)=d0 at*
 generalize gt (gr R) ((t+1:Nat):Int)=d1 at*
 generalize gt (gr N) (t:Int)=b1 at*
 obtain ⟨P,hP⟩:∃P:Nat,(1000000000:Int) ^ t=(P:Int):=⟨1000000000 ^ t,by rw [Int.natCast_pow];rfl⟩
 rw [hP] at hT hM l1 l3 hPp
 clear hNl hR2 hT2 e1
 obtain ⟨top,htop⟩:∃top:Nat,d1*1000000000+d0=(top:Int):=⟨(d1*1000000000+d0).toNat,by omega⟩
 obtain ⟨b1n,rfl⟩:∃b:Nat,b1=(b:Int):=⟨b1.toNat,by omega⟩
 obtain ⟨lown,rfl⟩:∃b:Nat,low=(b:Int):=⟨low.toNat,by omega⟩
 obtain ⟨bln,rfl⟩:∃b:Nat,bl=(b:Int):=⟨bl.toNat,by omega⟩
 have hR3:R=top*P+lown:=by
  have:(R:Int)=(top:Int)*(P:Int)+(lown:Int):=by rw [←htop,hT];grind
  exact_mod_cast this
 have hN3:N=b1n*P+bln:=by
  have:(N:Int)=(b1n:Int)*(P:Int)+(bln:Int):=by rw [hM];grind
  exact_mod_cast this
 have hg:=aQS hR3 hN3 (by omega) (by omega) rfl
 refine ⟨top / (b1n+1),?_,hg,?_⟩
 ·rw [htop,Int.tdiv_eq_ediv_of_nonneg (by omega),Int.natCast_ediv];rfl
 ·have h1:top / (b1n+1)*N < 1000000000*N:=by omega
  exact Nat.lt_of_mul_lt_mul_right h1
theorem aOV {n f bt:Nat} (hn:1≤(gr n).length) (hbt:gt (gr n) (((gr n).length:Int) - 1)=(bt:Int)) (h1:0 < f) (hf:f*(bt+1)≤1000000000):(gr (n*f)).length=(gr n).length:=by
 refine Nat.le_antisymm (lQ ?_) (fK (Nat.le_mul_of_pos_right _ h1))
 obtain ⟨t,ht⟩:∃t,(gr n).length=t+1:=⟨(gr n).length - 1,by omega⟩
 have dN:=bK n
 have vN:=bT n
 have hNl:=jG dN
 rw [ht] at hNl
 have hM:=wR dN (k:=t) hNl
 have l3:=iK dN t
 rw [←xR] at hM
 rw [ht] at hbt ⊢
 rw [show (((t+1:Nat):Int) - 1)=(t:Int) by omega] at hbt
 rw [hbt,vN] at hM
 have hlt:(n:Int) < 1000000000 ^ t*((bt:Int)+1):=by rw [Int.mul_add];omega
 have h2:((n*f:Nat):Int) < (1000000000 ^ t*((bt:Int)+1))*f:=by rw [Int.natCast_mul];exact Int.mul_lt_mul_of_pos_right hlt (by omega)
 have h3:(1000000000:Int) ^ t*((bt:Int)+1)*f≤1000000000 ^ (t+1):=by
  rw [Int.pow_succ,Int.mul_assoc]
  refine Int.mul_le_mul_of_nonneg_left ?_ (Int.le_of_lt (jD t))
  have:((f*(bt+1):Nat):Int)≤1000000000:=by omega
  rw [Int.natCast_mul,Int.mul_comm] at this
  exact this
 have h4:((n*f:Nat):Int) < ((1000000000 ^ (t+1):Nat):Int):=by rw [Int.natCast_pow];exact Int.lt_of_lt_of_le h2 h3
 omega
section
variable {X:List Nat} {w0:World} {M0:List Ent} {I0:List aV}
theorem aFC {q:Option Addr} {n c d:Nat} (hn:(gr n).length≤100000000000) (hd:0 < d∧d < 1000000000) (hq:aI q (recs eG (gr n))∈I0):
  CD Tryz.prog 202 [.slice q (gr n).length c, .int .u64 (d:Int)] X w0 M0 I0 (fun v M I=>M0=M∧∃p1 c1,rR p1 (n / d) c1∧v= .tuple #[.slice p1 (gr (n / d)).length c1, .int .u64 ((n % d:Nat):Int)]∧I=aI p1 (recs eG (gr (n / d)))::I0):=by
 have da:=bK n
 have va:=bT n
 generalize ha:gr n=a at*
 refine aP Tryz.func202 rfl Tryz.ntmps202 rfl ?_
 repeat refine aW ?_
 (refine lM (a.length) rfl rfl (by omega) (by omega) (by omega) (by omega) (nT _ _) rfl rfl ?_;intro bo;refine aL ?_)
 repeat refine aW ?_
 refine eO [0,1,6] rfl (fun k G M I=>∃(i:Nat) (o:List Int) (r x:Int),i≤a.length∧k=i∧x=(i:Int) - 1∧o.length=a.length∧Dig o∧(0≤r∧r < d)∧val (a.drop i)=(d:Int)*val (o.drop i)+r∧G=[(7, .int .u64 r),(8, .int .i64 x)]∧M= .blk bo (recs eG o) 181::M0∧I0=I) (a.length) _ _ _ dS aG aF (⟨a.length,_,0,_,by omega,rfl,rfl,by simp,Dig.zeros _,by omega,by rw [List.drop_of_length_le (by omega),List.drop_of_length_le (by simp)];simp [val],rfl,rfl,rfl⟩) ?_
 rintro k G M I ⟨i,o,r,x,hi,rfl,hx,ho,hdo,hr,hv,rfl,rfl,rfl⟩
 by_cases h0:k=0
 ·subst h0
  rw [List.drop_zero,List.drop_zero,va] at hv
  have hq1:val o=((n / d:Nat):Int):=by
   have:=(Int.ediv_emod_unique (a:=(n:Int)) (b:=(d:Int)) (r:=r) (q:=val o) (by omega)).2 ⟨by omega,hr.1,hr.2⟩
   rw [←this.1];rfl
  have hr1:r=((n % d:Nat):Int):=by
   have:=(Int.ediv_emod_unique (a:=(n:Int)) (b:=(d:Int)) (r:=r) (q:=val o) (by omega)).2 ⟨by omega,hr.1,hr.2⟩
   rw [←this.2];rfl
  subst hr1
  repeat refine aW ?_
  refine aC (b:=bo) uB ?_
  have hM:=oL (X:=X) (w0:=w0) (M0:=M0) (I0:=aI (some ⟨bo,0,none⟩) (recs eG o)::I0) (q:=some ⟨bo,0,none⟩) (c:=a.length) (by omega) (by omega) (.inl (Ok.mk _ _)) hdo hq1 (by simp)
  rw [ho] at hM
  (refine aU rfl (hM) ?_;rintro _ _ _ ⟨rfl,q',c',rfl,hc',rfl⟩;refine aL ?_)
  repeat refine aW ?_
  refine tyS [4,5] rfl rfl (⟨rfl,q',c',hc',rfl,rfl⟩)
 ·obtain ⟨j,rfl⟩:∃j,k=j+1:=⟨k - 1,by omega⟩
  obtain rfl:x=(j:Int):=by omega
  have d1:=da.gt j
  obtain ⟨d2,d3,d4⟩:=aEW (r:=r) (g:=gt a (j:Int)) (d:=(d:Int)) (by omega) (by omega) hr d1
  have hst:=aIS (a:=a) (q:=o) (i:=j) (d:=d) (r:=r) (by omega) (by omega) hv
  rw [←xR] at hst
  have hnn:0≤r*1000000000+gt a (j:Int):=by omega
  have e1:(r*1000000000+gt a (j:Int)).tmod (d:Int)=(r*1000000000+gt a (j:Int)) % (d:Int):=Int.tmod_eq_emod_of_nonneg hnn
  have e2:(r*1000000000+gt a (j:Int)).tdiv (d:Int)=(r*1000000000+gt a (j:Int)) / (d:Int):=Int.tdiv_eq_ediv_of_nonneg hnn
  obtain ⟨s,hs⟩:∃s,s=(r*1000000000+gt a (j:Int)) % (d:Int):=⟨_,rfl⟩
  obtain ⟨t,ht⟩:∃t,t=(r*1000000000+gt a (j:Int)) / (d:Int):=⟨_,rfl⟩
  rw [←hs] at e1 d4 hst
  rw [←ht] at e2 d3 hst
  obtain ⟨u,hu⟩:∃u,u=r*1000000000:=⟨_,rfl⟩
  repeat refine aW ?_
  rw [e2]
  repeat refine aW ?_
  rw [e1]
  repeat refine aW ?_
  refine bY (j) _ _ _ (by first|omega|(simp only [List.length_append,List.length_cons,List.length_nil];omega)) dS aG aF (⟨j,_,s,(j:Int) - 1,by omega,rfl,by omega,by rw [dB];exact ho,by rw [rY];exact hdo.set _ d3,d4,by rw [rY];exact hst,rfl,rfl,rfl⟩)
end
end Go.Proofs.YtgpkjcmipiodcaaGreat
