/- fraction: Add, Sub, Mul, Divide, Compare fiducialref01: magnitudes: group, made, plus, min -/
import Derived.Test.YthhldplegmeolaaGreatZual
import Derived.Test.YthhldplegmeolaaGreatZuah
import Derived.Test.YthhldplegmeolaaGreatZuag
import Derived.Test.YthhldplegmeolaaGreatZuaf
import Derived.Test.YthhldplegmeolaaGreatZuai
import Derived.Test.YthhldplegmeolaaGreatZuak
set_option linter.unusedSimpArgs false
set_option linter.unusedVariables false
set_option maxRecDepth 100000
set_option maxHeartbeats 4000000
namespace Go.Proofs.YthhldplegmeolaaGreat
open Go Go.Fx
theorem aIA (k m:Nat):2 ^ (k+m)+2 ^ (m+k)≤2 ^ (k+m+1):=by
 rw [Nat.add_comm m k,Nat.pow_succ];omega
theorem vJ (q:Rat):(0:Int) < q.den:=by have:=q.den_nz;omega
theorem uK (p q:Rat):((p.den:Int)*q.den)≠0:=by
 have:=Int.mul_pos (vJ p) (vJ q);omega
theorem aGM {p q:Rat} (h:q≠0):((p.den:Int)*q.num)≠0:=fun h0=>by
 rcases Int.mul_eq_zero.1 h0 with h1|h1
 ·exact absurd h1 (by have:=vJ p;omega)
 ·exact h (Rat.num_eq_zero.1 h1)
section
variable {X:List Nat} {w0:World} {M0:List Ent} {I0:List aN}
theorem pJ {a b:RE} {k m:Nat} (hk:k+m+1≤500000000000) (ha:Hv I0 (bE a k)) (hb:Hv I0 (bE b m)):
  CD Tryz.prog 26 [rv a,rv b] X w0 M0 I0 (RQ (a.q+b.q) (k+m+1) M0 I0):=by
 refine aP Tryz.func26 rfl Tryz.ntmps26 rfl ?_
 refine fG ?_
 refine fQ rfl (fun b1=>?_)
 refine fQ rfl (fun b2=>?_)
 refine dG (fun b3=>?_)
 repeat refine aM ?_
 (repeat refine aF ?_);refine aS 2 [0,2,1,3,4,5] [1,2,0,0,0,0] mixed (by kernel_rfl) ?_
 repeat refine aM ?_
 refine gT rfl (jF (k:=k) (by omega) ha) (fun x hx=>?_)
 repeat refine aM ?_
 refine gT rfl (jF (k:=m) (by omega) hb.cons) (fun y hy=>?_)
 refine gK (e:=x) (k:=k) (Hv.mem (List.Mem.tail _ (List.Mem.head _))) ?_
 refine gK (e:=y) (k:=m) (Hv.mem (List.Mem.tail _ (List.Mem.tail _ (List.Mem.head _)))) ?_
 rw [←hx,←hy]
 have hM1:=fun u v M0 I0=>rT (X:=X) (w0:=w0) (M0:=M0) (I0:=I0) (u:=u) (v:=v) (y:=x.q.num) (z:=y.q.den) (k:=k) (m:=m) (by omega)
 have hM2:=fun u v M0 I0=>rT (X:=X) (w0:=w0) (M0:=M0) (I0:=I0) (u:=u) (v:=v) (y:=y.q.num) (z:=x.q.den) (k:=m) (m:=k) (by omega)
 have hM3:=fun u v M0 I0=>rT (X:=X) (w0:=w0) (M0:=M0) (I0:=I0) (u:=u) (v:=v) (y:=x.q.den) (z:=y.q.den) (k:=k) (m:=m) (by omega)
 have hA:=fun u v M0 I0=>aSQ (X:=X) (w0:=w0) (M0:=M0) (I0:=I0) (u:=u) (v:=v) (y:=x.q.num*y.q.den) (z:=y.q.num*x.q.den) (k:=k+m) (m:=m+k) (c:=k+m+1) (by omega) (by omega) (by omega) (aIA k m)
 have hR:=fun u v M0 I0=>uL (X:=X) (w0:=w0) (M0:=M0) (I0:=I0) (u:=u) (v:=v) (n:=x.q.num*y.q.den+y.q.num*x.q.den) (d:=x.q.den*y.q.den) (k:=k+m+1) (by omega) (uK _ _)
 rw [←uJ] at hR
 repeat refine aM ?_
 (repeat refine aF ?_);refine tyW (.blk b2 (eR y) 36:: .blk b1 (eR x) 36::M0) (I0) [0,1,2,3,5,6,7,8,11,12,13,14,4,9,10,15,16,17] [5,4,5,4,5,4,5,4,5,4,5,4,0,0,0,0,0,0] mixed ?_
 repeat refine aM ?_
 (refine bA rfl (hM1 _ _ _ _ aA aA) ?_;rintro _ _ _ ⟨rfl,rfl⟩;refine aU ?_)
 (refine bA rfl (hM2 _ _ _ _ aA aA) ?_;rintro _ _ _ ⟨rfl,rfl⟩;refine aU ?_)
 (refine bA rfl (hA _ _ _ _ aA aA) ?_;rintro _ _ _ ⟨rfl,rfl⟩;refine aU ?_)
 (refine bA rfl (hM3 _ _ _ _ aA aA) ?_;rintro _ _ _ ⟨rfl,rfl⟩;refine aU ?_)
 refine aFR (k2:=k+m+1) (List.Mem.head _) (by omega) ?_
 refine gT rfl (hR _ _ _ _ aA aA) (fun e he=>?_)
 repeat refine aM ?_
 refine aR (cs:=eR e) (.inl rfl) rfl rfl aA rfl M0 (bE e (k+m+1)::I0) aK aJ ⟨rfl,e,rfl,he,rfl⟩
theorem yH {a b:RE} {k m:Nat} (hk:k+m+1≤500000000000) (ha:Hv I0 (bE a k)) (hb:Hv I0 (bE b m)):
  CD Tryz.prog 67 [rv a,rv b] X w0 M0 I0 (RQ (a.q - b.q) (k+m+1) M0 I0):=by
 refine aP Tryz.func67 rfl Tryz.ntmps67 rfl ?_
 refine fG ?_
 refine fQ rfl (fun b1=>?_)
 refine fQ rfl (fun b2=>?_)
 refine dG (fun b3=>?_)
 repeat refine aM ?_
 (repeat refine aF ?_);refine aS 1 [0,1,2,3,4] [1,1,0,0,0] mixed (by kernel_rfl) ?_
 repeat refine aM ?_
 refine gT rfl (aIH (k:=m) (by omega) hb) (fun y hy=>?_)
 rw [Rat.sub_eq_add_neg,←hy]
 refine gT rfl (pJ hk ha.cons (Hv.mem (List.Mem.head _))) (fun e he=>?_)
 repeat refine aM ?_
 refine aR (cs:=eR e) (.inl rfl) rfl rfl aA rfl M0 (bE e (k+m+1)::I0) aK aJ ⟨rfl,e,rfl,he,rfl⟩
theorem jX {a b:RE} {k m:Nat} (hk:k+m≤500000000000) (ha:Hv I0 (bE a k)) (hb:Hv I0 (bE b m)):
  CD Tryz.prog 27 [rv a,rv b] X w0 M0 I0 (RQ (a.q*b.q) (k+m) M0 I0):=by
 refine aP Tryz.func27 rfl Tryz.ntmps27 rfl ?_
 refine fG ?_
 refine fQ rfl (fun b1=>?_)
 refine fQ rfl (fun b2=>?_)
 refine dG (fun b3=>?_)
 repeat refine aM ?_
 (repeat refine aF ?_);refine aS 2 [0,2,1,3,4,5] [1,2,0,0,0,0] mixed (by kernel_rfl) ?_
 repeat refine aM ?_
 refine gT rfl (jF (k:=k) (by omega) ha) (fun x hx=>?_)
 repeat refine aM ?_
 refine gT rfl (jF (k:=m) (by omega) hb.cons) (fun y hy=>?_)
 refine gK (e:=x) (k:=k) (Hv.mem (List.Mem.tail _ (List.Mem.head _))) ?_
 refine gK (e:=y) (k:=m) (Hv.mem (List.Mem.tail _ (List.Mem.tail _ (List.Mem.head _)))) ?_
 rw [←hx,←hy]
 have hM1:=fun u v M0 I0=>rT (X:=X) (w0:=w0) (M0:=M0) (I0:=I0) (u:=u) (v:=v) (y:=x.q.num) (z:=y.q.num) (k:=k) (m:=m) (by omega)
 have hM3:=fun u v M0 I0=>rT (X:=X) (w0:=w0) (M0:=M0) (I0:=I0) (u:=u) (v:=v) (y:=x.q.den) (z:=y.q.den) (k:=k) (m:=m) (by omega)
 have hR:=fun u v M0 I0=>uL (X:=X) (w0:=w0) (M0:=M0) (I0:=I0) (u:=u) (v:=v) (n:=x.q.num*y.q.num) (d:=x.q.den*y.q.den) (k:=k+m) (by omega) (uK _ _)
 rw [←aGT] at hR
 repeat refine aM ?_
 (repeat refine aF ?_);refine tyW (.blk b2 (eR y) 36:: .blk b1 (eR x) 36::M0) (I0) [0,1,2,3,5,6,7,8,4,9,10,11] [3,2,3,2,3,2,3,2,0,0,0,0] mixed ?_
 repeat refine aM ?_
 (refine bA rfl (hM1 _ _ _ _ aA aA) ?_;rintro _ _ _ ⟨rfl,rfl⟩;refine aU ?_)
 (refine bA rfl (hM3 _ _ _ _ aA aA) ?_;rintro _ _ _ ⟨rfl,rfl⟩;refine aU ?_)
 refine gT rfl (hR _ _ _ _ aA aA) (fun e he=>?_)
 repeat refine aM ?_
 refine aR (cs:=eR e) (.inl rfl) rfl rfl aA rfl M0 (bE e (k+m)::I0) aK aJ ⟨rfl,e,rfl,he,rfl⟩
abbrev zR:Value:= .agg #[.bool false, .slice none 0 0, .bool false, .slice none 0 0]
theorem rQ {a b:RE} {k m:Nat} (hk:k+m≤500000000000) (hb0:b.q≠0) (ha:Hv I0 (bE a k)) (hb:Hv I0 (bE b m)):
  CD Tryz.prog 29 [rv a,rv b] X w0 M0 I0 (RQc (a.q / b.q) (k+m) M0 I0):=by
 refine aP Tryz.func29 rfl Tryz.ntmps29 rfl ?_
 refine fG ?_
 refine fQ rfl (fun b1=>?_)
 refine fQ rfl (fun b2=>?_)
 refine dG (fun b3=>?_)
 repeat refine aM ?_
 (repeat refine aF ?_);refine aS 2 [0,2,1,3,4,5] [1,2,0,0,0,0] mixed (by kernel_rfl) ?_
 repeat refine aM ?_
 refine gT rfl (jF (k:=k) (by omega) ha) (fun x hx=>?_)
 repeat refine aM ?_
 refine gT rfl (jF (k:=m) (by omega) hb.cons) (fun y hy=>?_)
 refine gK (e:=x) (k:=k) (Hv.mem (List.Mem.tail _ (List.Mem.head _))) ?_
 refine gK (e:=y) (k:=m) (Hv.mem (List.Mem.tail _ (List.Mem.tail _ (List.Mem.head _)))) ?_
 rw [←hx,←hy]
 rw [←hy] at hb0
 have hs0:¬y.q.num.sign=0:=fun h=>hb0 (Rat.num_eq_zero.1 (Int.sign_eq_zero_iff_zero.1 h))
 have hS:=fun M0 I0=>oU (X:=X) (w0:=w0) (M0:=M0) (I0:=I0) (u:=vI y.p1 y.c1 y.q.num) (z:=y.q.num) (k:=m) (by omega)
 have hM1:=fun u v M0 I0=>rT (X:=X) (w0:=w0) (M0:=M0) (I0:=I0) (u:=u) (v:=v) (y:=x.q.num) (z:=y.q.den) (k:=k) (m:=m) (by omega)
 have hM3:=fun u v M0 I0=>rT (X:=X) (w0:=w0) (M0:=M0) (I0:=I0) (u:=u) (v:=v) (y:=x.q.den) (z:=y.q.num) (k:=k) (m:=m) (by omega)
 have hR:=fun u v M0 I0=>uL (X:=X) (w0:=w0) (M0:=M0) (I0:=I0) (u:=u) (v:=v) (n:=x.q.num*y.q.den) (d:=x.q.den*y.q.num) (k:=k+m) (by omega) (aGM hb0)
 rw [←aGN] at hR
 generalize y.q.num.sign=sy at*
 repeat refine aM ?_
 refine dC rfl (hS _ _ aA) ?_
 repeat refine aM ?_
 (repeat refine aF ?_);refine tyW (.blk b2 (eR y) 36:: .blk b1 (eR x) 36::M0) (I0) [0,1,2,3,5,6,7,8,4,9,10,11,12] [3,2,3,2,3,2,3,2,0,0,0,0,0] mixed ?_
 repeat refine aM ?_
 (refine bA rfl (hM1 _ _ _ _ aA aA) ?_;rintro _ _ _ ⟨rfl,rfl⟩;refine aU ?_)
 (refine bA rfl (hM3 _ _ _ _ aA aA) ?_;rintro _ _ _ ⟨rfl,rfl⟩;refine aU ?_)
 refine gT rfl (hR _ _ _ _ aA aA) (fun e he=>?_)
 repeat refine aM ?_
 refine gZ (rs:=[.cell 4 36, .tmp 5]) (vs:=[rv e, .int .i64 0]) (.inl rfl) rfl (.cellN (cs:=eR e) inferInstance rfl aA rfl (.tmp rfl .nil)) rfl M0 (bE e (k+m)::I0) aK aJ ⟨rfl,e,rfl,he,rfl⟩
theorem aEH {a b:RE} {k m:Nat} (hk:k+m≤500000000000) (hb0:b.q=0) (ha:Hv I0 (bE a k)) (hb:Hv I0 (bE b m)):
  CD Tryz.prog 29 [rv a,rv b] X w0 M0 I0 (fun v M I=>M0=M∧I0=I∧v= .tuple #[zR, .int .i64 14]):=by
 refine aP Tryz.func29 rfl Tryz.ntmps29 rfl ?_
 refine fG ?_
 refine fQ rfl (fun b1=>?_)
 refine fQ rfl (fun b2=>?_)
 refine dG (fun b3=>?_)
 repeat refine aM ?_
 (repeat refine aF ?_);refine aS 2 [0,2,1,3,4,5] [1,2,0,0,0,0] mixed (by kernel_rfl) ?_
 repeat refine aM ?_
 refine gT rfl (jF (k:=k) (by omega) ha) (fun x hx=>?_)
 repeat refine aM ?_
 refine gT rfl (jF (k:=m) (by omega) hb.cons) (fun y hy=>?_)
 refine gK (e:=y) (k:=m) (Hv.mem (List.Mem.head _)) ?_
 rw [←hy] at hb0
 have hs0:y.q.num.sign=0:=by rw [hb0];rfl
 have hS:=fun M0 I0=>oU (X:=X) (w0:=w0) (M0:=M0) (I0:=I0) (u:=vI y.p1 y.c1 y.q.num) (z:=y.q.num) (k:=m) (by omega)
 generalize y.q.num.sign=sy at*
 repeat refine aM ?_
 refine dC rfl (hS _ _ aA) ?_
 repeat refine aM ?_
 (refine aB rfl (fun _=>aY (pvs:=([]).zipIdx.map (fun p=>(p.2,p.1))) (cells:=[.bool false, .slice none 0 0, .bool false, .slice none 0 0]) rfl rfl) rfl rfl ?_)
 repeat refine aM ?_
 refine gZ (rs:=[.cell 4 36, .tmp 5]) (vs:=[zR, .int .i64 14]) (.inl rfl) rfl (.cellN (cs:=[.bool false, .slice none 0 0, .bool false, .slice none 0 0]) inferInstance rfl aA rfl (.tmp rfl .nil)) rfl M0 I0 aK aJ ⟨rfl,rfl,rfl⟩
def xS (p q:Rat):Int:=dY (p.num*q.den) (q.num*p.den)
theorem aPB {p q:Rat}:xS p q < 0↔p < q:=by
 unfold xS dY;rw [aMN];split <;>(try split) <;>omega
theorem aQY {p q:Rat}:0 < xS p q↔q < p:=by
 unfold xS dY;rw [aMN];split <;>(try split) <;>omega
theorem aPW {p q:Rat}:xS p q=0↔p=q:=by
 unfold xS dY;rw [aSY];split <;>(try split) <;>omega
theorem aEJ {a b:RE} {k m:Nat} (hk:k+m≤400000000000) (ha:Hv I0 (bE a k)) (hb:Hv I0 (bE b m)):
  CD Tryz.prog 25 [rv a,rv b] X w0 M0 I0 (fun v M I=>M0=M∧I0=I∧v= .int .i64 (xS a.q b.q)):=by
 refine aP Tryz.func25 rfl Tryz.ntmps25 rfl ?_
 refine fG ?_
 refine fQ rfl (fun b1=>?_)
 refine fQ rfl (fun b2=>?_)
 repeat refine aM ?_
 (repeat refine aF ?_);refine aS 2 [0,2,1,3,4,5] [1,2,0,0,0,0] mixed (by kernel_rfl) ?_
 repeat refine aM ?_
 refine gT rfl (jF (k:=k) (by omega) ha) (fun x hx=>?_)
 repeat refine aM ?_
 refine gT rfl (jF (k:=m) (by omega) hb.cons) (fun y hy=>?_)
 refine gK (e:=x) (k:=k) (Hv.mem (List.Mem.tail _ (List.Mem.head _))) ?_
 refine gK (e:=y) (k:=m) (Hv.mem (List.Mem.tail _ (List.Mem.tail _ (List.Mem.head _)))) ?_
 rw [←hx,←hy]
 have hM1:=fun u v M0 I0=>rT (X:=X) (w0:=w0) (M0:=M0) (I0:=I0) (u:=u) (v:=v) (y:=x.q.num) (z:=y.q.den) (k:=k) (m:=m) (by omega)
 have hM2:=fun u v M0 I0=>rT (X:=X) (w0:=w0) (M0:=M0) (I0:=I0) (u:=u) (v:=v) (y:=y.q.num) (z:=x.q.den) (k:=m) (m:=k) (by omega)
 have hC:=fun u v M0 I0=>uU (X:=X) (w0:=w0) (M0:=M0) (I0:=I0) (u:=u) (v:=v) (y:=x.q.num*y.q.den) (z:=y.q.num*x.q.den) (k:=k+m) (m:=m+k) (by omega) (by omega)
 repeat refine aM ?_
 (repeat refine aF ?_);refine tyW (.blk b2 (eR y) 36:: .blk b1 (eR x) 36::M0) (I0) [0,1,2,3,5,6,7,8,4,9,10,11] [3,2,3,2,3,2,3,2,0,0,0,0] mixed ?_
 repeat refine aM ?_
 (refine bA rfl (hM1 _ _ _ _ aA aA) ?_;rintro _ _ _ ⟨rfl,rfl⟩;refine aU ?_)
 (refine bA rfl (hM2 _ _ _ _ aA aA) ?_;rintro _ _ _ ⟨rfl,rfl⟩;refine aU ?_)
 refine dC rfl (hC _ _ _ _ aA aA) ?_
 repeat refine aM ?_
 refine iZ rfl rfl (⟨rfl,rfl,rfl⟩)
end
section
variable {P:Program} {n:Nat} {G:Env}
theorem aAQ {C:World→Prop} {ty t e:TypeId} {sz:Nat} {x y:Operand} {k:IntKind} {i:Int} {q:Option Addr} [ht:SliceTy P t e sz] (hx:ev G x=some (.slice q 0 0)) (hy:ev G y=some (.int k i)) (hi:i=0):
  Const P n G (.slice t x none (some y) none) ty C (.slice q 0 0):=by
 subst hi
 refine ⟨?_⟩
 intro st ha dst pos after guard w _
 cases q with
 |none=>simp [execOp,Instr.sliceAt,Instr.slice,ha.ev hx,eF ht.und,Fx.run_sizeOf ht.size,Instr.sliceBounds,Instr.sliceBound,asIntOf,ha.ev hy]
 |some ad=>simp [execOp,Instr.sliceAt,Instr.slice,ha.ev hx,eF ht.und,Fx.run_sizeOf ht.size,Instr.sliceBounds,Instr.sliceBound,asIntOf,ha.ev hy,Addr.add]
end
section
variable {X:List Nat} {w0:World} {M0:List Ent} {I0:List aN}
theorem nO {q:Option Addr} {l:List Int} {n c:Nat} {i:Int} (hn:n=l.length) (hi:0≤i) (hl:aD q (recs eG l)∈I0) (hd:Dig l):
  CD Tryz.prog 147 [.slice q n c, .int .i64 i] X w0 M0 I0 (fun v M I=>M0=M∧I0=I∧v= .int .u64 (gt l i)):=by
 subst hn
 have d:=hd.gt i
 refine dF Tryz.func147 rfl Tryz.ntmps147 rfl ?_
 repeat' (first|refine jK ?_|refine aI rfl (fun h=>?_) (fun h=>?_)|refine aH rfl rfl (fun h=>?_) (fun h=>?_)|fail)
 ·refine aT (by first|exact .inl rfl|exact .inr rfl) rfl rfl _ _ bJ bI (⟨rfl,rfl,rfl⟩)
 ·refine aT (by first|exact .inl rfl|exact .inr rfl) rfl rfl _ _ bJ bI (⟨rfl,rfl,by rw [aHZ (by omega)]⟩)
theorem aBL {p:Prop} [Decidable p] {q:Option Addr} {l:List Int} {n c:Nat} (h63:l.length≤1000000000000) (hc:l.length≤c) (hok:Ok q∨(l.length=0∧c=0)) (hd:Dig l) (hv:val l=n) (hl:aD q (recs eG l)∈I0):
  CD Tryz.prog 89 [.bool (B p), .slice q l.length c] X w0 M0 I0 (fun v M I=>M0=M∧∃q' c',v= .agg #[.bool (B (p∧n≠0)), .slice q' (gr n).length c']∧oP q' n c'∧I=aD q' (recs eG (gr n))::I0):=by
 have hg:dZ l=gr n:=lT hd hv
 refine dF Tryz.func89 rfl Tryz.ntmps89 rfl ?_
 refine fG ?_
 refine dG (fun b=>?_)
 repeat refine jK ?_
 refine dK [0,1,4] rfl (fun k G M I=>∃m:Nat,m≤l.length∧k=m∧dZ (l.take m)=dZ l∧∃x:Int,x=m∧G=[(5, .int .i64 x)]∧M= .blk b [.bool false, .slice none 0 0] 34::M0∧I0=I) (l.length) _ _ _ cZ bJ bI (⟨l.length,by omega,rfl,by rw [List.take_length],_,rfl,rfl,rfl,rfl⟩) ?_
 rintro k G M I ⟨m,hm,rfl,ht,x,hx,rfl,rfl,rfl⟩
 have hend:dZ l=l.take k→(n≠0↔0 < k)∧(gr n).length=k:=fun e=>by
  have hl1:(gr n).length=k:=by rw [←hg,e,List.length_take];omega
  refine ⟨⟨fun h=>?_,fun h h0=>?_⟩,hl1⟩
  ·rw [←hl1];exact List.length_pos_iff.2 (fun e=>h (mZ.1 e))
  ·rw [h0,fB] at hl1;simp at hl1;omega
 have hstep:∀j:Nat,j < l.length→l.take (j+1)=l.take j++[gt l (j:Int)]:=fun j hj=>by rw [List.take_succ_eq_append_getElem hj,eY hj]
 repeat' (first|refine jK ?_|refine aI rfl (fun h=>?_) (fun h=>?_)|refine aH rfl rfl (fun h=>?_) (fun h=>?_)|fail)
 ·have h1:=h
  refine bR (k - 1) _ _ _ (by first|omega|(simp only [List.length_append,List.length_cons,List.length_nil];omega)) cZ bJ bI (⟨k - 1,by omega,rfl,?_,_,by omega,rfl,rfl,rfl⟩)
  rw [←ht]
  obtain ⟨j,rfl⟩:∃j,k=j+1:=⟨k - 1,by omega⟩
  have e:((j+1:Nat):Int) - 1=j:=by omega
  rw [hx,e] at h1
  rw [hstep j (by omega),h1,uS]
  rfl
 all_goals
  have htk:dZ l=l.take k:=by
   rw [←ht]
   refine yL ?_
   rcases Nat.eq_zero_or_pos k with h0|h0
   ·subst h0;simp [Top]
   ·obtain ⟨j,rfl⟩:∃j,k=j+1:=⟨k - 1,by omega⟩
    have e:((j+1:Nat):Int) - 1=j:=by omega
    rw [hstep j (by omega),Top.snoc]
    first
     |(rw [←e,←hx];assumption)
     |(exfalso;omega)
  obtain ⟨hnz,hlk⟩:=hend htk
  have hgk:gr n=l.take k:=by rw [←hg,htk]
 all_goals
  have hsl:aD q (recs eG (gr n))∈aD q (recs eG (gr n))::I0:=List.Mem.head _
  refine mO (M':= .blk b [.bool false, .slice none 0 0] 34::M0) (I':=aD q (recs eG (gr n))::I0) (fun w hw=>hw.takeI (cs:=recs eG (gr n)) (tl:=recs eG (l.drop k)) (by rw [hgk,←nL,List.take_append_drop];exact hl)) ?_
  subst hx
  refine nG (cs:=recs eG []) ([]) rfl (fun b1=>?_)
  repeat refine jK ?_
  have hbool:∀y:Bool,(y=true↔(p∧n≠0))→Value.bool y= .bool (B (p∧n≠0)):=fun y hy=>by
   refine congrArg Value.bool ?_
   by_cases hp:p∧n≠0
   ·rw [bV hp];exact hy.2 hp
   ·rw [aW hp];cases y with
    |false=>rfl
    |true=>exact absurd (hy.1 rfl) hp
  rcases hok with hok|⟨hl0,hc0⟩
  ·obtain ⟨b9,o9,rfl⟩:=hok.cases
   refine aB rfl (fun _=>kF k rfl rfl rfl (by omega)) rfl rfl ?_
   refine rA (b:=b1) (mm:=0) 1 pQ rfl (by omega) ?_
   refine jC (xs:=[]) (ys:=gr n) 0 rfl rfl rfl (Src.imm (List.Mem.head _) (.inl (Ok.mk _ _))) (by decide) hlk (by simp <;>omega) (by simp <;>omega) rfl rfl ?_
   intro a2 c2
   refine ⟨okJ,?_⟩
   rw [List.nil_append]
   refine nI (fun w hw=>And.intro (hw.rowLe (List.Mem.head _)) ((hw.rowS (List.Mem.head _)).2.imp id And.right)) (fun ho3=>?_)
   refine fK uV ?_
   refine aB rfl (fun _=>aY (pvs:=[(0,_),(1,_)]) (cells:=[_, .slice a2 (gr n).length c2]) rfl rfl) rfl rfl ?_
   repeat refine jK ?_
   refine aR (cs:=[_, .slice a2 (gr n).length c2]) (.inl rfl) rfl rfl aQ rfl M0 (aD a2 (recs eG (gr n))::I0) bJ bI ⟨rfl,a2,c2,?_,ho3,rfl⟩
   first
    |exact congrArg (fun x=>Value.agg #[x, .slice a2 (gr n).length c2]) (hbool (B ((0:Int) < ((k:Nat):Int))) (by rw [pW,decide_eq_true_iff];exact ⟨fun h=>⟨by assumption,hnz.2 (by omega)⟩,fun h=>by have:=hnz.1 h.2;omega⟩))
    |exact congrArg (fun x=>Value.agg #[x, .slice a2 (gr n).length c2]) (hbool false ⟨fun h=>(by cases h),fun h=>absurd h.1 (by assumption)⟩)
  ·subst hc0
   obtain rfl:k=0:=by omega
   have hn0:gr n=[]:=by rw [hgk];rfl
   obtain rfl:l=[]:=List.eq_nil_of_length_eq_zero hl0
   refine aB rfl (fun _=>aAQ rfl rfl rfl) rfl rfl ?_
   refine rA (b:=b1) (mm:=0) 1 pQ rfl (by omega) ?_
   refine jC (xs:=[]) (ys:=gr n) 0 rfl rfl rfl (Src.imm (List.Mem.head _) (.inr ⟨rfl,rfl⟩)) (by decide) hlk (by simp <;>omega) (by simp <;>omega) rfl rfl ?_
   intro a2 c2
   refine ⟨okJ,?_⟩
   rw [List.nil_append]
   refine nI (fun w hw=>And.intro (hw.rowLe (List.Mem.head _)) ((hw.rowS (List.Mem.head _)).2.imp id And.right)) (fun ho3=>?_)
   refine fK uV ?_
   refine aB rfl (fun _=>aY (pvs:=[(0,_),(1,_)]) (cells:=[_, .slice a2 (gr n).length c2]) rfl rfl) rfl rfl ?_
   repeat refine jK ?_
   refine aR (cs:=[_, .slice a2 (gr n).length c2]) (.inl rfl) rfl rfl aQ rfl M0 (aD a2 (recs eG (gr n))::I0) bJ bI ⟨rfl,a2,c2,?_,ho3,rfl⟩
   first
    |exact congrArg (fun x=>Value.agg #[x, .slice a2 (gr n).length c2]) (hbool (B ((0:Int) < ((0:Nat):Int))) (by rw [pW,decide_eq_true_iff];exact ⟨fun h=>⟨by assumption,hnz.2 (by omega)⟩,fun h=>by have:=hnz.1 h.2;omega⟩))
    |exact congrArg (fun x=>Value.agg #[x, .slice a2 (gr n).length c2]) (hbool false ⟨fun h=>(by cases h),fun h=>absurd h.1 (by assumption)⟩)
end
end Go.Proofs.YthhldplegmeolaaGreat
namespace Go.Proofs.YthhldplegmeolaaGreat
open Go Go.Fx
theorem sD (l:List Int) (x:Int):val (l++[x])=val l+1000000000 ^ l.length*x:=by rw [val_append];simp [val]
theorem nP (l:List Int) (i:Nat):val (l.take (i+1))=val (l.take i)+1000000000 ^ i*gt l (i:Int):=by rw [bD,tZ]
section
variable {X:List Nat} {w0:World} {M0:List Ent} {I0:List aN}
theorem lK {q:Option Addr} {l:List Int} {n c:Nat} (h63:l.length≤1000000000000) (hc:l.length≤c) (hok:Ok q∨(l.length=0∧c=0)) (hd:Dig l) (hv:val l=n) (hl:aD q (recs eG l)∈I0):
  CD Tryz.prog 89 [.bool false, .slice q l.length c] X w0 M0 I0 (fun v M I=>M0=M∧∃q' c',v= .agg #[.bool (B (False∧n≠0)), .slice q' (gr n).length c']∧oP q' n c'∧I=aD q' (recs eG (gr n))::I0):=by
 have:=aBL (X:=X) (w0:=w0) (M0:=M0) (I0:=I0) (p:=False) h63 hc hok hd hv hl
 rwa [aW (show ¬False from id)] at this
theorem yK {s:Int} (h:0≤s):s.tmod 1000000000=s % 1000000000:=Int.tmod_eq_emod_of_nonneg h
theorem zC {s:Int} (h:0≤s):s.tdiv 1000000000=s / 1000000000:=Int.tdiv_eq_ediv_of_nonneg h
theorem aNJ {p q:Option Addr} {m n cp cq:Nat} (hm:(gr m).length≤100000000000) (hn:(gr n).length≤100000000000) (hp:aD p (recs eG (gr m))∈I0) (hq:aD q (recs eG (gr n))∈I0):
  CD Tryz.prog 162 [.slice p (gr m).length cp, .slice q (gr n).length cq] X w0 M0 I0 (GrP (m+n) M0 I0):=by
 have da:=bC m
 have db:=bC n
 have va:=bH m
 have vb:=bH n
 generalize ha:gr m=a at*
 generalize hb:gr n=b at*
 obtain ⟨N,hN⟩:∃N:Nat,N=max a.length b.length:=⟨_,rfl⟩
 refine aP Tryz.func162 rfl Tryz.ntmps162 rfl ?_
 repeat' (first|refine aM ?_|refine aI rfl (fun h=>?_) (fun h=>?_)|refine aH rfl rfl (fun h=>?_) (fun h=>?_)|fail)
 refine nG (cs:=recs eG []) ([]) rfl (fun b1=>?_)
 repeat' (first|refine aM ?_|refine aI rfl (fun h=>?_) (fun h=>?_)|refine aH rfl rfl (fun h=>?_) (fun h=>?_)|fail)
 refine sP (b:=b1) (mm:=0) 1 mW rfl (by omega) ?_
 refine dK [0,1] rfl (fun k G M I=>∃(i:Nat) (o:List Int) (cr:Int) (q1:Option Addr) (c1:Nat),i≤N∧k=N - i∧o.length=i∧Dig o∧(0≤cr∧cr≤1)∧val o+1000000000 ^ i*cr=val (a.take i)+val (b.take i)∧G=[(5, .slice q1 o.length c1),(6, .int .u64 cr),(7, .int .i64 i)]∧M= .row q1 o.length c1 (recs eG o) 103 1::M0∧I0=I) (N) _ _ _ cZ aK aJ (⟨0,[],0,_,_,by omega,rfl,rfl,Dig.nil,by omega,by simp [val],rfl,rfl,rfl⟩) ?_
 rintro k G M I ⟨i,o,cr,q1,c1,hi,rfl,ho,hd,hcr,hv,rfl,rfl,rfl⟩
 by_cases hiN:i < N
 ·have d1:=da.gt i
  have d2:=db.gt i
  have e1:=yK (s:=gt a i+gt b i+cr) (by omega)
  have e2:=zC (s:=gt a i+gt b i+cr) (by omega)
  obtain ⟨s,hs⟩:∃s,s=(gt a i+gt b i+cr) % 1000000000:=⟨_,rfl⟩
  obtain ⟨t,ht⟩:∃t,t=(gt a i+gt b i+cr) / 1000000000:=⟨_,rfl⟩
  have hst:0≤s∧s < 1000000000∧0≤t∧t≤1∧s+1000000000*t=gt a i+gt b i+cr:=by omega
  rw [←hs] at e1
  rw [←ht] at e2
  have hG:=fun M0 I0=>nO (X:=X) (w0:=w0) (M0:=M0) (I0:=I0) (q:=p) (l:=a) (n:=a.length) (c:=cp) (i:=i) rfl (by omega)
  have hG2:=fun M0 I0=>nO (X:=X) (w0:=w0) (M0:=M0) (I0:=I0) (q:=q) (l:=b) (n:=b.length) (c:=cq) (i:=i) rfl (by omega)
  repeat' (first|refine aM ?_|refine aI rfl (fun h=>?_) (fun h=>?_)|refine aH rfl rfl (fun h=>?_) (fun h=>?_)|fail)
  all_goals
   refine dC rfl (hG _ _ aA da) ?_
   repeat' (first|refine aM ?_|refine aI rfl (fun h=>?_) (fun h=>?_)|refine aH rfl rfl (fun h=>?_) (fun h=>?_)|fail)
   refine dC rfl (hG2 _ _ aA db) ?_
   repeat' (first|refine aM ?_|refine aI rfl (fun h=>?_) (fun h=>?_)|refine aH rfl rfl (fun h=>?_) (fun h=>?_)|fail)
   rw [e1]
   repeat' (first|refine aM ?_|refine aI rfl (fun h=>?_) (fun h=>?_)|refine aH rfl rfl (fun h=>?_) (fun h=>?_)|fail)
   refine nG (cs:=recs eG [s]) ([.int .u32 s]) rfl (fun b2=>?_)
   refine tyP (ys:=[s]) 1 rfl rfl rfl (fun a2 c2=>?_)
   repeat' (first|refine aM ?_|refine aI rfl (fun h=>?_) (fun h=>?_)|refine aH rfl rfl (fun h=>?_) (fun h=>?_)|fail)
   rw [e2]
   refine lN (N - (i+1)) (⟨i+1,o++[s],t,a2,c2,by omega,rfl,by simp;omega,hd.snoc (by omega),by omega,?_,rfl,rfl,rfl⟩)
   rw [sD,nP,nP,ho,Int.pow_succ,Int.mul_assoc]
   have h3:=congrArg (fun x=>1000000000 ^ i*x) hst.2.2.2.2
   simp only [Int.mul_add] at h3 hv ⊢
   omega
 ·obtain rfl:i=N:=by omega
  rw [List.take_of_length_le (show a.length≤i by omega),List.take_of_length_le (show b.length≤i by omega),va,vb] at hv
  have hv2:val (o++[cr])=((m+n:Nat):Int):=by rw [sD,ho,hv];omega
  have hd2:Dig (o++[cr]):=hd.snoc (by omega)
  repeat' (first|refine aM ?_|refine aI rfl (fun h=>?_) (fun h=>?_)|refine aH rfl rfl (fun h=>?_) (fun h=>?_)|fail)
  refine nG (cs:=recs eG [cr]) ([.int .u32 cr]) rfl (fun b2=>?_)
  refine tyP (ys:=[cr]) 1 rfl rfl rfl (fun a2 c2=>?_)
  refine nI (fun w hw=>And.intro (hw.rowLe (List.Mem.tail _ (List.Mem.head _))) ((hw.rowS (List.Mem.tail _ (List.Mem.head _))).2.imp id And.right)) (fun ho3=>?_)
  refine fK uC ?_
  (refine gD rfl (lK (by simp;omega) ho3.1 ho3.2 hd2 hv2 aA) rfl rfl ?_;rintro _ _ _ ⟨rfl,q',c',rfl,hc',rfl⟩;refine aU ?_)
  repeat' (first|refine aM ?_|refine aI rfl (fun h=>?_) (fun h=>?_)|refine aH rfl rfl (fun h=>?_) (fun h=>?_)|fail)
  refine iZ rfl rfl (⟨rfl,q',c',rfl,hc',rfl⟩)
theorem tF {p q:Option Addr} {m n cp cq:Nat} (hm:(gr m).length≤100000000000) (hle:n≤m) (hp:aD p (recs eG (gr m))∈I0) (hq:aD q (recs eG (gr n))∈I0):
  CD Tryz.prog 148 [.slice p (gr m).length cp, .slice q (gr n).length cq] X w0 M0 I0 (GrP (m - n) M0 I0):=by
 have da:=bC m
 have db:=bC n
 have va:=bH m
 have vb:=bH n
 have hl:(gr n).length≤(gr m).length:=fF hle
 generalize ha:gr m=a at*
 generalize hb:gr n=b at*
 obtain ⟨N,hN⟩:∃N:Nat,N=a.length:=⟨_,rfl⟩
 refine aP Tryz.func148 rfl Tryz.ntmps148 rfl ?_
 repeat' (first|refine aM ?_|refine aI rfl (fun h=>?_) (fun h=>?_)|refine aH rfl rfl (fun h=>?_) (fun h=>?_)|fail)
 refine nG (cs:=recs eG []) ([]) rfl (fun b1=>?_)
 repeat' (first|refine aM ?_|refine aI rfl (fun h=>?_) (fun h=>?_)|refine aH rfl rfl (fun h=>?_) (fun h=>?_)|fail)
 refine sP (b:=b1) (mm:=0) 1 mW rfl (by omega) ?_
 refine dK [0,1] rfl (fun k G M I=>∃(i:Nat) (o:List Int) (cr:Int) (q1:Option Addr) (c1:Nat),i≤N∧k=N - i∧o.length=i∧Dig o∧(0≤cr∧cr≤1)∧val o - 1000000000 ^ i*cr=val (a.take i) - val (b.take i)∧G=[(5, .slice q1 o.length c1),(6, .int .u64 cr),(7, .int .i64 i)]∧M= .row q1 o.length c1 (recs eG o) 103 1::M0∧I0=I) (N) _ _ _ cZ aK aJ (⟨0,[],0,_,_,by omega,rfl,rfl,Dig.nil,by omega,by simp [val],rfl,rfl,rfl⟩) ?_
 rintro k G M I ⟨i,o,cr,q1,c1,hi,rfl,ho,hd,hcr,hv,rfl,rfl,rfl⟩
 by_cases hiN:i < N
 ·have d1:=da.gt i
  have d2:=db.gt i
  have e1:=yK (s:=1000000000+gt a i - gt b i - cr) (by omega)
  have e2:=zC (s:=1000000000+gt a i - gt b i - cr) (by omega)
  obtain ⟨s,hs⟩:∃s,s=(1000000000+gt a i - gt b i - cr) % 1000000000:=⟨_,rfl⟩
  obtain ⟨t,ht⟩:∃t,t=(1000000000+gt a i - gt b i - cr) / 1000000000:=⟨_,rfl⟩
  have hst:0≤s∧s < 1000000000∧0≤t∧t≤1∧s - 1000000000*(1 - t)=gt a i - gt b i - cr:=by omega
  rw [←hs] at e1
  rw [←ht] at e2
  have hG:=fun M0 I0=>nO (X:=X) (w0:=w0) (M0:=M0) (I0:=I0) (q:=p) (l:=a) (n:=a.length) (c:=cp) (i:=i) rfl (by omega)
  have hG2:=fun M0 I0=>nO (X:=X) (w0:=w0) (M0:=M0) (I0:=I0) (q:=q) (l:=b) (n:=b.length) (c:=cq) (i:=i) rfl (by omega)
  repeat' (first|refine aM ?_|refine aI rfl (fun h=>?_) (fun h=>?_)|refine aH rfl rfl (fun h=>?_) (fun h=>?_)|fail)
  refine dC rfl (hG _ _ aA da) ?_
  repeat' (first|refine aM ?_|refine aI rfl (fun h=>?_) (fun h=>?_)|refine aH rfl rfl (fun h=>?_) (fun h=>?_)|fail)
  refine dC rfl (hG2 _ _ aA db) ?_
  repeat' (first|refine aM ?_|refine aI rfl (fun h=>?_) (fun h=>?_)|refine aH rfl rfl (fun h=>?_) (fun h=>?_)|fail)
  rw [e1]
  repeat' (first|refine aM ?_|refine aI rfl (fun h=>?_) (fun h=>?_)|refine aH rfl rfl (fun h=>?_) (fun h=>?_)|fail)
  refine nG (cs:=recs eG [s]) ([.int .u32 s]) rfl (fun b2=>?_)
  refine tyP (ys:=[s]) 1 rfl rfl rfl (fun a2 c2=>?_)
  repeat' (first|refine aM ?_|refine aI rfl (fun h=>?_) (fun h=>?_)|refine aH rfl rfl (fun h=>?_) (fun h=>?_)|fail)
  rw [e2]
  repeat' (first|refine aM ?_|refine aI rfl (fun h=>?_) (fun h=>?_)|refine aH rfl rfl (fun h=>?_) (fun h=>?_)|fail)
  refine lN (N - (i+1)) (⟨i+1,o++[s],1 - t,a2,c2,by omega,rfl,by simp;omega,hd.snoc (by omega),by omega,?_,rfl,rfl,rfl⟩)
  rw [sD,nP,nP,ho,Int.pow_succ,Int.mul_assoc]
  have h3:=congrArg (fun x=>1000000000 ^ i*x) hst.2.2.2.2
  simp only [Int.mul_sub] at h3 hv ⊢
  omega
 ·obtain rfl:i=N:=by omega
  rw [List.take_of_length_le (show a.length≤i by omega),List.take_of_length_le (show b.length≤i by omega),va,vb] at hv
  have hcr0:cr=0:=by
   have h1:=iF hd
   rw [ho] at h1
   by_cases c:cr=0
   ·exact c
   ·have:cr=1:=by omega
    subst this
    omega
  subst hcr0
  have hv2:val o=((m - n:Nat):Int):=by omega
  refine yD (fun w hw=>And.intro (hw.rowLe (List.Mem.head _)) ((hw.rowS (List.Mem.head _)).2.imp id And.right)) (fun ho3=>?_)
  repeat' (first|refine aM ?_|refine aI rfl (fun h=>?_) (fun h=>?_)|refine aH rfl rfl (fun h=>?_) (fun h=>?_)|fail)
  refine fK uC ?_
  (refine bA rfl (lK (by omega) ho3.1 ho3.2 hd hv2 aA) ?_;rintro _ _ _ ⟨rfl,q',c',rfl,hc',rfl⟩;refine aU ?_)
  repeat' (first|refine aM ?_|refine aI rfl (fun h=>?_) (fun h=>?_)|refine aH rfl rfl (fun h=>?_) (fun h=>?_)|fail)
  refine iZ rfl rfl (⟨rfl,q',c',rfl,hc',rfl⟩)
theorem uH {p:Option Addr} {m d cp:Nat} (hm:(gr m).length≤100000000000) (hdd:d < 1000000000) (hp:aD p (recs eG (gr m))∈I0):
  CD Tryz.prog 145 [.slice p (gr m).length cp, .int .u64 (d:Int)] X w0 M0 I0 (GrP (m*d) M0 I0):=by
 have da:=bC m
 have va:=bH m
 generalize ha:gr m=a at*
 obtain ⟨N,hN⟩:∃N:Nat,N=a.length:=⟨_,rfl⟩
 refine aP Tryz.func145 rfl Tryz.ntmps145 rfl ?_
 repeat' (first|refine aM ?_|refine aI rfl (fun h=>?_) (fun h=>?_)|refine aH rfl rfl (fun h=>?_) (fun h=>?_)|fail)
 refine nG (cs:=recs eG []) ([]) rfl (fun b1=>?_)
 repeat' (first|refine aM ?_|refine aI rfl (fun h=>?_) (fun h=>?_)|refine aH rfl rfl (fun h=>?_) (fun h=>?_)|fail)
 refine sP (b:=b1) (mm:=0) 1 mW rfl (by omega) ?_
 refine dK [0,1] rfl (fun k G M I=>∃(i:Nat) (o:List Int) (cr:Int) (q1:Option Addr) (c1:Nat),i≤N∧k=N - i∧o.length=i∧Dig o∧(0≤cr∧cr < 1000000000)∧val o+1000000000 ^ i*cr=val (a.take i)*d∧G=[(5, .slice q1 o.length c1),(6, .int .u64 cr),(7, .int .i64 i)]∧M= .row q1 o.length c1 (recs eG o) 103 1::M0∧I0=I) (N) _ _ _ cZ aK aJ (⟨0,[],0,_,_,by omega,rfl,rfl,Dig.nil,by omega,by simp [val],rfl,rfl,rfl⟩) ?_
 rintro k G M I ⟨i,o,cr,q1,c1,hi,rfl,ho,hd,hcr,hv,rfl,rfl,rfl⟩
 by_cases hiN:i < N
 ·have d1:=da.gt i
  have d4:=qV d1 (q:=(d:Int)) ⟨by omega,by omega⟩ (o:=0) (by omega) hcr
  obtain ⟨d5,d6,d7⟩:=d4
  rw [Int.zero_add] at d6 d7
  have d8:0≤gt a i*(d:Int)∧gt a i*(d:Int)≤18446744073709551615:=by omega
  have e1:=yK d6.1
  have e2:=zC d6.1
  obtain ⟨s,hs⟩:∃s,s=(gt a i*(d:Int)+cr) % 1000000000:=⟨_,rfl⟩
  obtain ⟨t,ht⟩:∃t,t=(gt a i*(d:Int)+cr) / 1000000000:=⟨_,rfl⟩
  have hst:0≤s∧s < 1000000000∧s+1000000000*t=gt a i*(d:Int)+cr:=by omega
  rw [←hs] at e1
  rw [←ht] at e2 d7
  repeat' (first|refine aM ?_|refine aI rfl (fun h=>?_) (fun h=>?_)|refine aH rfl rfl (fun h=>?_) (fun h=>?_)|fail)
  rw [e1]
  repeat' (first|refine aM ?_|refine aI rfl (fun h=>?_) (fun h=>?_)|refine aH rfl rfl (fun h=>?_) (fun h=>?_)|fail)
  refine nG (cs:=recs eG [s]) ([.int .u32 s]) rfl (fun b2=>?_)
  refine tyP (ys:=[s]) 1 rfl rfl rfl (fun a2 c2=>?_)
  repeat' (first|refine aM ?_|refine aI rfl (fun h=>?_) (fun h=>?_)|refine aH rfl rfl (fun h=>?_) (fun h=>?_)|fail)
  rw [e2]
  refine lN (N - (i+1)) (⟨i+1,o++[s],t,a2,c2,by omega,rfl,by simp;omega,hd.snoc (by omega),d7,?_,rfl,rfl,rfl⟩)
  rw [sD,nP,ho,Int.pow_succ,Int.mul_assoc,Int.add_mul,Int.mul_assoc]
  have h3:=congrArg (fun x=>1000000000 ^ i*x) hst.2.2
  simp only [Int.mul_add] at h3 hv ⊢
  omega
 ·obtain rfl:i=N:=by omega
  rw [List.take_of_length_le (show a.length≤i by omega),va] at hv
  have hv2:val (o++[cr])=((m*d:Nat):Int):=by rw [sD,ho,hv];simp
  have hd2:Dig (o++[cr]):=hd.snoc (by omega)
  repeat' (first|refine aM ?_|refine aI rfl (fun h=>?_) (fun h=>?_)|refine aH rfl rfl (fun h=>?_) (fun h=>?_)|fail)
  refine nG (cs:=recs eG [cr]) ([.int .u32 cr]) rfl (fun b2=>?_)
  refine tyP (ys:=[cr]) 1 rfl rfl rfl (fun a2 c2=>?_)
  refine nI (fun w hw=>And.intro (hw.rowLe (List.Mem.tail _ (List.Mem.head _))) ((hw.rowS (List.Mem.tail _ (List.Mem.head _))).2.imp id And.right)) (fun ho3=>?_)
  refine fK uC ?_
  (refine gD rfl (lK (by simp;omega) ho3.1 ho3.2 hd2 hv2 aA) rfl rfl ?_;rintro _ _ _ ⟨rfl,q',c',rfl,hc',rfl⟩;refine aU ?_)
  repeat' (first|refine aM ?_|refine aI rfl (fun h=>?_) (fun h=>?_)|refine aH rfl rfl (fun h=>?_) (fun h=>?_)|fail)
  refine iZ rfl rfl (⟨rfl,q',c',rfl,hc',rfl⟩)
theorem aFA {p:Option Addr} {m d cp:Nat} (hm:(gr m).length≤100000000000) (hdd:d < 1000000000) (hc:oP p m cp) (hp:aD p (recs eG (gr m))∈I0):
  CD Tryz.prog 146 [.slice p (gr m).length cp, .int .u32 (d:Int)] X w0 M0 I0 (GrP (m*1000000000+d) M0 I0):=by
 have da:=bC m
 have va:=bH m
 obtain ⟨hc1,hc2⟩:=hc
 generalize ha:gr m=a at*
 have hd2:Dig ([(d:Int)]++a):=Dig.app.2 ⟨by rw [Dig.cons];exact ⟨by omega,Dig.nil⟩,da⟩
 have hv2:val ([(d:Int)]++a)=((m*1000000000+d:Nat):Int):=by simp only [val_append,val,List.length_cons,List.length_nil,va];omega
 refine aP Tryz.func146 rfl Tryz.ntmps146 rfl ?_
 repeat' (first|refine aM ?_|refine aI rfl (fun h=>?_) (fun h=>?_)|refine aH rfl rfl (fun h=>?_) (fun h=>?_)|fail)
 refine nG (cs:=recs eG [(d:Int)]) ([.int .u32 (d:Int)]) rfl (fun b1=>?_)
 repeat' (first|refine aM ?_|refine aI rfl (fun h=>?_) (fun h=>?_)|refine aH rfl rfl (fun h=>?_) (fun h=>?_)|fail)
 refine rA (b:=b1) (mm:=1) 1 mW rfl (by omega) ?_
 refine jC (xs:=[(d:Int)]) (ys:=a) 0 rfl rfl rfl (Src.imm aA hc2) (by decide) rfl (by simp;omega) (by simp;omega) rfl rfl ?_
 intro a2 c2
 refine aU ?_
 refine nI (fun w hw=>And.intro (hw.rowLe (List.Mem.head _)) ((hw.rowS (List.Mem.head _)).2.imp id And.right)) (fun ho3=>?_)
 refine fK uC ?_
 (refine gD rfl (lK (by simp;omega) ho3.1 ho3.2 hd2 hv2 aA) rfl rfl ?_;rintro _ _ _ ⟨rfl,q',c',rfl,hc',rfl⟩;refine aU ?_)
 repeat' (first|refine aM ?_|refine aI rfl (fun h=>?_) (fun h=>?_)|refine aH rfl rfl (fun h=>?_) (fun h=>?_)|fail)
 refine iZ rfl rfl (⟨rfl,q',c',rfl,hc',rfl⟩)
theorem vK {p q:Option Addr} {m n cp cq:Nat} (hm:(gr m).length≤100000000000) (hn:(gr n).length≤100000000000) (hp:aD p (recs eG (gr m))∈I0) (hq:aD q (recs eG (gr n))∈I0):
  CD Tryz.prog 144 [.slice p (gr m).length cp, .slice q (gr n).length cq] X w0 M0 I0 (fun v M I=>M0=M∧I0=I∧v= .int .i64 (dY m n)):=by
 have ca:=sU m
 have cb:=sU n
 have va:=bH m
 have vb:=bH n
 generalize ha:gr m=a at*
 generalize hb:gr n=b at*
 refine aP Tryz.func144 rfl Tryz.ntmps144 rfl ?_
 by_cases hl:a.length=b.length
 ·repeat' (first|refine aM ?_|refine aI rfl (fun h=>?_) (fun h=>?_)|refine aH rfl rfl (fun h=>?_) (fun h=>?_)|fail)
  refine dK [0,1] rfl (fun k G M I=>∃(i:Nat) (x:Int),i≤a.length∧k=i∧x=(i:Int) - 1∧a.drop i=b.drop i∧G=[(5, .int .i64 x)]∧M0=M∧I0=I) (a.length) _ _ _ cZ aK aJ (⟨a.length,_,by omega,rfl,rfl,by rw [List.drop_of_length_le (by omega),List.drop_of_length_le (by omega)],rfl,rfl,rfl⟩) ?_
  rintro k G M I ⟨i,x,hi,rfl,hx,hs,rfl,rfl,rfl⟩
  by_cases h0:k=0
  ·subst h0
   rw [List.drop_zero,List.drop_zero] at hs
   have e:(m:Int)=n:=by rw [←va,←vb,hs]
   have hc0:dY (m:Int) n=0:=by unfold dY;rw [if_neg (by omega),if_neg (by omega)]
   rw [hc0]
   repeat' (first|refine aM ?_|refine aI rfl (fun h=>?_) (fun h=>?_)|refine aH rfl rfl (fun h=>?_) (fun h=>?_)|fail)
   refine iZ rfl rfl (⟨rfl,rfl,rfl⟩)
  ·obtain ⟨j,rfl⟩:∃j,k=j+1:=⟨k - 1,by omega⟩
   obtain rfl:x=(j:Int):=by omega
   have hlt:gt a (j:Int) < gt b (j:Int)→dY (m:Int) n= -1:=fun h=>by
    rw [tZ,tZ] at h
    have:=aOH ca.1 cb.1 hl (by omega) hs h
    rw [va,vb] at this
    exact if_pos this
   have hgt:gt b (j:Int) < gt a (j:Int)→dY (m:Int) n=1:=fun h=>by
    rw [tZ,tZ] at h
    have:=aOH cb.1 ca.1 hl.symm (by omega) hs.symm h
    rw [va,vb] at this
    unfold dY
    rw [if_neg (by omega),if_pos this]
   have heq:gt a (j:Int)=gt b (j:Int)→a.drop j=b.drop j:=fun h=>by
    rw [tZ,tZ] at h
    exact aNZ hl (by omega) h hs
   repeat' (first|refine aM ?_|refine aI rfl (fun h=>?_) (fun h=>?_)|refine aH rfl rfl (fun h=>?_) (fun h=>?_)|fail)
   (repeat refine aF ?_);refine dD [0,1,2,3,4,5,6,7,8] [0,0,0,0,0,0,0,0,0] mixed (by kernel_rfl) ?_
   repeat' (first|refine aM ?_|refine aI rfl (fun h=>?_) (fun h=>?_)|refine aH rfl rfl (fun h=>?_) (fun h=>?_)|fail)
   ·rw [hlt (by assumption)]
    refine iZ rfl rfl (⟨rfl,rfl,rfl⟩)
   (repeat refine aF ?_);refine dD [0,1,2,3,4,5,6,7,8] [0,0,0,0,0,0,0,0,0] mixed (by kernel_rfl) ?_
   repeat' (first|refine aM ?_|refine aI rfl (fun h=>?_) (fun h=>?_)|refine aH rfl rfl (fun h=>?_) (fun h=>?_)|fail)
   ·rw [hgt (by assumption)]
    refine iZ rfl rfl (⟨rfl,rfl,rfl⟩)
   ·repeat' (first|refine aM ?_|refine aI rfl (fun h=>?_) (fun h=>?_)|refine aH rfl rfl (fun h=>?_) (fun h=>?_)|fail)
    refine lN (j) (⟨j,(j:Int) - 1,by omega,rfl,by omega,heq (by omega),rfl,rfl,rfl⟩)
 ·have hlt:a.length < b.length→dY (m:Int) n= -1:=fun h=>by
   have:=aCL ca cb h
   rw [va,vb] at this
   exact if_pos this
  have hgt:b.length < a.length→dY (m:Int) n=1:=fun h=>by
   have:=aCL cb ca h
   rw [va,vb] at this
   unfold dY
   rw [if_neg (by omega),if_pos this]
  repeat' (first|refine aM ?_|refine aI rfl (fun h=>?_) (fun h=>?_)|refine aH rfl rfl (fun h=>?_) (fun h=>?_)|fail)
  ·rw [hlt (by omega)]
   refine iZ rfl rfl (⟨rfl,rfl,rfl⟩)
  ·rw [hgt (by omega)]
   refine iZ rfl rfl (⟨rfl,rfl,rfl⟩)
end
end Go.Proofs.YthhldplegmeolaaGreat
namespace Go.Proofs.YthhldplegmeolaaGreat
open Go Go.Fx
theorem zV {n i:Nat}:0≤gt (gr n) (i:Int)∧gt (gr n) (i:Int) < 1000000000:=(bC n).gt i
theorem aTB {a:Option Addr} {c l sz:Nat} (h:Ok a):Ok (sJ a c l sz):=by
 obtain ⟨b,o,rfl⟩:=h.cases
 unfold sJ
 split
 ·exact Ok.mk _ _
 ·simp only [Option.map_some,add_lit];exact Ok.mk _ _
theorem aER {R N t:Nat} (hN:(gr N).length=t+1) (hR:R < N*1000000000):
  ∃g:Nat,(gt (gr R) (((t+1:Nat):Int))*1000000000+gt (gr R) (t:Int)).tdiv (gt (gr N) (t:Int)+1)=(g:Int)∧g*N≤R∧g < 1000000000:=by
 have dR:=bC R
 have dN:=bC N
 have vR:=bH R
 have vN:=bH N
 have hNl:=iF dN
 rw [hN,vN] at hNl
 have hPp:=gL t
 have e1:(1000000000:Int) ^ (t+1)=1000000000 ^ t*1000000000:=Int.pow_succ _ _
 have hR2:val (gr R) < 1000000000 ^ (t+1+1):=by
  rw [vR,Int.pow_succ,e1]
  rw [e1] at hNl
  have:((R:Nat):Int) < (N:Int)*1000000000:=by omega
  omega
 have hT:=sI dR hR2
 have hT2:=bD (gr R) t
 have hM:=sI dN (k:=t) (by rw [vN];exact hNl)
 rw [←tZ] at hT hT2 hM
 rw [vR] at hT
 rw [vN] at hM
 have l1:=fO dR t
 have l2:=bB (dR.take t)
 have l3:=fO dN t
 have l4:=bB (dN.take t)
 have g1:=dR.gt ((t+1:Nat):Int)
 have g2:=dR.gt (t:Int)
 have g3:=dN.gt (t:Int)
 rw [hT2,e1] at hT
 generalize val ((gr R).take t)=low at*
 generalize val ((gr N).take t)=bl at*
 generalize gt (gr R) (t:Int)=d0 at*
 generalize gt (gr R) ((t+1:Nat):Int)=d1 at*
 generalize gt (gr N) (t:Int)=b1 at*
 obtain ⟨P,hP⟩:∃P:Nat,(1000000000:Int) ^ t=(P:Int):=⟨1000000000 ^ t,by rw [Int.natCast_pow];rfl⟩
 rw [hP] at hT hM l1 l3 hPp
 clear hNl hR2 hT2 e1
 obtain ⟨top,htop⟩:∃top:Nat,d1*1000000000+d0=(top:Int):=⟨(d1*1000000000+d0).toNat,by omega⟩
 obtain ⟨b1n,rfl⟩:∃b:Nat,b1=(b:Int):=⟨b1.toNat,by omega⟩
 obtain ⟨lown,rfl⟩:∃b:Nat,low=(b:Int):=⟨low.toNat,by omega⟩
 obtain ⟨bln,rfl⟩:∃b:Nat,bl=(b:Int):=⟨bl.toNat,by omega⟩
 have hR3:R=top*P+lown:=by
  have:(R:Int)=(top:Int)*(P:Int)+(lown:Int):=by rw [←htop,hT];grind
  exact_mod_cast this
 have hN3:N=b1n*P+bln:=by
  have:(N:Int)=(b1n:Int)*(P:Int)+(bln:Int):=by rw [hM];grind
  exact_mod_cast this
 have hg:=aJR hR3 hN3 (by omega) (by omega) rfl
 refine ⟨top / (b1n+1),?_,hg,?_⟩
 ·rw [htop,Int.tdiv_eq_ediv_of_nonneg (by omega),Int.natCast_ediv];rfl
 ·have h1:top / (b1n+1)*N < 1000000000*N:=by omega
  exact Nat.lt_of_mul_lt_mul_right h1
theorem aJV {n f bt:Nat} (hn:1≤(gr n).length) (hbt:gt (gr n) (((gr n).length:Int) - 1)=(bt:Int)) (h1:0 < f) (hf:f*(bt+1)≤1000000000):(gr (n*f)).length=(gr n).length:=by
 refine Nat.le_antisymm (oG ?_) (fF (Nat.le_mul_of_pos_right _ h1))
 obtain ⟨t,ht⟩:∃t,(gr n).length=t+1:=⟨(gr n).length - 1,by omega⟩
 have dN:=bC n
 have vN:=bH n
 have hNl:=iF dN
 rw [ht] at hNl
 have hM:=sI dN (k:=t) hNl
 have l3:=fO dN t
 rw [←tZ] at hM
 rw [ht] at hbt ⊢
 rw [show (((t+1:Nat):Int) - 1)=(t:Int) by omega] at hbt
 rw [hbt,vN] at hM
 have hlt:(n:Int) < 1000000000 ^ t*((bt:Int)+1):=by rw [Int.mul_add];omega
 have h2:((n*f:Nat):Int) < (1000000000 ^ t*((bt:Int)+1))*f:=by rw [Int.natCast_mul];exact Int.mul_lt_mul_of_pos_right hlt (by omega)
 have h3:(1000000000:Int) ^ t*((bt:Int)+1)*f≤1000000000 ^ (t+1):=by
  rw [Int.pow_succ,Int.mul_assoc]
  refine Int.mul_le_mul_of_nonneg_left ?_ (Int.le_of_lt (gL t))
  have:((f*(bt+1):Nat):Int)≤1000000000:=by omega
  rw [Int.natCast_mul,Int.mul_comm] at this
  exact this
 have h4:((n*f:Nat):Int) < ((1000000000 ^ (t+1):Nat):Int):=by rw [Int.natCast_pow];exact Int.lt_of_lt_of_le h2 h3
 omega
section
variable {X:List Nat} {w0:World} {M0:List Ent} {I0:List aN}
theorem aBG {q:Option Addr} {n c d:Nat} (hn:(gr n).length≤100000000000) (hd:0 < d∧d < 1000000000) (hq:aD q (recs eG (gr n))∈I0):
  CD Tryz.prog 143 [.slice q (gr n).length c, .int .u64 (d:Int)] X w0 M0 I0 (fun v M I=>M0=M∧∃p1 c1,oP p1 (n / d) c1∧v= .tuple #[.slice p1 (gr (n / d)).length c1, .int .u64 ((n % d:Nat):Int)]∧I=aD p1 (recs eG (gr (n / d)))::I0):=by
 have da:=bC n
 have va:=bH n
 generalize ha:gr n=a at*
 refine aP Tryz.func143 rfl Tryz.ntmps143 rfl ?_
 repeat refine aM ?_
 (refine iD (a.length) rfl rfl (by omega) (by omega) (by omega) (by omega) (mG _ _) rfl rfl ?_;intro bo;refine aU ?_)
 repeat refine aM ?_
 refine dK [0,1,6] rfl (fun k G M I=>∃(i:Nat) (o:List Int) (r x:Int),i≤a.length∧k=i∧x=(i:Int) - 1∧o.length=a.length∧Dig o∧(0≤r∧r < d)∧val (a.drop i)=(d:Int)*val (o.drop i)+r∧G=[(7, .int .u64 r),(8, .int .i64 x)]∧M= .blk bo (recs eG o) 103::M0∧I0=I) (a.length) _ _ _ cZ aK aJ (⟨a.length,_,0,_,by omega,rfl,rfl,by simp,Dig.zeros _,by omega,by rw [List.drop_of_length_le (by omega),List.drop_of_length_le (by simp)];simp [val],rfl,rfl,rfl⟩) ?_
 rintro k G M I ⟨i,o,r,x,hi,rfl,hx,ho,hdo,hr,hv,rfl,rfl,rfl⟩
 by_cases h0:k=0
 ·subst h0
  rw [List.drop_zero,List.drop_zero,va] at hv
  have hq1:val o=((n / d:Nat):Int):=by
   have:=(Int.ediv_emod_unique (a:=(n:Int)) (b:=(d:Int)) (r:=r) (q:=val o) (by omega)).2 ⟨by omega,hr.1,hr.2⟩
   rw [←this.1];rfl
  have hr1:r=((n % d:Nat):Int):=by
   have:=(Int.ediv_emod_unique (a:=(n:Int)) (b:=(d:Int)) (r:=r) (q:=val o) (by omega)).2 ⟨by omega,hr.1,hr.2⟩
   rw [←this.2];rfl
  subst hr1
  repeat refine aM ?_
  refine aG (b:=bo) uC ?_
  have hM:=lK (X:=X) (w0:=w0) (M0:=M0) (I0:=aD (some ⟨bo,0,none⟩) (recs eG o)::I0) (q:=some ⟨bo,0,none⟩) (c:=a.length) (by omega) (by omega) (.inl (Ok.mk _ _)) hdo hq1 (by simp)
  rw [ho] at hM
  (refine bA rfl (hM) ?_;rintro _ _ _ ⟨rfl,q',c',rfl,hc',rfl⟩;refine aU ?_)
  repeat refine aM ?_
  refine tyS [4,5] rfl rfl (⟨rfl,q',c',hc',rfl,rfl⟩)
 ·obtain ⟨j,rfl⟩:∃j,k=j+1:=⟨k - 1,by omega⟩
  obtain rfl:x=(j:Int):=by omega
  have d1:=da.gt j
  obtain ⟨d2,d3,d4⟩:=aAS (r:=r) (g:=gt a (j:Int)) (d:=(d:Int)) (by omega) (by omega) hr d1
  have hst:=aDT (a:=a) (q:=o) (i:=j) (d:=d) (r:=r) (by omega) (by omega) hv
  rw [←tZ] at hst
  have hnn:0≤r*1000000000+gt a (j:Int):=by omega
  have e1:(r*1000000000+gt a (j:Int)).tmod (d:Int)=(r*1000000000+gt a (j:Int)) % (d:Int):=Int.tmod_eq_emod_of_nonneg hnn
  have e2:(r*1000000000+gt a (j:Int)).tdiv (d:Int)=(r*1000000000+gt a (j:Int)) / (d:Int):=Int.tdiv_eq_ediv_of_nonneg hnn
  obtain ⟨s,hs⟩:∃s,s=(r*1000000000+gt a (j:Int)) % (d:Int):=⟨_,rfl⟩
  obtain ⟨t,ht⟩:∃t,t=(r*1000000000+gt a (j:Int)) / (d:Int):=⟨_,rfl⟩
  rw [←hs] at e1 d4 hst
  rw [←ht] at e2 d3 hst
  obtain ⟨u,hu⟩:∃u,u=r*1000000000:=⟨_,rfl⟩
  repeat refine aM ?_
  rw [e2]
  repeat refine aM ?_
  rw [e1]
  repeat refine aM ?_
  refine bR (j) _ _ _ (by first|omega|(simp only [List.length_append,List.length_cons,List.length_nil];omega)) cZ aK aJ (⟨j,_,s,(j:Int) - 1,by omega,rfl,by omega,by rw [bP];exact ho,by rw [oL];exact hdo.set _ d3,d4,by rw [oL];exact hst,rfl,rfl,rfl⟩)
end
end Go.Proofs.YthhldplegmeolaaGreat
