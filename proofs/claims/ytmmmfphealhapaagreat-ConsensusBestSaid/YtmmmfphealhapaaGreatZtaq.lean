/- slices.Values, AppendSeq, Collect, Sorted at ints. -/
import Derived.RangeFuncBox
import Derived.Maps.AppendAt
import Derived.Test.YtmmmfphealhapaaGreatZtaf
import Derived.Test.YtmmmfphealhapaaGreatZtap
import Derived.Test.YtmmmfphealhapaaGreatZtao
import Derived.Test.YtmmmfphealhapaaGreatZtal
import Derived.Test.YtmmmfphealhapaaGreatZtac
import Derived.Lib.SliceRun
import Derived.Test.YtmmmfphealhapaaGreatZtae
import Derived.Test.YtmmmfphealhapaaGreatZtam
set_option linter.unusedSimpArgs false
set_option linter.unusedVariables false
set_option maxRecDepth 100000
set_option maxHeartbeats 4000000
namespace Go.Proofs.YtmmmfphealhapaaGreat
open Go Go.Fx Go.RowKit Go.Shelf
attribute [local go_sem] Oper.semAt_some
theorem aUS (F:Fence) (n:Nat) (h:F.fn 207) (hro:F.round=none) (hn:1≤n) (l Bs n₀ b off cap:Nat) (zs:List Int) (hreach:zs.length*8≤140737488351232) (hb:b < n₀) (J Jx:List Int→World→Prop)
  (hY:∀pre x W,J pre W→pre.length < zs.length→YieldAt F (n - 1) Tryz.prog l #[.int .i64 x] W fun e W'=>
   (e= .returned (.bool true)∧J (pre++[x]) W'∧Below n₀ W W')∨(e= .returned (.bool false)∧Jx (pre++[x]) W'))
  (W:World) (hBs:W.cell? ⟨Bs,0,none⟩=some (.slice (some ⟨b,off,none⟩) zs.length cap)) (hc:∀j,j < zs.length→W.cell? ⟨b,off+j,none⟩=some (.int .i64 (zs[j]?.getD 0))) (h0:J [] W):
  CallsIn F n Tryz.prog 207 #[.func (.yield l) #[] #[], .pointer (some ⟨Bs,0,none⟩)] W fun e W'=>(∃v,e= .returned v)∧
   ((∃ys,ys=zs∧J ys W')∨(∃pre,pre <+:zs∧Jx pre W')):=by
 refine callsIn_of_wp Tryz.func207 rfl h ?_ hro
 simp only [Tryz.ntmps207,List.size_toArray,List.length_cons,List.length_nil,Nat.reduceAdd,Nat.reduceSub,Array.replicate_succ,Array.replicate_zero,List.push_toArray,List.append_toArray,List.nil_append,List.cons_append]
 gi_wp2
 gi_loopw [7] (fun i wr=>∃k:Nat,k≤zs.length∧i= .int .i64 k∧J (zs.take k) wr∧Below n₀ W wr)
  (fun i _=>zs.length - (intOf i).toNat)
 case atStart=>exact ⟨0,Nat.zero_le _,rfl,h0,Below.refl _ _⟩
 case round=>
  obtain ⟨k,hk,rfl,hJs,hnx⟩:=hrel
  have hcx:k < zs.length→wr.cell? ⟨b,off+k,none⟩=some (.int .i64 (zs[k]?.getD 0)):=fun h=>(hnx.cell (p:=⟨b,off+k,none⟩) hb).trans (hc k h)
  by_cases hlt:k < zs.length
  ·obtain ⟨fn,tmps,assign,body,hy,hR⟩:=hY _ (zs[k]?.getD 0) wr hJs (by rw [List.length_take];omega)
   have hcx':=hcx hlt
   clear hcx
   have hts:zs.take (k+1)=zs.take k++[zs[k]?.getD 0]:=by
    rw [List.take_add_one];congr 1
    simp [hlt]
   obtain ⟨g,hg⟩:∃g,zs[k]?.getD 0=g:=⟨_,rfl⟩
   rw [hg] at hy hR hcx' hts
   gi_wp2
   refine hR.mono ?_
   rintro e W3 (⟨rfl,hJ3,hk3⟩|⟨rfl,hJx3⟩)
   ·gi_wp2
    go_roundw
    case rel=>exact ⟨k+1,by omega,by simp,by rw [hts];exact hJ3,hnx.trans hk3⟩
    case measure=>simp [intOf];omega
   ·gi_wp2
    refine bodyPost_ret (results_none rfl _ _ _) rfl ?_
    exact ⟨⟨_,rfl⟩, .inr ⟨_,by rw [←hts];exact List.take_prefix _ _,hJx3⟩⟩
  ·obtain rfl:k=zs.length:=by omega
   rw [List.take_length] at hJs
   gi_wp2
   go_end0
   exact ⟨⟨_,rfl⟩, .inl ⟨_,rfl,hJs⟩⟩
theorem aJJ (F:Fence) (n:Nat) (h:F.fn 207) (hro:F.round=none) (l Bs c:Nat) (a:Option Addr) (J:List Int→World→Prop) (W:World) (hBs:W.cell? ⟨Bs,0,none⟩=some (.slice a 0 c)) (h0:J [] W):
  CallsIn F n Tryz.prog 207 #[.func (.yield l) #[] #[], .pointer (some ⟨Bs,0,none⟩)] W fun e W'=>(∃v,e= .returned v)∧J [] W':=by
 refine callsIn_of_wp Tryz.func207 rfl h ?_ hro
 simp only [Tryz.ntmps207,List.size_toArray,List.length_cons,List.length_nil,Nat.reduceAdd,Nat.reduceSub,Array.replicate_succ,Array.replicate_zero,List.push_toArray,List.append_toArray,List.nil_append,List.cons_append]
 gi_wp2
 gi_loopw [7] (fun i wr=>i= .int .i64 0∧J [] wr) (fun _ _=>0)
 case atStart=>exact ⟨rfl,h0⟩
 case round=>
  obtain ⟨rfl,hJs⟩:=hrel
  gi_wp2
  go_end0
  exact ⟨⟨_,rfl⟩,hJs⟩
theorem aCK {w:World} {b off:Nat} {zs:List Int} (h:Sl [] w (some ⟨b,off,none⟩) (recs (eI .i64) zs)):∀j,j < zs.length→w.cell? ⟨b,off+j,none⟩=some (.int .i64 (zs[j]?.getD 0)):=by
 intro j hj
 have h1:(recs (eI .i64) zs)[j]?=some (.int .i64 (zs[j]?.getD 0)):=by
  rw [lQ,List.getElem?_map]
  simp [hj]
 exact (h j _ h1).2.2
theorem aNC (F:Fence) (n:Nat) (h:F.fn 207) (hro:F.round=none) (hn:1≤n) (Bs n₀:Nat) (a:Option Addr) (cap:Nat) (zs:List Int) (hreach:zs.length*8≤140737488351232) (w:World) (hBs:Bs < w.heap.size) (hn₀:n₀≤w.heap.size)
  (hc:w.cell? ⟨Bs,0,none⟩=some (.slice a zs.length cap)) (hI:Sl [] w a (recs (eI .i64) zs)) (hlt:0 < zs.length→∀b,a.map (·.block)=some b→b < n₀):
  SeqStopsK F n Tryz.prog 207 #[.pointer (some ⟨Bs,0,none⟩)] (fun x:Int=>#[Value.int .i64 x]) (Below n₀) (fun ys=>ys=zs) (fun pre=>pre <+:zs) zs.length w:=fun l J Jx W hW _ _ hY h0=>by
 have hc':=(hW.cell (p:=⟨Bs,0,none⟩) (show Bs < w.heap.size from hBs)).trans hc
 by_cases hz:zs.length=0
 ·have hnil:zs=[]:=List.length_eq_zero_iff.1 hz
  rw [hz] at hc'
  exact (aJJ F n h hro l Bs cap a J W hc' h0).mono fun e W' ⟨he,hj⟩=>⟨he, .inl ⟨_,by rw [hnil],hj⟩⟩
 ·obtain ⟨b,off,rfl⟩:=(Sl.ok hI (by rw [fG];omega)).cases
  have hb:b < n₀:=hlt (by omega) b rfl
  have hcs:=aCK hI
  exact aUS F n h hro hn l Bs n₀ b off cap zs hreach hb J Jx hY W hc' (fun j hj=>(hW.cell (p:=⟨b,off+j,none⟩) (show b < w.heap.size from Nat.lt_of_lt_of_le hb hn₀)).trans (hcs j hj)) h0
theorem aWC:(Tryz.prog.info? 3).map (fun i=>(i.zero,i.size,i.bytes))=some (some (.int .i64 0),1,8):=by kernel_rfl
theorem bCO (a:Option Addr) (cap Bs:Nat) (zs:List Int) (w:World) (hlen:zs.length≤1000000) (hBs:Bs < w.heap.size) (hc:w.cell? ⟨Bs,0,none⟩=some (.slice a zs.length cap)) (hI:Sl [] w a (recs (eI .i64) zs)) (hlt:0 < zs.length→∀b,a.map (·.block)=some b→b < w.heap.size):
  CallsIn Fence.wide 5 Tryz.prog 254 #[.slice none 0 0, .func (.func 207) #[] #[.pointer (some ⟨Bs,0,none⟩)]] w fun e w'=>∃v,e= .returned v∧w'.ownsRow w.heap.size 3 1 v zs.length (zs.map (Value.int .i64))∧Below w.heap.size w w':=by
 obtain ⟨i0,hi,hz0,hz1,hz2⟩:=info_parts aWC
 refine callsIn_of_wp_marks Tryz.func254 rfl trivial ?_ rfl
 simp only [Tryz.ntmps254,List.size_toArray,List.length_cons,List.length_nil,Nat.reduceAdd,Nat.reduceSub,Array.replicate_succ,Array.replicate_zero,List.push_toArray,List.append_toArray,List.nil_append,List.cons_append]
 gi_wp2
 have bO:=Boxed.new w 31 (.slice none 0 0)
 have hB0:Below w.heap.size w (w.alloc (.cells #[.slice none 0 0] 31)):=(Below.refl _ w).alloc (Nat.le_refl _) _
 refine wpIn_rangeFunc_ownG rfl (by decide) (gf:=207) (lb:=#[.pointer (some ⟨Bs,0,none⟩)]) rfl trivial (enters_of Tryz.func207 (by kernel_rfl) rfl)
  (aNC Fence.wide (5 - 1) trivial rfl (by decide) Bs w.heap.size a cap zs (by omega) _ (by simp;omega) (by simp) ((hB0.cell (p:=⟨Bs,0,none⟩) hBs).trans hc) (Sl.mono hI (Ext.of_below hB0)) hlt) belowK_t (belowK_b (by simp)) (Below.refl _ _) (fun _=>rfl)
  (fun pre W=>(∃v,Boxed W w.heap.size 31 v∧W.ownsRow w.heap.size 3 1 v pre.length (pre.map (Value.int .i64))∧True)∧Below w.heap.size w W)
  (fun _ _ _=>False)
  (OwnFrom.and (Own.from (holdsRow_own w.heap.size w.heap.size 31 3 1 (fun pre:List Int=>pre.length) (fun pre=>pre.map (Value.int .i64)) (fun _ _=>True)) _) (ownFrom_below (Nat.le_refl _) (by simp)))
  (fun _ _ _ _ _ hs _ _=>hs)
  ⟨⟨_,bO,World.ownsRow_nil _ _ _ _,trivial⟩,hB0⟩ ?a1 ?assign ?body ?done ?stop
 case assign=>
  intro l x W K hK
  gi_wp2
  exact hK
 case body=>
  rintro l pre x W ⟨⟨v,hv,hrow,_⟩,hB⟩ hlt
  have hc:=hv.cell
  have hml : zs.length ≤ maxLen := by have : maxLen = 9223372036854775807 := by decide
                                      omega
  gi_wp2_with (gi_at_builtin;refine wpListIn_append_own _ rfl _ _ 31 rfl w.heap.size 3 i0 (.int .i64 0) 1 8 Tryz.underlying31 hi hz0 hz1 hz2 rfl (by decide) _ _ _ rfl (hrow.alloc _) ⟨W.heap.size,0,none⟩ 1 1 [.int .i64 x] rfl rfl (cell_one_new _ _ _) (by simp [Value.oneCell']) (by omega) (by omega) (by have:=hB.size;simp;omega) ?_;intro v' w1 hown' hgrow _;obtain ⟨g',cap',rfl⟩:=ownsRow_succ hown';obtain ⟨hv1,hv2,hr2,hk2,hb2⟩:=hv.appended (by decide) hrow hB.size (Nat.le_refl _) hown' hgrow;have hc1:=hv1.cell;have hf1:=hv1.frozen)
  exact ⟨hk2.from _,hb2,⟨_,hv2,by simpa using hr2,trivial⟩,hB.trans hb2⟩
 case done=>
  rintro D ys W hD rfl ⟨⟨v,hv,hrow,_⟩,hB⟩ hK
  have hc:=hv.cell
  gi_wp2
  refine ⟨by simp, .inl ⟨_,_,rfl,run_takeDeferred hK,?_⟩⟩
  exact ⟨_,results_tmp rfl _ _ _,v,rfl,ownsRow_putObj hrow _ hK rfl,hB.trans (belowK_b (w:=w) (Nat.le_refl _) W D _ _ (by simp at hD;omega) hK rfl rfl)⟩
 case stop=>
  rintro D c pre W _ _ h _
  exact h.elim
theorem bGB {w:World} {a:Option Addr} {zs:List Int} (h:Sl [] w a (recs (eI .i64) zs)):0 < zs.length→∀b,a.map (·.block)=some b→b < w.heap.size:=by
 intro hp b hb
 obtain ⟨b',off,rfl⟩:=(Sl.ok h (by rw [fG];omega)).cases
 simp at hb;subst hb
 have h3:=aCK h 0 hp
 exact Classical.byContradiction (fun hlt=>by
  unfold World.cell? at h3
  rw [Array.getElem?_eq_none (by simpa using hlt)] at h3
  simp at h3)
section
variable {X:List Nat} {w0:World} {M0:List Ent} {I0:List aL}
theorem bAY {q:Option Addr} {zs:List Int} {c Bs:Nat} (hn:zs.length≤1000000) (hb:aI (some ⟨Bs,0,none⟩) [.slice q zs.length c]∈I0) (hq:aI q (recs (eI .i64) zs)∈I0):
  CD Tryz.prog 254 [.slice none 0 0, .func (.func 207) #[] #[.pointer (some ⟨Bs,0,none⟩)]] X w0 M0 I0 (fun v M I=>I0=I∧∃q' c',v= .slice q' zs.length c'∧M= .row q' zs.length c' (recs (eI .i64) zs) 3 1::M0):=by
 refine ⟨fun w hw=>?_⟩
 have hS:=(hw.sl hb).less (Y:=[]) (by simp)
 have h3:w.cell? ⟨Bs,0,none⟩=some (.slice q zs.length c):=(hS 0 _ rfl).2.2
 have hsq:=(hw.sl hq).less (Y:=[]) (by simp)
 have hBs:Bs < w.heap.size:=Classical.byContradiction (fun hlt=>by
  unfold World.cell? at h3
  rw [Array.getElem?_eq_none (by simpa using hlt)] at h3
  simp at h3)
 refine Calls.mono (callsIn_wide.1 (bCO q c Bs zs w hn hBs h3 hsq (bGB hsq))) ?_
 rintro e w' ⟨v,rfl,hO,hB⟩
 obtain ⟨a',c',rfl,_,hle,_⟩:=aDO hO
 refine ⟨_,rfl,_,_,⟨rfl,a',c',rfl,rfl⟩,?_⟩
 rw [lQ]
 refine hw.push (Ext.of_below hB) ?_ ?_ (aYM hO (Nat.zero_le _))
 ·intro b hb
  cases a' with
  |none=>simp [Ent.blocks] at hb
  |some a'=>
   simp [Ent.blocks] at hb;subst hb
   exact (aZC hO _ rfl).1
 ·cases a' <;>simp [Ent.blocks]
end
end Go.Proofs.YtmmmfphealhapaaGreat
namespace Go.Proofs.YtmmmfphealhapaaGreat
open Go Go.Fx
section
variable {X:List Nat} {w0:World} {M0:List Ent} {I0:List aL}
theorem aHL {q:Option Addr} {n c:Nat}:CD Tryz.prog 133 [.slice q n c] X w0 M0 I0 (fun v M I=>M0=M∧∃b,v= .func (.func 207) #[] #[.pointer (some ⟨b,0,none⟩)]∧I=aI (some ⟨b,0,none⟩) [.slice q n c]::I0):=by
 refine aR Tryz.func133 rfl Tryz.ntmps133 rfl ?_
 refine gG ?_
 (refine oI rfl rfl rfl ?_;intro b1;refine aN ?_)
 repeat refine aB ?_
 refine iR rfl rfl (⟨rfl,b1,rfl,rfl⟩)
end
section
variable {X:List Nat} {w0:World} {M0:List Ent} {I0:List aL}
theorem aED {q:Option Addr} {zs:List Int} {c b n:Nat} (hl:zs.length=n) (hn:1≤n∧n≤12) (hb:aI (some ⟨b,0,none⟩) [.slice q n c]∈I0) (hq:aI q (recs eZ zs)∈I0):
  CD Tryz.prog 132 [.func (.func 207) #[] #[.pointer (some ⟨b,0,none⟩)]] X w0 M0 I0 (fun v M I=>I0=I∧∃(b2 c2:Nat) (tl:List Value),v= .slice (some ⟨b2,0,none⟩) n c2∧n≤c2∧M= .blk b2 (recs eZ (srt id zs)++tl) 3::M0):=by
 subst hl
 have hA:=fun M0 I0 hb hq=>bAY (X:=X) (w0:=w0) (M0:=M0) (I0:=I0) (q:=q) (zs:=zs) (c:=c) (Bs:=b) (by omega) hb hq
 have hC:∀M0 I0,aI (some ⟨b,0,none⟩) [.slice q zs.length c]∈I0→aI q (recs eZ zs)∈I0→CD Tryz.prog 205 [.func (.func 207) #[] #[.pointer (some ⟨b,0,none⟩)]] X w0 M0 I0 (fun v M I=>I0=I∧∃q' c',v= .slice q' zs.length c'∧M= .row q' zs.length c' (recs eZ zs) 3 1::M0):=fun M0 I0 h1 h2=>by
  refine aR Tryz.func205 rfl Tryz.ntmps205 rfl ?_
  repeat refine aB ?_
  (refine bD rfl (hA _ _ aA aA) ?_;rintro _ _ _ ⟨rfl,q',c',rfl,rfl⟩;refine aN ?_)
  repeat refine aB ?_
  refine iR rfl rfl (⟨rfl,q',c',rfl,rfl⟩)
 refine aR Tryz.func132 rfl Tryz.ntmps132 rfl ?_
 repeat refine aB ?_
 (refine bD rfl (hC _ _ aA aA) ?_;rintro _ _ _ ⟨rfl,q1,c1,rfl,rfl⟩;refine aN ?_)
 refine aBO (fun h1 h2 h3=>?_) (fun bq tl e hle=>?_)
 ·omega
 ·subst e
  repeat refine aB ?_
  (refine bD rfl (bCW (b:=bq) (tl:=tl) (D:=zs) rfl hn.2) ?_;rintro _ _ _ ⟨rfl,rfl⟩;refine aN ?_)
  repeat refine aB ?_
  refine iR rfl rfl (⟨rfl,bq,c1,tl,rfl,hle,rfl⟩)
end
def aGE (t X Y:Int) (d:Int × Int):Bool:=decide ((X - 2*t≤d.1∧d.1≤X)∧(Y - 2*t≤d.2∧d.2≤Y))
def sQ (l:List (Int × Int)) (t X Y:Int):Nat:=l.countP (aGE t X Y)
def lexL (X Y x y:Int):Prop:=X < x∨(X=x∧Y≤y)
structure BestD (l:List (Int × Int)) (t X Y:Int) (n:Nat):Prop where
 eq:n=sQ l t X Y
 inx:∃d∈l,d.1=X
 iny:∃d∈l,d.2=Y
 max:∀a∈l,∀b∈l,sQ l t a.1 b.2≤n
 least:∀a∈l,∀b∈l,sQ l t a.1 b.2=n→lexL X Y a.1 b.2
theorem BestD.uniq {l:List (Int × Int)} {t X Y X' Y':Int} {n n':Nat} (h:BestD l t X Y n) (h':BestD l t X' Y' n'):X=X'∧Y=Y'∧n=n':=by
 obtain ⟨a,ha,ea⟩:=h.inx
 obtain ⟨b,hb,eb⟩:=h.iny
 obtain ⟨a',ha',ea'⟩:=h'.inx
 obtain ⟨b',hb',eb'⟩:=h'.iny
 have e1:=h'.max a ha b hb
 have e2:=h.max a' ha' b' hb'
 rw [ea,eb,←h.eq] at e1
 rw [ea',eb',←h'.eq] at e2
 have en:n=n':=by omega
 have l1:=h'.least a ha b hb (by rw [ea,eb,←h.eq];exact en)
 have l2:=h.least a' ha' b' hb' (by rw [ea',eb',←h'.eq];exact en.symm)
 rw [ea,eb] at l1
 rw [ea',eb'] at l2
 unfold lexL at l1 l2
 refine ⟨?_,?_,en⟩ <;>omega
structure Bst (l:List (Int × Int)) (t:Int) (V:Int→Int→Prop) (X Y:Int) (n:Nat):Prop where
 eq:n=sQ l t X Y
 mem:V X Y
 max:∀x y,V x y→sQ l t x y≤n
 least:∀x y,V x y→sQ l t x y=n→lexL X Y x y
def BInv (l:List (Int × Int)) (t:Int) (V:Int→Int→Prop) (X Y:Int) (n:Nat):Prop:=(n=0∧∀x y,V x y→sQ l t x y=0)∨(0 < n∧Bst l t V X Y n)
section
variable {l:List (Int × Int)} {t X Y x y:Int} {V V':Int→Int→Prop} {n:Nat}
theorem BInv.le (h:BInv l t V X Y n) {a b:Int} (hv:V a b):sQ l t a b≤n:=by
 rcases h with ⟨_,h⟩|⟨_,h⟩
 ·rw [h a b hv];omega
 ·exact h.max a b hv
theorem BInv.more (h:BInv l t V X Y n) (hc:n < sQ l t x y) (hV:∀a b,V' a b→V a b∨(a=x∧b=y)) (hm:V' x y):BInv l t V' x y (sQ l t x y):=by
 refine .inr ⟨by omega,rfl,hm,fun a b hv=>?_,fun a b hv he=>?_⟩
 ·rcases hV a b hv with h1|⟨rfl,rfl⟩
  ·have:=h.le h1;omega
  ·omega
 ·rcases hV a b hv with h1|⟨rfl,rfl⟩
  ·have:=h.le h1;omega
  ·exact .inr ⟨rfl,Int.le_refl _⟩
theorem BInv.keep (h:BInv l t V X Y n) (hc:sQ l t x y≤n) (hl:0 < n→sQ l t x y=n→V X Y→lexL X Y x y) (hV:∀a b,V' a b→V a b∨(a=x∧b=y)) (hm:∀a b,V a b→V' a b):BInv l t V' X Y n:=by
 rcases h with ⟨h0,h⟩|⟨h0,h⟩
 ·refine .inl ⟨h0,fun a b hv=>?_⟩
  rcases hV a b hv with h1|⟨rfl,rfl⟩
  ·exact h a b h1
  ·omega
 ·refine .inr ⟨h0,h.eq,hm _ _ h.mem,fun a b hv=>?_,fun a b hv he=>?_⟩
  ·rcases hV a b hv with h1|⟨rfl,rfl⟩
   ·exact h.max a b h1
   ·exact hc
  ·rcases hV a b hv with h1|⟨rfl,rfl⟩
   ·exact h.least a b h1 he
   ·exact hl h0 he h.mem
theorem BInv.same (h:BInv l t V X Y n) (hV:∀a b,V' a b↔V a b):BInv l t V' X Y n:=by
 have e:V'=V:=by funext a b;exact propext (hV a b)
 rw [e];exact h
theorem bAX {d:Int × Int} (hd:d∈l) (ht:0≤t):0 < sQ l t d.1 d.2:=
 List.countP_pos_iff.2 ⟨d,hd,by simp only [aGE,decide_eq_true_eq];omega⟩
theorem BInv.best (h:BInv l t V X Y n) (hl:l≠[]) (ht:0≤t) (h1:∀a∈l,∀b∈l,V a.1 b.2) (h2:∀x y,V x y→(∃d∈l,d.1=x)∧(∃d∈l,d.2=y)):0 < n∧BestD l t X Y n:=by
 obtain ⟨d,r,rfl⟩:=List.exists_cons_of_ne_nil hl
 have hd:d∈d::r:=List.mem_cons_self
 have hp:=bAX hd ht
 rcases h with ⟨h0,h⟩|⟨h0,h⟩
 ·have:=h _ _ (h1 d hd d hd);omega
 ·exact ⟨h0,h.eq,(h2 _ _ h.mem).1,(h2 _ _ h.mem).2,fun a ha b hb=>h.max _ _ (h1 a ha b hb),fun a ha b hb he=>h.least _ _ (h1 a ha b hb) he⟩
end
theorem max2:∀(L:List (Int × Int)),L≠[]→∃a∈L,∀b∈L,b.2≤a.2
 |[],h=>absurd rfl h
 |[d],_=>⟨d,by simp,fun b hb=>by simp at hb;rw [hb];exact Int.le_refl _⟩
 |d::e::r,_=>by
  obtain ⟨a,ha,hm⟩:=max2 (e::r) (by simp)
  by_cases h:d.2≤a.2
  ·exact ⟨a,List.mem_cons_of_mem _ ha,fun b hb=>by
    rcases List.mem_cons.1 hb with rfl|hb
    ·exact h
    ·exact hm b hb⟩
  ·exact ⟨d,List.mem_cons_self,fun b hb=>by
    rcases List.mem_cons.1 hb with rfl|hb
    ·exact Int.le_refl _
    ·have:=hm b hb;omega⟩
def abR (q:Rat):Rat:=if q < 0 then -q else q
def winR (t:Int) (s r:Rat) (d:Int × Int):Bool:=decide (abR ((d.1:Rat) - s)≤(t:Rat)∧abR ((d.2:Rat) - r)≤(t:Rat))
/- ---------- duplicates taken out of a sorted list ---------- -/
def nL:List Int→List Int
 |[]=>[]
 |[x]=>[x]
 |x::y::r=>if x=y then nL (y::r) else x::nL (y::r)
theorem aFN:∀(l:List Int) (y x:Int),nL (l++[y,x])=if x=y then nL (l++[y]) else nL (l++[y])++[x]
 |[],y,x=>by
  show (if y=x then nL [x] else y::nL [x])=_
  by_cases h:x=y
  ·subst h;simp [nL]
  ·rw [if_neg h,if_neg (fun e=>h e.symm)];rfl
 |[a],y,x=>by
  have ih:=aFN [] y x
  simp only [List.nil_append] at ih
  show (if a=y then nL [y,x] else a::nL [y,x])=if x=y then (if a=y then nL [y] else a::nL [y]) else (if a=y then nL [y] else a::nL [y])++[x]
  rw [ih]
  by_cases h:a=y <;>by_cases h2:x=y <;>simp [h,h2]
 |a::b::r,y,x=>by
  have ih:=aFN (b::r) y x
  show (if a=b then nL (b::(r++[y,x])) else a::nL (b::(r++[y,x])))=if x=y then (if a=b then nL (b::(r++[y])) else a::nL (b::(r++[y]))) else (if a=b then nL (b::(r++[y])) else a::nL (b::(r++[y])))++[x]
  rw [List.cons_append,List.cons_append] at ih
  rw [ih]
  by_cases h:a=b <;>by_cases h2:x=y <;>simp [h,h2]
theorem aJR:∀(l:List Int),(nL l).length≤l.length
 |[]=>Nat.le_refl _
 |[x]=>Nat.le_refl _
 |x::y::r=>by
  have ih:=aJR (y::r)
  show (if x=y then nL (y::r) else x::nL (y::r)).length≤_
  split
  ·simp at ih ⊢;omega
  ·simp at ih ⊢;omega
theorem aDL:∀(l:List Int) (z:Int),z∈nL l↔z∈l
 |[],z=>Iff.rfl
 |[x],z=>Iff.rfl
 |x::y::r,z=>by
  have ih:=aDL (y::r) z
  show z∈(if x=y then nL (y::r) else x::nL (y::r))↔_
  by_cases h:x=y
  ·rw [if_pos h,ih,List.mem_cons (b:=x),h]
   constructor
   ·exact fun h=> .inr h
   ·rintro (rfl|h)
    ·exact List.mem_cons_self
    ·exact h
  ·rw [if_neg h,List.mem_cons,ih,List.mem_cons (b:=x)]
def aJE (l:List Int):Prop:=l.Pairwise (· < ·)
def asw (l:List Int):Prop:=l.Pairwise (· ≤ ·)
theorem aZL {y:Int} {r:List Int}:∃t,nL (y::r)=y::t:=by
 induction r generalizing y with
 |nil=>exact ⟨[],rfl⟩
 |cons z r ih=>
  show ∃t,(if y=z then nL (z::r) else y::nL (z::r))=y::t
  by_cases h:y=z
  ·subst h;rw [if_pos rfl];exact ih
  ·rw [if_neg h];exact ⟨_,rfl⟩
theorem aJK:∀{l:List Int},asw l→aJE (nL l)
 |[],_=>List.Pairwise.nil
 |[x],_=>by unfold aJE nL;simp
 |x::y::r,h=>by
  have h':=List.pairwise_cons.1 h
  have ih:=aJK (l:=y::r) h'.2
  show aJE (if x=y then nL (y::r) else x::nL (y::r))
  by_cases e:x=y
  ·rw [if_pos e];exact ih
  ·rw [if_neg e]
   refine List.pairwise_cons.2 ⟨fun z hz=>?_,ih⟩
   rw [aDL] at hz
   have h1:=h'.1 y List.mem_cons_self
   rcases List.mem_cons.1 hz with rfl|hz2
   ·omega
   ·have:=(List.pairwise_cons.1 h'.2).1 z hz2
    omega
theorem aBS:∀{l:List Int},aJE l→∀j:Nat,∃i:Nat,i≤j∧nL (l++List.replicate j 0)=l++List.replicate i 0
 |[],_,0=>⟨0,Nat.le_refl _,rfl⟩
 |[],_,j+1=>by
  refine ⟨1,by omega,?_⟩
  have:∀j:Nat,nL (List.replicate (j+1) (0:Int))=[0]:=by
   intro j
   induction j with
   |zero=>rfl
   |succ j ih=>
    show (if (0:Int)=0 then nL (List.replicate (j+1) (0:Int)) else _)=_
    rw [if_pos rfl];exact ih
  exact this j
 |[x],_,0=>⟨0,Nat.le_refl _,rfl⟩
 |[x],h,j+1=>by
  obtain ⟨i,hi,e⟩:=aBS (l:=[]) List.Pairwise.nil (j+1)
  simp only [List.nil_append] at e
  by_cases hx:x=0
  ·subst hx
   have e2:nL ([0]++List.replicate (j+1) (0:Int))=nL (List.replicate (j+1) (0:Int)):=rfl
   rw [e2,e]
   cases i with
   |zero=>
    obtain ⟨t,ht⟩:=aZL (y:=0) (r:=List.replicate j (0:Int))
    have:nL (0::List.replicate j (0:Int))=[]:=e
    rw [ht] at this
    cases this
   |succ i=>exact ⟨i,by omega,rfl⟩
  ·refine ⟨i,hi,?_⟩
   show (if x=0 then nL (List.replicate (j+1) (0:Int)) else x::nL (List.replicate (j+1) (0:Int)))=_
   rw [if_neg hx,e]
   rfl
 |x::y::r,h,j=>by
  have h':=List.pairwise_cons.1 h
  obtain ⟨i,hi,e⟩:=aBS h'.2 j
  have:=h'.1 y List.mem_cons_self
  refine ⟨i,hi,?_⟩
  show (if x=y then nL (y::(r++List.replicate j 0)) else x::nL (y::(r++List.replicate j 0)))=_
  rw [if_neg (by omega)]
  exact congrArg (x:: ·) e
/- ---------- the program's order ---------- -/
def Vis (xs c:List Int) (i j:Nat) (x y:Int):Prop:=(∃a:Nat,a < i∧a < xs.length∧x=gt xs (a:Int)∧y∈c)∨(i < xs.length∧x=gt xs (i:Int)∧∃b:Nat,b < j∧b < c.length∧y=gt c (b:Int))
theorem aWY {l:List Int} (h:aJE l) {a b:Nat} (hab:a < b) (hb:b < l.length):gt l (a:Int) < gt l (b:Int):=by
 have:=List.pairwise_iff_getElem.1 h a b (by omega) hb hab
 simpa [gt,List.getD,hb,show a < l.length by omega] using this
theorem aFO {l:List Int} {z:Int}:z∈l↔∃a:Nat,a < l.length∧z=gt l (a:Int):=by
 constructor
 ·intro h
  obtain ⟨a,ha,rfl⟩:=List.mem_iff_getElem.1 h
  exact ⟨a,ha,by simp [gt,List.getD,ha]⟩
 ·rintro ⟨a,ha,rfl⟩
  have:gt l (a:Int)=l[a]:=by simp [gt,List.getD,ha]
  rw [this];exact List.getElem_mem ha
theorem aXK (l:List (Int × Int)) (t x y:Int):sQ l t x y=0∨∃d∈l,sQ l t x y≤sQ l t x d.2:=by
 by_cases he:l.filter (aGE t x y)=[]
 ·exact .inl (by unfold sQ;rw [List.countP_eq_length_filter,he];rfl)
 ·obtain ⟨b,hb,mb⟩:=max2 _ he
  obtain ⟨hb1,hb2⟩:=List.mem_filter.1 hb
  refine .inr ⟨b,hb1,List.countP_mono_left (fun d hd hw=>?_)⟩
  have hm:=mb d (List.mem_filter.2 ⟨hd,hw⟩)
  simp only [aGE,decide_eq_true_eq] at hw hb2 ⊢
  omega
section
variable {l:List (Int × Int)} {t X Y:Int} {xs c:List Int} {i j n:Nat}
theorem aAF {x y:Int} (hi:i < xs.length) (hj:j < c.length):Vis xs c i (j+1) x y↔Vis xs c i j x y∨(x=gt xs (i:Int)∧y=gt c (j:Int)):=by
 unfold Vis
 constructor
 ·rintro (h|⟨h1,h2,b,h3,h4,h5⟩)
  ·exact .inl (.inl h)
  ·by_cases e:b=j
   ·subst e;exact .inr ⟨h2,h5⟩
   ·exact .inl (.inr ⟨h1,h2,b,by omega,h4,h5⟩)
 ·rintro ((h|⟨h1,h2,b,h3,h4,h5⟩)|⟨h1,h2⟩)
  ·exact .inl h
  ·exact .inr ⟨h1,h2,b,by omega,h4,h5⟩
  ·exact .inr ⟨hi,h1,j,by omega,hj,h2⟩
theorem aLY (hx:aJE xs) (hc:aJE c) (h:BInv l t (Vis xs c i j) X Y n) (hi:i < xs.length) (hj:j < c.length):
  (n < sQ l t (gt xs (i:Int)) (gt c (j:Int))→BInv l t (Vis xs c i (j+1)) (gt xs (i:Int)) (gt c (j:Int)) (sQ l t (gt xs (i:Int)) (gt c (j:Int))))∧(¬n < sQ l t (gt xs (i:Int)) (gt c (j:Int))→BInv l t (Vis xs c i (j+1)) X Y n):=by
 constructor
 ·intro hlt
  exact h.more hlt (fun a b hv=>(aAF hi hj).1 hv) ((aAF hi hj).2 (.inr ⟨rfl,rfl⟩))
 ·intro hge
  refine h.keep (x:=gt xs (i:Int)) (y:=gt c (j:Int)) (by omega) (fun _ _ hV=>?_) (fun a b hv=>(aAF hi hj).1 hv) (fun a b hv=>(aAF hi hj).2 (.inl hv))
  unfold lexL
  rcases hV with ⟨a,h1,h2,h3,_⟩|⟨h1,h2,b,h3,h4,h5⟩
  ·left;rw [h3];exact aWY hx h1 hi
  ·right;exact ⟨h2,by rw [h5];exact Int.le_of_lt (aWY hc h3 hj)⟩
theorem aKR (hcl:c.length≤j) (hi:i < xs.length) (hl:∀d∈l,d.2∈c) (h:BInv l t (Vis xs c i j) X Y n) (y:Int):sQ l t (gt xs (i:Int)) y≤n∧BInv l t (Vis xs c i (j+1)) X Y n:=by
 constructor
 ·rcases aXK l t (gt xs (i:Int)) y with h0|⟨d,hd,hle⟩
  ·omega
  ·obtain ⟨b,hb,e⟩:=aFO.1 (hl d hd)
   have:=h.le (a:=gt xs (i:Int)) (b:=d.2) (.inr ⟨hi,rfl,b,by omega,hb,e⟩)
   omega
 ·refine h.same (fun a b=>?_)
  unfold Vis
  constructor
  ·rintro (h|⟨h1,h2,b,h3,h4,h5⟩)
   ·exact .inl h
   ·exact .inr ⟨h1,h2,b,by omega,h4,h5⟩
  ·rintro (h|⟨h1,h2,b,h3,h4,h5⟩)
   ·exact .inl h
   ·exact .inr ⟨h1,h2,b,by omega,h4,h5⟩
theorem aVC (h:BInv l t (Vis xs c i j) X Y n) (hi:i < xs.length) (hj:c.length≤j):BInv l t (Vis xs c (i+1) 0) X Y n:=by
 refine h.same (fun a b=>?_)
 unfold Vis
 constructor
 ·rintro (⟨a,h1,h2,h3,h4⟩|⟨_,_,b,h3,_⟩)
  ·by_cases e:a=i
   ·subst e
    obtain ⟨b,hb,e⟩:=aFO.1 h4
    exact .inr ⟨hi,h3,b,by omega,hb,e⟩
   ·exact .inl ⟨a,by omega,h2,h3,h4⟩
  ·omega
 ·rintro (⟨a,h1,h2,h3,h4⟩|⟨h1,h2,b,h3,h4,h5⟩)
  ·exact .inl ⟨a,by omega,h2,h3,h4⟩
  ·exact .inl ⟨i,by omega,hi,h2,aFO.2 ⟨b,h4,h5⟩⟩
theorem aTG:BInv l t (Vis xs c 0 0) X Y 0:= .inl ⟨rfl,fun x y hv=>by
 rcases hv with ⟨a,h,_⟩|⟨_,_,b,h,_⟩ <;>omega⟩
theorem bBK (h:BInv l t (Vis xs c xs.length 0) X Y n) (hx:∀z,z∈xs↔∃d∈l,d.1=z) (hc:∀z,z∈c↔∃d∈l,d.2=z) (hl:l≠[]) (ht:0≤t):0 < n∧BestD l t X Y n:=by
 refine h.best hl ht (fun a ha b hb=>?_) (fun x y hv=>?_)
 ·obtain ⟨k,hk,e⟩:=aFO.1 ((hx a.1).2 ⟨a,ha,rfl⟩)
  exact .inl ⟨k,hk,hk,e,(hc b.2).2 ⟨b,hb,rfl⟩⟩
 ·rcases hv with ⟨a,h1,h2,h3,h4⟩|⟨h1,_⟩
  ·exact ⟨(hx x).1 (aFO.2 ⟨a,h2,h3⟩),(hc y).1 h4⟩
  ·omega
end
end Go.Proofs.YtmmmfphealhapaaGreat
namespace Go.Fx
section
variable {P:Program} {n:Nat} {ops:List Oper} {Q:Exit→Act→World→Prop} {m:Mode} {G:Env} {w:World} {ty:TypeId} {pos:String} {af:Array Edge} {g:Option (Nat × Bool)} {l:List Oper} {X:List Nat} {w0:World} {M M':List Ent} {I:List aL}
theorem aOY {t e e':TypeId} {sz b o k c:Nat} {x:Operand} {cs:List Value} [ht:SliceTy P t e sz] (hz:∀w,(zeroValue e).run P w= .ok (.int .i64 0) w) (hx:ev G x=some (.slice (some ⟨b,o,none⟩) k c)) (hk:0 < k) (hB:Blk w b cs e') (ho:o+k≤cs.length):
  Eff P n G (.call {callee:= .builtin .clear,args:=#[x],argTypes:=#[t]}) ty w (fun _ w'=>Blk w' b (splice cs o (List.replicate k (.int .i64 0))) e'∧Ext [b] w w'):=by
 refine ⟨?_⟩
 intro a ha dst pos after guard
 have hl:(List.replicate k (Value.int .i64 0)).length=k:=List.length_replicate
 have hst:=run_storeCells_at P b o e' (List.replicate k (Value.int .i64 0)) 0 cs.toArray w hB (by simpa using ho) (by intro u hu;rw [List.eq_of_mem_replicate hu];rfl)
 simp only [Nat.add_zero] at hst
 have hzc:(Builtin.zeroCells (Value.int .i64 0).cells k).toList=List.replicate k (Value.int .i64 0):=by
  show (Builtin.zeroCells #[Value.int .i64 0] k).toList=_
  simp [Builtin.zeroCells]
  apply List.ext_getElem
  ·simp
  ·intro i h1 h2
   simp [Nat.mod_one]
 refine sG (v:= .tuple #[]) (w':=w.setRow b (splice cs o (List.replicate k (.int .i64 0))).toArray) ?_ ⟨_,⟨?_,Ext.setRow (by simp) _⟩,rfl⟩
 ·obtain ⟨k',rfl⟩:∃k',k=k'+1:=⟨k - 1,by omega⟩
  simp only [splice,hl]
  simp only [hl] at hst
  simp [execOp,resolve,invoke,builtin,ha.ev hx,Builtin.clear_,eU ht.und,hz,hzc,hst]
 ·exact setRow_heap w b _ _ _ _ hB
theorem aSQ {t e e':TypeId} {sz b o k c:Nat} {x:Operand} {cs cs':List Value} [SliceTy P t e sz] (hz:∀w,(zeroValue e).run P w= .ok (.int .i64 0) w) (hx:ev G x=some (.slice (some ⟨b,o,none⟩) k c)) (hk:0 < k) (hr:Rep (.blk b cs e') (.blk b cs' e') M M') (hs:splice cs o (List.replicate k (.int .i64 0))=cs') (ho:o+k≤cs.length) (hg:nZ ops G g=some true)
  (kk:OkD m X w0 M' I∧RD P n ops Q m.nextE l G X w0 M' I):RD P n ops Q m (⟨none, .call {callee:= .builtin .clear,args:=#[x],argTypes:=#[t]},ty,pos,af,g⟩::l) G X w0 M I:=
 aAX (d:=none) (K:=fun _ M2 I2=>M2=M'∧I2=I) hg
  (fun w hw=>(aOY hz hx hk (hw.blk hr.mem) ho).mono (fun _ w' ⟨hB,hE⟩=>⟨_,_,⟨rfl,rfl⟩,hw.upd hr hE (fun b hb=> .inl hb) (by simp [Ent.blocks]) (by rw [hs] at hB;exact hB)⟩)) rfl rfl
  (fun _ _ _ ⟨hM,hI⟩=>by subst hM;subst hI;exact kk)
end
theorem aMV {P:Program} {n:Nat} {Q:Exit→Act→World→Prop} {G:Env} {X:List Nat} {w0:World} {M:List Ent} {I:List aL} {ops l:List Oper} {m:Fx.Mode} {ty:TypeId} {pos:String} {af:Array Edge} {g:Option (Nat × Bool)} {d:Nat} {t e:TypeId} {sz:Nat} {x ix:Operand} {b o len c:Nat} {k':IntKind} {i:Int} [SliceTy P t e sz] (hx:ev G x=some (.slice (some ⟨b,o,none⟩) len c)) (hi:ev G ix=some (.int k' i)) (h:0≤i∧i < len) (hg:nZ ops G g=some true)
  (hd:Nat.ble (d+1) n=true) (k:RD P n ops Q m.next l ((d, .pointer (some ⟨b,o+i.toNat*sz,none⟩))::G) X w0 M I):RD P n ops Q m (⟨some d, .indexAddr t x ix,ty,pos,af,g⟩::l) G X w0 M I:=
 aD hg (fun _=>by
  have:=rM (n:=n) (ty:=ty) (P:=P) (G:=G) (t:=t) (e:=e) (sz:=sz) hx hi h (Ok.mk b o) (C:=fun _=>True)
  refine ⟨fun a ha dst pos after guard w _=>?_⟩
  have h2:=this.go a ha dst pos after guard w True.intro
  simpa [pt,bl,of] using h2) rfl hd k
end Go.Fx
namespace Go.Proofs.YtmmmfphealhapaaGreat
open Go Go.Fx
theorem bCR (w:World):(zeroValue 3).run Tryz.prog w= .ok (.int .i64 0) w:=by kernel_rfl
theorem aYQ {b c j:Nat} (h:j < c):xD (some ⟨b,0,none⟩) c j 1=some ⟨b,j,none⟩:=by
 unfold xD
 rw [if_neg (by omega)]
 simp [Addr.add]
 exact fun h=>h.symm
theorem aYD {E:List Int} {tl:List Value} {o i:Nat} (h:i < E.length) (e:o=i):At (recs (eI .i64) E++tl) o (.int .i64 (gt E (i:Int))):=by
 subst e
 refine At.mk ?_
 rw [lQ,List.getElem?_append_left (by simpa using h),List.getElem?_map,fH h]
 simp [h]
theorem aXU {E L:List Int} {tl:List Value} {kk n:Nat} (hE:E.length=n) (hk:kk≤n) (hL:E.take kk=L):splice (recs (eI .i64) E++tl) kk (List.replicate (n - kk) (Value.int .i64 0))=recs (eI .i64) (L++List.replicate (n - kk) 0)++tl:=by
 subst hL
 have hlen:(E.map (Value.int .i64)).length=n:=by simp [hE]
 simp only [splice,lQ,List.length_replicate,List.map_append,List.map_take,List.map_replicate]
 rw [List.take_append_of_le_length (by omega),show kk+(n - kk)=(E.map (Value.int .i64)).length by omega,List.drop_left]
theorem aPH {E D:List Int} {a i:Nat} (h:E.drop a=D.drop a) (hi:a≤i) (hE:E.length=D.length) (hlt:i < E.length):gt E (i:Int)=gt D (i:Int):=by
 rw [fH hlt,fH (by omega)]
 have h1:(E.drop a)[i - a]?=(D.drop a)[i - a]?:=by rw [h]
 rw [List.getElem?_drop,List.getElem?_drop,show a+(i - a)=i by omega] at h1
 rw [List.getElem?_eq_getElem hlt,List.getElem?_eq_getElem (by omega)] at h1
 exact Option.some.inj h1
theorem aKM {D:List Int} {j:Nat} (h1:1≤j) (hj:j < D.length):D.take (j+1)=D.take (j - 1)++[gt D ((j - 1:Nat):Int),gt D (j:Int)]∧D.take j=D.take (j - 1)++[gt D ((j - 1:Nat):Int)]:=by
 have e1:D.take (j+1)=D.take j++[D[j]]:=(List.take_append_getElem hj).symm
 have e2:D.take (j - 1+1)=D.take (j - 1)++[D[j - 1]]:=(List.take_append_getElem (by omega)).symm
 rw [show j - 1+1=j by omega] at e2
 rw [fH (by omega),fH hj]
 refine ⟨?_,e2⟩
 rw [e1,e2,List.append_assoc];rfl
theorem aLE {D:List Int} {j:Nat} (h1:1≤j) (hj:j < D.length):nL (D.take (j+1))=if gt D (j:Int)=gt D ((j - 1:Nat):Int) then nL (D.take j) else nL (D.take j)++[gt D (j:Int)]:=by
 rw [(aKM h1 hj).1,(aKM h1 hj).2]
 exact aFN _ _ _
section
variable {X:List Nat} {w0:World} {M0 M1:List Ent} {I0:List aL}
theorem aDV {b n c:Nat} {D:List Int} {tl:List Value} (hl:D.length=n) (hn:n≤100) (hc:n≤c):
  CD Tryz.prog 134 [.slice (some ⟨b,0,none⟩) n c] X w0 (.blk b (recs (eI .i64) D++tl) 3::M1) I0 (fun v M I=>I0=I∧v= .slice (some ⟨b,0,none⟩) (nL D).length c∧M= .blk b (recs (eI .i64) (nL D++List.replicate (n - (nL D).length) 0)++tl) 3::M1):=by
 refine aR Tryz.func134 rfl Tryz.ntmps134 rfl ?_
 by_cases h2:n < 2
 ·have e:nL D=D:=by
   match D,hl with
   |[],_=>rfl
   |[x],_=>rfl
   |_::_::_,h=>simp at h;omega
  rw [e,hl,Nat.sub_self,List.replicate_zero,List.append_nil]
  repeat refine aB ?_
  refine iR rfl rfl (⟨rfl,rfl,rfl⟩)
 repeat refine aB ?_
 refine lX [0] rfl (fun k G M I=>∃j:Nat,1≤j∧j≤n∧k=n - j∧nL (D.take j)=D.take j∧G=[(3, .int .i64 j)]∧M= .blk b (recs (eI .i64) D++tl) 3::M1∧I0=I) (n - 1) (⟨1,by omega,by omega,rfl,by rw [List.take_one];cases D <;>rfl,rfl,rfl,rfl⟩) ?_
 rintro kk G M I ⟨j,hj1,hj,rfl,hcj,rfl,rfl,rfl⟩
 by_cases hjn:j < n
 ·have hcm:=aLE (D:=D) hj1 (by omega)
  have ejm:((j:Int) - 1)=((j - 1:Nat):Int):=by omega
  have hlD:(D.length:Int)=n:=by omega
  repeat refine aB ?_
  (repeat refine aG ?_);refine eO [0,1,2,3,4,5,6,7,8,9] [0,0,0,0,0,0,0,0,0,0] mixed (by kernel_rfl) ?_
  repeat refine aB ?_
  rw [ejm]
  by_cases heq:gt D (j:Int)=gt D ((j - 1:Nat):Int)
  ·rw [if_pos heq] at hcm
   have hjc:j < c:=by omega
   repeat refine aB ?_
   (refine aD rfl (fun _=>pR (e:=3) (sz:=1) j n (n - j) rfl (.inr ⟨_,_,_,rfl,rfl,rfl⟩) (.inl ⟨rfl,rfl⟩) (by omega) (by omega) (by omega)) rfl rfl ?_)
   rw [aYQ hjc]
   repeat refine aB ?_
   refine lX [0,4] rfl (fun k G M I=>∃(q t:Nat) (E:List Int),1≤t∧t≤n - j∧k=n - j - t∧E.length=n∧1≤q∧q+1≤j+t∧E.take q=nL (D.take (j+t))∧E.drop (j+t - 1)=D.drop (j+t - 1)∧G=[(3, .int .i64 q),(5, .int .i64 t)]∧M= .blk b (recs (eI .i64) E++tl) 3::M1∧I0=I) (n - j - 1) (⟨j,1,D,by omega,by omega,rfl,hl,hj1,by omega,by rw [hcm,hcj],rfl,rfl,rfl,rfl⟩) ?_
   rintro kk G M I ⟨q,t,E,ht1,ht,rfl,hE,hq1,hq,hEt,hEd,rfl,rfl,rfl⟩
   have hlE:(E.length:Int)=n:=by omega
   by_cases htn:t < n - j
   ·have hcm2:=aLE (D:=D) (j:=j+t) (by omega) (by omega)
    have g1:=aPH (i:=j+t) hEd (by omega) (by omega) (by omega)
    have g2:=aPH (i:=j+t - 1) hEd (by omega) (by omega) (by omega)
    repeat refine aB ?_
    (repeat refine aG ?_);refine eO [0,1,2,3,4,5,6,7,8,9] [0,0,0,0,0,0,0,0,0,0] mixed (by kernel_rfl) ?_
    repeat refine aB ?_
    refine aMV rfl rfl (by omega) rfl rfl ?_
    (apply gM;exact eX;exact rfl;exact aA;exact aYD (i:=j+t) (by omega) (by omega);exact rfl;exact rfl)
    repeat refine aB ?_
    refine aMV rfl rfl (by omega) rfl rfl ?_
    (apply gM;exact eX;exact rfl;exact aA;exact aYD (i:=j+t - 1) (by omega) (by omega);exact rfl;exact rfl)
    rw [g1,g2]
    by_cases hne:gt D ((j+t:Nat):Int)=gt D ((j+t - 1:Nat):Int)
    ·rw [if_pos hne] at hcm2
     repeat refine aB ?_
     refine gL (n - j - (t+1)) (⟨q,t+1,E,by omega,by omega,by omega,hE,hq1,by omega,by rw [hEt,←hcm2];rfl,by rw [show j+(t+1) - 1=(j+t - 1)+1 by omega,←List.drop_drop,hEd,List.drop_drop],rfl,rfl,rfl⟩)
    ·rw [if_neg hne] at hcm2
     repeat refine aB ?_
     refine aMV rfl rfl (by omega) rfl rfl ?_
     (apply gM;exact eX;exact rfl;exact aA;exact aYD (i:=j+t) (by omega) (by omega);exact rfl;exact rfl)
     repeat refine aB ?_
     have hst:(st E (q:Int) (gt E ((j+t:Nat):Int)))=E.set q (gt E ((j+t:Nat):Int)):=rfl
     refine gL (n - j - (t+1)) (⟨q+1,t+1,st E (q:Int) (gt E ((j+t:Nat):Int)),by omega,by omega,by omega,by rw [dK];exact hE,by omega,by omega,?_,?_,rfl,rfl,rfl⟩)
     ·rw [hst,List.take_add_one,List.take_set_of_le (Nat.le_refl _),hEt,show j+(t+1)=j+t+1 by omega,hcm2,g1]
      rw [List.getElem?_set_self (by omega)]
      rfl
     ·rw [hst,List.drop_set_of_lt (by omega),show j+(t+1) - 1=(j+t - 1)+1 by omega,←List.drop_drop,hEd,List.drop_drop]
   ·obtain rfl:t=n - j:=by omega
    rw [show j+(n - j)=D.length by omega,List.take_length] at hEt
    have hql:(nL D).length=q:=by rw [←hEt,List.length_take];omega
    have hqc:q < c:=by omega
    rw [hql]
    repeat refine aB ?_
    (refine aD rfl (fun _=>pR (e:=3) (sz:=1) q n (n - q) rfl (.inr ⟨_,_,_,rfl,rfl,rfl⟩) (.inl ⟨rfl,rfl⟩) (by omega) (by omega) (by omega)) rfl rfl ?_)
    rw [aYQ hqc]
    refine aSQ bCR rfl (by omega) .here (aXU hE (by omega) hEt) (by rw [List.length_append,fG];omega) rfl ⟨okF,?_⟩
    repeat refine aB ?_
    (refine aD rfl (fun _=>rH q rfl rfl rfl (by omega)) rfl rfl ?_)
    repeat refine aB ?_
    refine iR rfl rfl (⟨rfl,rfl,rfl⟩)
  ·rw [if_neg heq] at hcm
   repeat refine aB ?_
   refine gL (n - (j+1)) (⟨j+1,by omega,by omega,rfl,by rw [hcm,hcj,fH (by omega)];exact List.take_append_getElem (by omega),rfl,rfl,rfl⟩)
 ·obtain rfl:j=n:=by omega
  rw [←hl,List.take_length] at hcj
  rw [hcj,hl,Nat.sub_self,List.replicate_zero,List.append_nil]
  repeat refine aB ?_
  refine iR rfl rfl (⟨rfl,rfl,rfl⟩)
end
def rQ (l:List Q4):List (Int × Int):=l.map (fun s=>(s.u - s.x,s.v - s.y))
def dxs (l:List Q4):List Int:=l.map (fun s=>s.u - s.x)
def dys (l:List Q4):List Int:=l.map (fun s=>s.v - s.y)
theorem aEL {l:List Q4} {s:Q4}:dxs (l++[s])=dxs l++[s.u - s.x]:=by simp [dxs]
theorem aEU {l:List Q4} {s:Q4}:dys (l++[s])=dys l++[s.v - s.y]:=by simp [dys]
theorem bBV {l:List Q4}:(dxs l).length=l.length:=by simp [dxs]
theorem bCA {l:List Q4}:(dys l).length=l.length:=by simp [dys]
theorem aUU {l:List Q4}:(rQ l).length=l.length:=by simp [rQ]
theorem bAQ {l:List Q4} {z:Int}:z∈dxs l↔∃d∈rQ l,d.1=z:=by
 simp only [dxs,rQ,List.mem_map]
 exact ⟨fun ⟨a,h,e⟩=>⟨_,⟨a,h,rfl⟩,e⟩,fun ⟨_,⟨a,h,rfl⟩,e⟩=>⟨a,h,e⟩⟩
theorem aQG {l:List Q4} {z:Int}:z∈dys l↔∃d∈rQ l,d.2=z:=by
 simp only [dys,rQ,List.mem_map]
 exact ⟨fun ⟨a,h,e⟩=>⟨_,⟨a,h,rfl⟩,e⟩,fun ⟨_,⟨a,h,rfl⟩,e⟩=>⟨a,h,e⟩⟩
theorem bEM {l:List Q4} {i:Nat} (h:i < l.length):gt (dxs l) (i:Int)=((rQ l).getD i (0,0)).1∧gt (dys l) (i:Int)=((rQ l).getD i (0,0)).2:=by
 constructor <;>simp [gt,dxs,dys,rQ,List.getD,h]
theorem bEK {l:List Q4} (hs:∀s∈l,s.near):∀z∈dxs l, -65536≤z∧z≤65536:=fun z hz=>by
 obtain ⟨s,h,rfl⟩:=List.mem_map.1 hz
 obtain ⟨n1,n2,n3,n4⟩:=hs s h
 omega
theorem bFM {l:List Q4} (hs:∀s∈l,s.near):∀z∈dys l, -65536≤z∧z≤65536:=fun z hz=>by
 obtain ⟨s,h,rfl⟩:=List.mem_map.1 hz
 obtain ⟨n1,n2,n3,n4⟩:=hs s h
 omega
theorem aOH {l:List (Int × Int)} {t X Y:Int} {i:Nat} (h:i < l.length):(l.take (i+1)).countP (aGE t X Y)=(l.take i).countP (aGE t X Y)+(if aGE t X Y (l.getD i (0,0))=true then 1 else 0):=by
 have e:l.take (i+1)=l.take i++[l[i]]:=(List.take_append_getElem h).symm
 have e2:l.getD i (0,0)=l[i]:=by simp [List.getD,h]
 rw [e,e2,List.countP_append,List.countP_singleton]
def tolD (t:Int):Prop:=0≤t∧t≤32768
instance tolD.dec (x:Int):Decidable (tolD x):=inferInstanceAs (Decidable (0≤x∧x≤32768))
def densC (l:List Q4) (t:Int):Int:=if lF l=0 then (if tolD t then 0 else 2) else lF l
abbrev zP2:List Value:=[.int .i64 0, .int .i64 0]
section
variable {X:List Nat} {w0:World} {M0 M1 M2:List Ent} {I0:List aL}
theorem bBB {tol:Int} {q:Option Addr} {l:List Q4} {n c:Nat} (hl:l.length=n) (hn:n≤12) (hck:lF l=0) (ht:tolD tol) (hq:aI q (recs gX l)∈I0):
  CD Tryz.prog 66 [.slice q n c, .int .i64 tol] X w0 M0 I0 (fun v M I=>M0=M∧I0=I∧∃(X Y:Int) (N:Nat),(0 < N∧BestD (rQ l) tol X Y N)∧v= .tuple #[.agg #[.int .i64 (X - tol), .int .i64 (Y - tol)], .int .i64 (N:Int), .int .i64 0]):=by
 have hK:=fun M0 I0 h=>aBD (X:=X) (w0:=w0) (M0:=M0) (I0:=I0) (q:=q) (l:=l) (n:=n) (c:=c) hl (by omega) h
 rw [hck] at hK
 obtain ⟨⟨hn1,_⟩,hs⟩:=aAE hck
 rw [hl] at hn1
 obtain ⟨ht1,ht2⟩:=ht
 refine aV (φ:=aI q (recs gX l)) (Hv.mem hq) ?_
 refine aM Tryz.func66 rfl Tryz.ntmps66 rfl ?_
 refine gG ?_
 refine cK (fun b4=>?_)
 repeat refine aB ?_
 refine dH rfl (hK _ _ aA) ?_
 repeat refine aB ?_
 refine gZ 3 1 ?_
 refine gZ 3 1 ?_
 refine lX [1,4,37,38] rfl (fun k G M I=>∃(i:Nat) (xs ys:List Int) (qx qy:Option Addr) (cx cy:Nat),i≤n∧k=n - i∧xs=dxs (l.take i)∧ys=dys (l.take i)∧G=[(8, .slice qx xs.length cx),(9, .slice qy ys.length cy),(39, .int .i64 i)]∧M= .row qx xs.length cx (recs eZ xs) 3 1:: .row qy ys.length cy (recs eZ ys) 3 1:: .blk b4 zP2 28::M0∧I=aI q (recs gX l)::I0) (n) (⟨0,[],[],none,none,0,0,by omega,rfl,rfl,rfl,rfl,rfl,rfl⟩) ?_
 rintro kk G M I ⟨i,xs,ys,qx,qy,cx,cy,hi,rfl,hxs,hys,rfl,rfl,rfl⟩
 have hxl:xs.length=i:=by rw [hxs,bBV,List.length_take];omega
 have hyl:ys.length=i:=by rw [hys,bCA,List.length_take];omega
 by_cases hin:i < n
 ·have hmem:=bF (ms:=l) (i:=(i:Int)) (by omega)
  have htk:l.take (i+1)=l.take i++[gt l (i:Int)]:=by rw [gtQ (by omega)];exact (List.take_append_getElem (by omega)).symm
  obtain ⟨s,hss⟩:∃s,gt l (i:Int)=s:=⟨_,rfl⟩
  rw [hss] at hmem htk
  obtain ⟨n1,n2,n3,n4⟩:=hs s hmem
  repeat refine aB ?_
  rw [hss]
  refine cK (fun b11=>?_)
  repeat refine aB ?_
  ((repeat refine aG ?_);refine lU (.blk b11 (gX s) 30::M0) (aI q (recs gX l)::I0) mixed ?_)
  refine cB (fuel:=6) (listed':=#[true,true,true,true,true,true,true,true,false,false,true,true,true,true,true,true,true,true,false,false,false,false]) [0,1,2,3,4,5,6,7,10,11,12,13,14,15,16,17] [3,4,4,4,4,4,4,3,3,4,4,4,4,4,4,3] aF aC (by kernel_rfl) (by kernel_rfl) rfl rfl ?_
  repeat refine aB ?_
  refine aS (fuel:=5) (i:=8) (j:=18) (by kernel_rfl) ?_ ?_
  ·refine gK (cs:=recs eZ [s.u - s.x]) ([.int .i64 (s.u - s.x)]) rfl (fun bx=>?_)
   refine bE ?_
   repeat refine aB ?_
   refine aS (fuel:=4) (i:=9) (j:=18) (by kernel_rfl) ?_ ?_
   ·(first|(refine iB (ys:=[s.u - s.x]) 2 rfl rfl rfl ?_ (by decide) rfl (by omega) (by omega) rfl rfl ?_;(· exact Src.blk aA);intro qx2 cx2;simp only [List.set_cons_succ,List.set_cons_zero];refine aN ?_)|(refine iB (ys:=[s.u - s.x]) 3 rfl rfl rfl ?_ (by decide) rfl (by omega) (by omega) rfl rfl ?_;(· exact Src.blk aA);intro qx2 cx2;simp only [List.set_cons_succ,List.set_cons_zero];refine aN ?_))
    refine bE ?_
    refine aY [18,19,20,21] [0,0,0,0] aF aC (by kernel_rfl) (by kernel_rfl) rfl rfl ?_
    repeat refine aB ?_
    refine gK (cs:=recs eZ [s.v - s.y]) ([.int .i64 (s.v - s.y)]) rfl (fun by2=>?_)
    repeat refine aB ?_
    (refine iB (ys:=[s.v - s.y]) 4 rfl rfl rfl ?_ (by decide) rfl (by omega) (by omega) rfl rfl ?_;(· exact Src.blk aA);intro qy2 cy2;simp only [List.set_cons_succ,List.set_cons_zero];refine aN ?_)
    repeat refine aB ?_
    refine gL (n - (i+1)) (⟨i+1,xs++[s.u - s.x],ys++[s.v - s.y],qx2,qy2,cx2,cy2,by omega,rfl,by rw [htk,aEL,←hxs],by rw [htk,aEU,←hys],rfl,rfl,rfl⟩)
   ·refine gK (cs:=recs eZ [s.v - s.y]) ([.int .i64 (s.v - s.y)]) rfl (fun by2=>?_)
    refine bE ?_
    refine aY [9,19,20,21] [0,0,0,0] aF aC (by kernel_rfl) (by kernel_rfl) rfl rfl ?_
    repeat refine aB ?_
    (first|(refine iB (ys:=[s.u - s.x]) 2 rfl rfl rfl ?_ (by decide) rfl (by omega) (by omega) rfl rfl ?_;(· exact Src.blk aA);intro qx2 cx2;simp only [List.set_cons_succ,List.set_cons_zero];refine aN ?_)|(refine iB (ys:=[s.u - s.x]) 3 rfl rfl rfl ?_ (by decide) rfl (by omega) (by omega) rfl rfl ?_;(· exact Src.blk aA);intro qx2 cx2;simp only [List.set_cons_succ,List.set_cons_zero];refine aN ?_))
    repeat refine aB ?_
    (refine iB (ys:=[s.v - s.y]) 4 rfl rfl rfl ?_ (by decide) rfl (by omega) (by omega) rfl rfl ?_;(· exact Src.blk aA);intro qy2 cy2;simp only [List.set_cons_succ,List.set_cons_zero];refine aN ?_)
    repeat refine aB ?_
    refine gL (n - (i+1)) (⟨i+1,xs++[s.u - s.x],ys++[s.v - s.y],qx2,qy2,cx2,cy2,by omega,rfl,by rw [htk,aEL,←hxs],by rw [htk,aEU,←hys],rfl,rfl,rfl⟩)
  ·refine gK (cs:=recs eZ [s.v - s.y]) ([.int .i64 (s.v - s.y)]) rfl (fun by2=>?_)
   refine bE ?_
   refine aY [8,9,19,20,21] [0,0,0,0,0] aF aC (by kernel_rfl) (by kernel_rfl) rfl rfl ?_
   repeat refine aB ?_
   refine gK (cs:=recs eZ [s.u - s.x]) ([.int .i64 (s.u - s.x)]) rfl (fun bx=>?_)
   repeat refine aB ?_
   (first|(refine iB (ys:=[s.u - s.x]) 2 rfl rfl rfl ?_ (by decide) rfl (by omega) (by omega) rfl rfl ?_;(· exact Src.blk aA);intro qx2 cx2;simp only [List.set_cons_succ,List.set_cons_zero];refine aN ?_)|(refine iB (ys:=[s.u - s.x]) 3 rfl rfl rfl ?_ (by decide) rfl (by omega) (by omega) rfl rfl ?_;(· exact Src.blk aA);intro qx2 cx2;simp only [List.set_cons_succ,List.set_cons_zero];refine aN ?_))
   repeat refine aB ?_
   (refine iB (ys:=[s.v - s.y]) 4 rfl rfl rfl ?_ (by decide) rfl (by omega) (by omega) rfl rfl ?_;(· exact Src.blk aA);intro qy2 cy2;simp only [List.set_cons_succ,List.set_cons_zero];refine aN ?_)
   repeat refine aB ?_
   refine gL (n - (i+1)) (⟨i+1,xs++[s.u - s.x],ys++[s.v - s.y],qx2,qy2,cx2,cy2,by omega,rfl,by rw [htk,aEL,←hxs],by rw [htk,aEU,←hys],rfl,rfl,rfl⟩)
 ·obtain rfl:i=n:=by omega
  rw [←hl,List.take_length] at hxs hys
  have hxb:=bEK hs
  have hyb:=bFM hs
  rw [←hxs] at hxb
  rw [←hys] at hyb
  have hat:∀t:Nat,t < i→gt xs (t:Int)=((rQ l).getD t (0,0)).1∧gt ys (t:Int)=((rQ l).getD t (0,0)).2:=fun t ht=>by rw [hxs,hys];exact bEM (by omega)
  have hdl:(rQ l).length=i:=by rw [aUU];exact hl
  obtain ⟨xl,hxl2⟩:∃z,nL (srt id xs)=z:=⟨_,rfl⟩
  obtain ⟨cl,hcl⟩:∃z,nL (srt id ys)=z:=⟨_,rfl⟩
  have hxa:aJE xl:=by rw [←hxl2];exact aJK (aJN id xs)
  have hca:aJE cl:=by rw [←hcl];exact aJK (aJN id ys)
  have hxm:∀z,z∈xl↔z∈xs:=fun z=>by rw [←hxl2,aDL];exact aDI id z _ xs rfl
  have hcm:∀z,z∈cl↔z∈ys:=fun z=>by rw [←hcl,aDL];exact aDI id z _ ys rfl
  have hxll:xl.length≤i:=by rw [←hxl2];exact Nat.le_trans (aJR _) (by rw [aAL];omega)
  have hcd:∀d∈rQ l,d.2∈cl:=fun d hd=>(hcm _).2 (by rw [hys];exact aQG.2 ⟨d,hd,rfl⟩)
  have hl0:rQ l≠[]:=fun e=>by rw [e] at hdl;simp at hdl;omega
  repeat refine aB ?_
  refine fD .here ?_
  refine fD .here ?_
  (refine bD rfl (aHL) ?_;rintro _ _ _ ⟨rfl,bvx,rfl,rfl⟩;refine aN ?_)
  repeat refine aB ?_
  (refine bD rfl (aED (q:=qx) (zs:=xs) (c:=cx) (b:=bvx) rfl (by omega) aA aA) ?_;rintro _ _ _ ⟨rfl,b12,c12,tx,rfl,hc12,rfl⟩;refine aN ?_)
  repeat refine aB ?_
  (refine bD rfl (aHL) ?_;rintro _ _ _ ⟨rfl,bvy,rfl,rfl⟩;refine aN ?_)
  repeat refine aB ?_
  (refine bD rfl (aED (q:=qy) (zs:=ys) (c:=cy) (b:=bvy) rfl (by omega) aA aA) ?_;rintro _ _ _ ⟨rfl,b13,c13,ty,rfl,hc13,rfl⟩;refine aN ?_)
  repeat refine aB ?_
  refine cK (fun b14=>?_)
  repeat refine aB ?_
  refine wO (M':= .blk b12 (recs eZ (srt id xs)++tx) 3:: .blk b13 (recs eZ (srt id ys)++ty) 3:: .blk b14 zP2 28:: .blk b4 zP2 28::M0) (I':=aI qy (recs eZ ys)::aI qx (recs eZ xs)::I0) aF aC ?_
  (refine bD rfl (aDV (n:=xs.length) (c:=c12) (D:=srt id xs) (tl:=tx) (aAL id xs) (by omega) hc12) ?_;rintro _ _ _ ⟨rfl,rfl,rfl⟩;refine aN ?_)
  rw [hxl2]
  rw [show recs eZ (xl++List.replicate (xs.length - xl.length) 0)++tx=recs eZ xl++(recs eZ (List.replicate (xs.length - xl.length) 0)++tx) by rw [lZ,List.append_assoc]]
  refine aH .here ?_
  refine aUT (cs:=recs eZ xl) (tl:=recs eZ (List.replicate (xs.length - xl.length) 0)++tx) aA ?_
  repeat refine aB ?_
  refine rJ (M':= .blk b13 (recs eZ (srt id ys)++ty) 3:: .blk b14 [.int .i64 0, .int .i64 0] 28:: .blk b4 zP2 28::M0) (I':=aI (some ⟨b12,0,none⟩) (recs eZ xl)::aI qy (recs eZ ys)::aI qx (recs eZ xs)::I0) aF aC ?_
  refine lX [1,4,8,9,13,14,71,72] rfl (fun k G M I=>∃(a:Nat) (E:List Int) (bx by_:Int) (most:Nat),a≤xl.length∧k=xl.length - a∧E.length=ys.length∧(∃z,nL E=cl++List.replicate z 0)∧most≤i∧BInv (rQ l) tol (Vis xl cl a 0) (bx+tol) (by_+tol) most∧G=[(15, .int .i64 most),(73, .int .i64 a)]∧M= .blk b13 (recs eZ E++ty) 3:: .blk b14 [.int .i64 bx, .int .i64 by_] 28:: .blk b4 zP2 28::M0∧I=aI (some ⟨b12,0,none⟩) (recs eZ xl)::aI qy (recs eZ ys)::aI qx (recs eZ xs)::I0) (xl.length) (⟨0,srt id ys,0,0,0,by omega,rfl,aAL id ys,⟨0,by rw [hcl];simp⟩,by omega,aTG,rfl,rfl,rfl⟩) ?_
  rintro kk G M I ⟨a,E,bx,by_,most,ha,rfl,hE,⟨z,hz⟩,hmi,hB,rfl,rfl,rfl⟩
  by_cases hax:a < xl.length
  ·have hxx:=hxb _ ((hxm _).1 (bF (ms:=xl) (i:=(a:Int)) (by omega)))
   have hCl:(nL E).length≤ys.length:=by rw [←hE];exact aJR E
   repeat refine aB ?_
   (refine bD rfl (aDV (n:=ys.length) (c:=c13) (D:=E) (tl:=ty) hE (by omega) hc13) ?_;rintro _ _ _ ⟨rfl,rfl,rfl⟩;refine aN ?_)
   obtain ⟨E2,hE2⟩:∃E2,nL E++List.replicate (ys.length - (nL E).length) 0=E2:=⟨_,rfl⟩
   have hE2l:E2.length=ys.length:=by rw [←hE2,List.length_append,List.length_replicate];omega
   have hE2c:E2=cl++List.replicate (z+(ys.length - (nL E).length)) 0:=by rw [←hE2,hz,List.append_assoc,List.replicate_append_replicate]
   have hE2z:∃z,nL E2=cl++List.replicate z 0:=by
    obtain ⟨z2,_,h⟩:=aBS hca (z+(ys.length - (nL E).length))
    exact ⟨z2,by rw [hE2c];exact h⟩
   have hclE:cl.length≤(nL E).length:=by rw [hz,List.length_append];omega
   obtain ⟨m,hm⟩:∃m,(nL E).length=m:=⟨_,rfl⟩
   rw [hE2,hm]
   rw [hm] at hCl hclE
   clear hE2 hz hm
   have hE2g:∀j:Nat,j < m→(j < cl.length→gt E2 (j:Int)=gt cl (j:Int))∧(¬j < cl.length→gt E2 (j:Int)=0):=fun j hj=>by
    rw [hE2c,aYE]
    constructor
    ·intro h;rw [if_pos h]
    ·intro h
     rw [if_neg h]
     have hlt:j - cl.length < (List.replicate (z+(ys.length - (nL E).length)) (0:Int)).length:=by
      have:=congrArg List.length hE2c
      rw [List.length_append,List.length_replicate] at this
      rw [List.length_replicate];omega
     rw [fH hlt];simp
   repeat refine aB ?_
   refine lX [1,4,8,9,13,14,17,71,72,73,78,79] rfl (fun k G M I=>∃(j:Nat) (bx by_:Int) (most:Nat),j≤m∧k=m - j∧most≤i∧BInv (rQ l) tol (Vis xl cl a j) (bx+tol) (by_+tol) most∧G=[(15, .int .i64 most),(80, .int .i64 j)]∧M= .blk b13 (recs eZ E2++ty) 3:: .blk b14 [.int .i64 bx, .int .i64 by_] 28:: .blk b4 zP2 28::M0∧I=aI (some ⟨b12,0,none⟩) (recs eZ xl)::aI qy (recs eZ ys)::aI qx (recs eZ xs)::I0) (m) (⟨0,bx,by_,most,by omega,rfl,hmi,hB,rfl,rfl,rfl⟩) ?_
   rintro kk G M I ⟨j,bx,by_,most,hj,rfl,hmi,hB,rfl,rfl,rfl⟩
   by_cases hjm:j < m
   ·have hg:=hE2g j hjm
    obtain ⟨x,hxe⟩:∃x,gt xl (a:Int)=x:=⟨_,rfl⟩
    obtain ⟨y,hye⟩:∃y,gt E2 (j:Int)=y:=⟨_,rfl⟩
    have hyy: -65536≤y∧y≤65536:=by
     by_cases h:j < cl.length
     ·rw [←hye,hg.1 h];exact hyb _ ((hcm _).1 (bF (ms:=cl) (i:=(j:Int)) (by omega)))
     ·rw [←hye,hg.2 h];omega
    rw [hye] at hg
    repeat refine aB ?_
    rw [hye,hxe]
    rw [hxe] at hxx
    repeat refine aB ?_
    refine lX [1,4,8,9,13,14,15,17,19,20,21,71,72,73,78,79,80,91] rfl (fun k G M I=>∃(t N:Nat),t≤i∧k=i - t∧N=((rQ l).take t).countP (aGE tol x y)∧G=[(22, .int .i64 N),(92, .int .i64 t)]∧M= .blk b13 (recs eZ E2++ty) 3:: .blk b14 [.int .i64 bx, .int .i64 by_] 28:: .blk b4 zP2 28::M0∧I=aI (some ⟨b12,0,none⟩) (recs eZ xl)::aI qy (recs eZ ys)::aI qx (recs eZ xs)::I0) (i) (⟨0,0,by omega,rfl,rfl,rfl,rfl,rfl⟩) ?_
    rintro kk G M I ⟨t,N,ht,rfl,hN,rfl,rfl,rfl⟩
    have hNt:N≤t:=by rw [hN];exact Nat.le_trans List.countP_le_length (by rw [List.length_take];omega)
    by_cases hti:t < i
    ·obtain ⟨g1,g2⟩:=hat t hti
     have hcs:=aOH (t:=tol) (X:=x) (Y:=y) (l:=rQ l) (i:=t) (by omega)
     rw [←hN] at hcs
     have d1:=hxb _ (bF (ms:=xs) (i:=(t:Int)) (by omega))
     have d2:=hyb _ (bF (ms:=ys) (i:=(t:Int)) (by omega))
     have hiff:aGE tol x y ((rQ l).getD t (0,0))=true↔(x - tol - tol≤gt xs (t:Int)∧gt xs (t:Int)≤x)∧(y - tol - tol≤gt ys (t:Int)∧gt ys (t:Int)≤y):=by
      rw [g1,g2]
      simp only [aGE,decide_eq_true_eq]
      omega
     by_cases h1:x - tol - tol≤gt xs (t:Int)
     ·by_cases h2:gt xs (t:Int)≤x
      ·by_cases h3:y - tol - tol≤gt ys (t:Int)
       ·by_cases h4:gt ys (t:Int)≤y
        ·rw [if_pos (hiff.2 ⟨⟨h1,h2⟩,h3,h4⟩)] at hcs
         repeat refine aB ?_
         refine gL (i - (t+1)) (⟨t+1,N+1,by omega,by omega,hcs.symm,rfl,rfl,rfl⟩)
        ·rw [if_neg (fun h=>h4 (hiff.1 h).2.2)] at hcs
         repeat refine aB ?_
         refine gL (i - (t+1)) (⟨t+1,N,by omega,by omega,hcs.symm,rfl,rfl,rfl⟩)
       ·rw [if_neg (fun h=>h3 (hiff.1 h).2.1)] at hcs
        repeat refine aB ?_
        refine gL (i - (t+1)) (⟨t+1,N,by omega,by omega,hcs.symm,rfl,rfl,rfl⟩)
      ·rw [if_neg (fun h=>h2 (hiff.1 h).1.2)] at hcs
       repeat refine aB ?_
       refine gL (i - (t+1)) (⟨t+1,N,by omega,by omega,hcs.symm,rfl,rfl,rfl⟩)
     ·rw [if_neg (fun h=>h1 (hiff.1 h).1.1)] at hcs
      repeat refine aB ?_
      refine gL (i - (t+1)) (⟨t+1,N,by omega,by omega,hcs.symm,rfl,rfl,rfl⟩)
    ·obtain rfl:t=i:=by omega
     rw [←hdl,List.take_length] at hN
     have hNc:N=sQ (rQ l) tol x y:=hN
     by_cases hgt:most < N
     ·have hB2:BInv (rQ l) tol (Vis xl cl a (j+1)) (x - tol+tol) (y - tol+tol) N:=by
       rw [Int.sub_add_cancel,Int.sub_add_cancel]
       by_cases h:j < cl.length
       ·have:=(aLY hxa hca hB hax h).1
        rw [hxe,←hg.1 h,←hNc] at this
        exact this hgt
       ·have:=(aKR (by omega) hax hcd hB y).1
        rw [hxe,←hNc] at this
        omega
      repeat refine aB ?_
      (refine aD rfl (fun _=>qI (vals:=[.int .i64 (x - tol), .int .i64 (y - tol)]) (cells:=[.int .i64 (x - tol), .int .i64 (y - tol)]) rfl ?hpl rfl ?hz) rfl rfl ?_;(case hpl=>repeat (first|exact True.intro|refine ⟨rfl,?_⟩));(case hz=>rfl))
      repeat refine aB ?_
      refine gL (m - (j+1)) (⟨j+1,x - tol,y - tol,N,by omega,rfl,by omega,hB2,rfl,rfl,rfl⟩)
     ·have hB2:BInv (rQ l) tol (Vis xl cl a (j+1)) (bx+tol) (by_+tol) most:=by
       by_cases h:j < cl.length
       ·have:=(aLY hxa hca hB hax h).2
        rw [hxe,←hg.1 h,←hNc] at this
        exact this hgt
       ·exact (aKR (by omega) hax hcd hB y).2
      repeat refine aB ?_
      refine gL (m - (j+1)) (⟨j+1,bx,by_,most,by omega,rfl,hmi,hB2,rfl,rfl,rfl⟩)
   ·obtain rfl:j=m:=by omega
    have hB2:=aVC hB hax hclE
    repeat refine aB ?_
    refine gL (xl.length - (a+1)) (⟨a+1,E2,bx,by_,most,by omega,rfl,hE2l,hE2z,hmi,hB2,rfl,rfl,rfl⟩)
  ·obtain rfl:a=xl.length:=by omega
   have hend:=bBK hB (fun z=>by rw [hxm,hxs];exact bAQ) (fun z=>by rw [hcm,hys];exact aQG) hl0 ht1
   repeat refine aB ?_
   refine fC (M':= .blk b4 [.int .i64 bx, .int .i64 by_] 28::M0) (I':=I0) aF aC ?_
   refine dW (rs:=[.cell 4 28, .tmp 5, .tmp 6]) (vs:=[.agg [.int .i64 bx, .int .i64 by_].toArray, .int .i64 most, .int .i64 0]) (.inl rfl) rfl (.cellN (cs:=[.int .i64 bx, .int .i64 by_]) inferInstance rfl aA rfl (.tmp rfl (.tmp rfl .nil))) rfl M0 I0 aF aC ⟨rfl,rfl,bx+tol,by_+tol,most,hend,by rw [Int.add_sub_cancel,Int.add_sub_cancel]⟩
end
theorem e15:2 ^ 15=32768:=rfl
abbrev zRg:List Value:=[.bool false, .slice none 0 0, .bool false, .slice none 0 0]
abbrev kM (k:Nat):Nat:=24*k+321
section
variable {X:List Nat} {w0:World} {M0 M1:List Ent} {I0:List aL}
theorem aWW {r:RL} {s:Q4} {b3 k:Nat} (hk:k≤10000000000) (hl:r.es.length=3) (hn:s.near) (hr:Hv I0 (iN r k)) (hp:Hv I0 (aI (some ⟨b3,0,none⟩) (gX s))):
  CD Tryz.prog 190 [lv r, .pointer (some ⟨b3,0,none⟩)] X w0 M0 I0 (RQ (r.q.getD 0 0*(s.x:Rat)+r.q.getD 1 0*(s.y:Rat)+r.q.getD 2 0) (3*k+32) M0 I0):=by
 obtain ⟨n1,n2,n3,n4⟩:=hn
 have q0:r.q.getD 0 0=(gt r.es 0).q:=iK (by omega)
 have q1:r.q.getD 1 0=(gt r.es 1).q:=iK (by omega)
 have q2:r.q.getD 2 0=(gt r.es 2).q:=iK (by omega)
 have hWx:=fun M0 I0=>jL (X:=X) (w0:=w0) (M0:=M0) (I0:=I0) (x:=s.x) (by omega) (k:=15) (by rw [e15];omega)
 have hWy:=fun M0 I0=>jL (X:=X) (w0:=w0) (M0:=M0) (I0:=I0) (x:=s.y) (by omega) (k:=15) (by rw [e15];omega)
 have hM:=fun (a b:RE) M0 I0 h1 h2=>tK (X:=X) (w0:=w0) (M0:=M0) (I0:=I0) (a:=a) (b:=b) (k:=k) (m:=15) (by omega) h1 h2
 have hA:=fun (a b:RE) M0 I0 h1 h2=>vP (X:=X) (w0:=w0) (M0:=M0) (I0:=I0) (a:=a) (b:=b) (k:=k+15) (m:=k+15) (by omega) h1 h2
 have hA2:=fun (a b:RE) M0 I0 h1 h2=>vP (X:=X) (w0:=w0) (M0:=M0) (I0:=I0) (a:=a) (b:=b) (k:=k+15+(k+15)+1) (m:=k) (by omega) h1 h2
 refine aV (φ:=iN r k) hr (aV (φ:=aI (some ⟨b3,0,none⟩) (gX s)) hp.cons (aV (φ:=aI r.p (recs eR r.es)) (Hv.lsl (k:=k) aA) ?_))
 refine aM Tryz.func190 rfl Tryz.ntmps190 rfl ?_
 refine gG ?_
 refine cK (fun b4=>?_)
 repeat refine aB ?_
 (repeat refine aG ?_);refine pW (M0) (aI r.p (recs eR r.es)::aI (some ⟨b3,0,none⟩) (gX s)::iN r k::I0) [0,1,2,3,4,5,8,9,10,11,12,13,17,18,19,6,7,14,15,16,20,21] [6,6,5,6,6,5,6,6,5,6,6,5,6,6,5,0,0,0,0,0,0,0] mixed ?_
 repeat refine aB ?_
 refine fK rfl (hWx _ _) (fun ex hex=>?_)
 refine fK rfl (hM (gt r.es 0) ex _ _ (Hv.lel (r:=r) (k:=k) aA ⟨by omega,by omega⟩) (Hv.mem aA)) (fun f0 hf0=>?_)
 refine fK rfl (hWy _ _) (fun ey hey=>?_)
 refine fK rfl (hM (gt r.es 1) ey _ _ (Hv.lel (r:=r) (k:=k) aA ⟨by omega,by omega⟩) (Hv.mem aA)) (fun f1 hf1=>?_)
 refine fK rfl (hA f0 f1 _ _ (Hv.mem aA) (Hv.mem aA)) (fun f2 hf2=>?_)
 refine fK rfl (hA2 f2 (gt r.es 2) _ _ (Hv.mem aA) (Hv.lel (r:=r) (k:=k) aA ⟨by omega,by omega⟩)) (fun f3 hf3=>?_)
 repeat refine aB ?_
 have e9:k+15+(k+15)+1+k+1=3*k+32:=by omega
 rw [e9]
 refine aO (cs:=eR f3) (.inl rfl) rfl rfl aA rfl M0 (bL f3 (3*k+32)::I0) aF aC ⟨rfl,f3,rfl,by rw [hf3,hf2,hf1,hf0,hex,hey,q0,q1,q2],rfl⟩
def MisP (m:Mt) (s:Q4) (k:Nat) (M0:List Ent) (I0:List aL) (v:Value) (M:List Ent) (I:List aL):Prop:=
 M0=M∧if lL m 2 s=0 then I0=I∧v= .tuple #[zR, .bool false] else ∃e:RE,v= .tuple #[rv e, .bool true]∧e.q=tQ m s∧I=bL e (kM k)::I0
theorem aNA {m:MX} {i:Nat} (hi:i < m.rows.length) (j:Nat):at2 m.q i j=(gt m.rows (i:Int)).q.getD j 0:=by
 rw [gtQ hi];simp [at2,rowAt,MX.q,List.getD,hi]
theorem aZU {m:MX} {s:Q4} {k:Nat} (hk:k≤3000000000) (dm:m.dim 3 3) (hn:s.near) (hm:gI m k∈I0):
  CD Tryz.prog 110 [mv m,vQ4 s] X w0 M0 I0 (MisP m.q s k M0 I0):=by
 obtain ⟨n1,n2,n3,n4⟩:=hn
 have hR:=dm.1
 have hrow:∀i:Nat,i < 3→(gt m.rows (i:Int)).es.length=3:=fun i hi=>dm.2 _ (bF (by omega))
 have hrq:∀i:Nat,i < 3→(gt m.rows (i:Int)).q.getD 0 0*(s.x:Rat)+(gt m.rows (i:Int)).q.getD 1 0*(s.y:Rat)+(gt m.rows (i:Int)).q.getD 2 0=lL m.q i s:=fun i hi=>by
  unfold lL;rw [aNA (by omega),aNA (by omega),aNA (by omega)]
 have hAt:=fun (i:Nat) (b3:Nat) (hi:i < 3) M0 I0 h1 h2=>aWW (X:=X) (w0:=w0) (M0:=M0) (I0:=I0) (r:=gt m.rows (i:Int)) (s:=s) (b3:=b3) (k:=k) (by omega) (hrow i hi) ⟨n1,n2,n3,n4⟩ h1 h2
 have hWu:=fun M0 I0=>jL (X:=X) (w0:=w0) (M0:=M0) (I0:=I0) (x:=s.u) (by omega) (k:=15) (by rw [e15];omega)
 have hWv:=fun M0 I0=>jL (X:=X) (w0:=w0) (M0:=M0) (I0:=I0) (x:=s.v) (by omega) (k:=15) (by rw [e15];omega)
 have hO:=fun (a b:RE) (h0:b.q≠0) M0 I0 h1 h2=>aZO (X:=X) (w0:=w0) (M0:=M0) (I0:=I0) (a:=a) (b:=b) (k:=3*k+32) (m:=3*k+32) (by omega) h0 h1 h2
 have hS:=fun (a b:RE) M0 I0 h1 h2=>aQO (X:=X) (w0:=w0) (M0:=M0) (I0:=I0) (a:=a) (b:=b) (k:=3*k+32+(3*k+32)) (m:=15) (by omega) h1 h2
 have hM:=fun (a:RE) M0 I0 h1=>tK (X:=X) (w0:=w0) (M0:=M0) (I0:=I0) (a:=a) (b:=a) (k:=3*k+32+(3*k+32)+15+1) (m:=3*k+32+(3*k+32)+15+1) (by omega) h1 h1
 obtain ⟨K,hK⟩:∃K,3*k+32+(3*k+32)+15+1=K:=⟨_,rfl⟩
 rw [hK] at hM
 have hA:=fun (a b:RE) M0 I0 h1 h2=>vP (X:=X) (w0:=w0) (M0:=M0) (I0:=I0) (a:=a) (b:=b) (k:=K+K) (m:=K+K) (by omega) h1 h2
 refine aV (φ:=gI m k) (Hv.mem hm) (aV (φ:=aI m.p (recs eL m.rows)) (Hv.xsl (k:=k) aA) ?_)
 refine aM Tryz.func110 rfl Tryz.ntmps110 rfl ?_
 refine gG ?_
 refine gN rfl (fun b3=>?_)
 refine aH .here ?_
 refine cK (fun b4=>?_)
 repeat refine aB ?_
 (refine dJ rfl rfl (hAt 2 b3 (by omega) _ _ (Hv.xrow (m:=m) (k:=k) aA ⟨by omega,by omega⟩) (Hv.mem aA)) rfl rfl rfl ?_;rintro _ _ _ ⟨rfl,c,rfl,hc,rfl⟩;refine aN ?_)
 rw [hrq 2 (by omega)] at hc
 repeat refine aB ?_
 refine cK (fun b7=>?_)
 repeat refine aB ?_
 refine dH rfl (nM (e:=c) (k:=3*k+32) (by omega) (Hv.mem aA)) ?_
 by_cases h0:lL m.q 2 s=0
 ·have hs0:c.q.num.sign=0:=aZD.2 (by rw [hc];exact h0)
  rw [hs0]
  repeat refine aB ?_
  (refine aD rfl (fun _=>bC (pvs:=([]).zipIdx.map (fun p=>(p.2,p.1))) (cells:=zRg) rfl rfl) rfl rfl ?_)
  repeat refine aB ?_
  refine fC (M':= .blk b4 zRg 77::M0) (I':=I0) aF aC ?_
  refine dW (rs:=[.cell 4 77, .tmp 5]) (vs:=[zR, .bool false]) (.inl rfl) rfl (.cellN (cs:=zRg) inferInstance rfl aA rfl (.tmp rfl .nil)) rfl M0 I0 aF aC ⟨rfl,by rw [if_pos h0];exact ⟨rfl,rfl⟩⟩
 ·have hs0:¬c.q.num.sign=0:=fun e=>h0 (by rw [←hc];exact aZD.1 e)
  have hc0:c.q≠0:=by rw [hc];exact h0
  repeat refine aB ?_
  refine jQ (fun G M I=>∃(b8:Nat) (ex:RE),ex.q=aNJ m.q s∧G=[(0,mv m),(3, .pointer (some ⟨b3,0,none⟩)),(4, .pointer (some ⟨b4,0,none⟩)),(6, .func (.func 190) #[] #[.pointer (some ⟨b3,0,none⟩)]),(7, .pointer (some ⟨b7,0,none⟩)),(8, .pointer (some ⟨b8,0,none⟩))]∧M= .blk b8 (eR ex) 77:: .blk b7 (eR c) 77:: .blk b4 zRg 77::M0∧I=bL ex K::bL c (3*k+32)::aI (some ⟨b3,0,none⟩) (gX s)::aI m.p (recs eL m.rows)::gI m k::I0) ?_ ?_
  ·((repeat refine aG ?_);refine lU (.blk b7 (eR c) 77::M0) (bL c (3*k+32)::aI (some ⟨b3,0,none⟩) (gX s)::aI m.p (recs eL m.rows)::gI m k::I0) mixed ?_)
   refine cB (fuel:=6) (listed':=#[true,true,true,true,false,true,false,true,true,true,false,false,false,false]) [0,1,2,3,5,7,8,9] [4,5,5,4,4,5,5,4] aF aC (by kernel_rfl) (by kernel_rfl) rfl rfl ?_
   repeat refine aB ?_
   refine aS (fuel:=5) (i:=4) (j:=12) (by kernel_rfl) ?_ ?_
   ·(refine dJ rfl rfl (hAt 0 b3 (by omega) _ _ (Hv.xrow (m:=m) (k:=k) aA ⟨by omega,by omega⟩) (Hv.mem aA)) rfl rfl rfl ?_;rintro _ _ _ ⟨rfl,g0,rfl,hg0,rfl⟩;refine aN ?_)
    refine bE ?_
    repeat refine aB ?_
    refine aS (fuel:=4) (i:=6) (j:=12) (by kernel_rfl) ?_ ?_
    ·refine fK rfl (hO g0 c hc0 _ _ (Hv.mem aA) (Hv.mem aA)) (fun g1 hg1=>?_)
     refine bE ?_
     repeat refine aB ?_
     refine aS (fuel:=3) (i:=10) (j:=12) (by kernel_rfl) ?_ ?_
     ·refine fK rfl (hWu _ _) (fun gu hgu=>?_)
      refine bE ?_
      repeat refine aB ?_
      refine aS (fuel:=2) (i:=11) (j:=12) (by kernel_rfl) ?_ ?_
      ·refine fK rfl (hS g1 gu _ _ (Hv.mem aA) (Hv.mem aA)) (fun g2 hg2=>?_)
       refine bE ?_
       refine aY [12,13] [0,0] aF aC (by kernel_rfl) (by kernel_rfl) rfl rfl ?_
       repeat refine aB ?_
       refine cK (fun b8=>?_)
       repeat refine aB ?_
       (rw [hK];refine tV ⟨b8,g2,by rw [hg2,hg1,hg0,hgu,hrq 0 (by omega),hc];rfl,rfl,rfl,rfl⟩)
      ·refine cK (fun b8=>?_)
       refine bE ?_
       refine aY [11,13] [0,0] aF aC (by kernel_rfl) (by kernel_rfl) rfl rfl ?_
       repeat refine aB ?_
       refine fK rfl (hS g1 gu _ _ (Hv.mem aA) (Hv.mem aA)) (fun g2 hg2=>?_)
       repeat refine aB ?_
       (rw [hK];refine tV ⟨b8,g2,by rw [hg2,hg1,hg0,hgu,hrq 0 (by omega),hc];rfl,rfl,rfl,rfl⟩)
     ·refine cK (fun b8=>?_)
      refine bE ?_
      refine aY [10,11,13] [0,0,0] aF aC (by kernel_rfl) (by kernel_rfl) rfl rfl ?_
      repeat refine aB ?_
      refine fK rfl (hWu _ _) (fun gu hgu=>?_)
      repeat refine aB ?_
      refine fK rfl (hS g1 gu _ _ (Hv.mem aA) (Hv.mem aA)) (fun g2 hg2=>?_)
      repeat refine aB ?_
      (rw [hK];refine tV ⟨b8,g2,by rw [hg2,hg1,hg0,hgu,hrq 0 (by omega),hc];rfl,rfl,rfl,rfl⟩)
    ·refine cK (fun b8=>?_)
     refine bE ?_
     refine aY [6,10,11,13] [0,0,0,0] aF aC (by kernel_rfl) (by kernel_rfl) rfl rfl ?_
     repeat refine aB ?_
     refine fK rfl (hO g0 c hc0 _ _ (Hv.mem aA) (Hv.mem aA)) (fun g1 hg1=>?_)
     repeat refine aB ?_
     refine fK rfl (hWu _ _) (fun gu hgu=>?_)
     repeat refine aB ?_
     refine fK rfl (hS g1 gu _ _ (Hv.mem aA) (Hv.mem aA)) (fun g2 hg2=>?_)
     repeat refine aB ?_
     (rw [hK];refine tV ⟨b8,g2,by rw [hg2,hg1,hg0,hgu,hrq 0 (by omega),hc];rfl,rfl,rfl,rfl⟩)
   ·refine cK (fun b8=>?_)
    refine bE ?_
    refine aY [4,6,10,11,13] [0,0,0,0,0] aF aC (by kernel_rfl) (by kernel_rfl) rfl rfl ?_
    repeat refine aB ?_
    (refine dJ rfl rfl (hAt 0 b3 (by omega) _ _ (Hv.xrow (m:=m) (k:=k) aA ⟨by omega,by omega⟩) (Hv.mem aA)) rfl rfl rfl ?_;rintro _ _ _ ⟨rfl,g0,rfl,hg0,rfl⟩;refine aN ?_)
    repeat refine aB ?_
    refine fK rfl (hO g0 c hc0 _ _ (Hv.mem aA) (Hv.mem aA)) (fun g1 hg1=>?_)
    repeat refine aB ?_
    refine fK rfl (hWu _ _) (fun gu hgu=>?_)
    repeat refine aB ?_
    refine fK rfl (hS g1 gu _ _ (Hv.mem aA) (Hv.mem aA)) (fun g2 hg2=>?_)
    repeat refine aB ?_
    (rw [hK];refine tV ⟨b8,g2,by rw [hg2,hg1,hg0,hgu,hrq 0 (by omega),hc];rfl,rfl,rfl,rfl⟩)
  ·rintro G M I ⟨b8,ex,hex,rfl,rfl,rfl⟩
   refine aG ?_
   refine jQ (fun G M I=>∃(b9:Nat) (ey:RE),ey.q=aNH m.q s∧G=[(4, .pointer (some ⟨b4,0,none⟩)),(8, .pointer (some ⟨b8,0,none⟩)),(9, .pointer (some ⟨b9,0,none⟩))]∧M= .blk b9 (eR ey) 77:: .blk b8 (eR ex) 77:: .blk b4 zRg 77::M0∧I=bL ey K::bL ex K::I0) ?_ ?_
   ·((repeat refine aG ?_);refine lU (.blk b7 (eR c) 77::M0) (bL ex K::bL c (3*k+32)::aI (some ⟨b3,0,none⟩) (gX s)::aI m.p (recs eL m.rows)::gI m k::I0) mixed ?_)
    refine cB (fuel:=6) (listed':=#[true,true,true,true,false,true,false,true,true,true,false,false,false,false]) [0,1,2,3,5,7,8,9] [4,5,5,4,4,5,5,4] aF aC (by kernel_rfl) (by kernel_rfl) rfl rfl ?_
    repeat refine aB ?_
    refine aS (fuel:=5) (i:=4) (j:=12) (by kernel_rfl) ?_ ?_
    ·(refine dJ rfl rfl (hAt 1 b3 (by omega) _ _ (Hv.xrow (m:=m) (k:=k) aA ⟨by omega,by omega⟩) (Hv.mem aA)) rfl rfl rfl ?_;rintro _ _ _ ⟨rfl,g0,rfl,hg0,rfl⟩;refine aN ?_)
     refine bE ?_
     repeat refine aB ?_
     refine aS (fuel:=4) (i:=6) (j:=12) (by kernel_rfl) ?_ ?_
     ·refine fK rfl (hO g0 c hc0 _ _ (Hv.mem aA) (Hv.mem aA)) (fun g1 hg1=>?_)
      refine bE ?_
      repeat refine aB ?_
      refine aS (fuel:=3) (i:=10) (j:=12) (by kernel_rfl) ?_ ?_
      ·refine fK rfl (hWv _ _) (fun gu hgu=>?_)
       refine bE ?_
       repeat refine aB ?_
       refine aS (fuel:=2) (i:=11) (j:=12) (by kernel_rfl) ?_ ?_
       ·refine fK rfl (hS g1 gu _ _ (Hv.mem aA) (Hv.mem aA)) (fun g2 hg2=>?_)
        refine bE ?_
        refine aY [12,13] [0,0] aF aC (by kernel_rfl) (by kernel_rfl) rfl rfl ?_
        repeat refine aB ?_
        refine cK (fun b9=>?_)
        repeat refine aB ?_
        (rw [hK];refine tV ⟨b9,g2,by rw [hg2,hg1,hg0,hgu,hrq 1 (by omega),hc];rfl,rfl,rfl,rfl⟩)
       ·refine cK (fun b9=>?_)
        refine bE ?_
        refine aY [11,13] [0,0] aF aC (by kernel_rfl) (by kernel_rfl) rfl rfl ?_
        repeat refine aB ?_
        refine fK rfl (hS g1 gu _ _ (Hv.mem aA) (Hv.mem aA)) (fun g2 hg2=>?_)
        repeat refine aB ?_
        (rw [hK];refine tV ⟨b9,g2,by rw [hg2,hg1,hg0,hgu,hrq 1 (by omega),hc];rfl,rfl,rfl,rfl⟩)
      ·refine cK (fun b9=>?_)
       refine bE ?_
       refine aY [10,11,13] [0,0,0] aF aC (by kernel_rfl) (by kernel_rfl) rfl rfl ?_
       repeat refine aB ?_
       refine fK rfl (hWv _ _) (fun gu hgu=>?_)
       repeat refine aB ?_
       refine fK rfl (hS g1 gu _ _ (Hv.mem aA) (Hv.mem aA)) (fun g2 hg2=>?_)
       repeat refine aB ?_
       (rw [hK];refine tV ⟨b9,g2,by rw [hg2,hg1,hg0,hgu,hrq 1 (by omega),hc];rfl,rfl,rfl,rfl⟩)
     ·refine cK (fun b9=>?_)
      refine bE ?_
      refine aY [6,10,11,13] [0,0,0,0] aF aC (by kernel_rfl) (by kernel_rfl) rfl rfl ?_
      repeat refine aB ?_
      refine fK rfl (hO g0 c hc0 _ _ (Hv.mem aA) (Hv.mem aA)) (fun g1 hg1=>?_)
      repeat refine aB ?_
      refine fK rfl (hWv _ _) (fun gu hgu=>?_)
      repeat refine aB ?_
      refine fK rfl (hS g1 gu _ _ (Hv.mem aA) (Hv.mem aA)) (fun g2 hg2=>?_)
      repeat refine aB ?_
      (rw [hK];refine tV ⟨b9,g2,by rw [hg2,hg1,hg0,hgu,hrq 1 (by omega),hc];rfl,rfl,rfl,rfl⟩)
    ·refine cK (fun b9=>?_)
     refine bE ?_
     refine aY [4,6,10,11,13] [0,0,0,0,0] aF aC (by kernel_rfl) (by kernel_rfl) rfl rfl ?_
     repeat refine aB ?_
     (refine dJ rfl rfl (hAt 1 b3 (by omega) _ _ (Hv.xrow (m:=m) (k:=k) aA ⟨by omega,by omega⟩) (Hv.mem aA)) rfl rfl rfl ?_;rintro _ _ _ ⟨rfl,g0,rfl,hg0,rfl⟩;refine aN ?_)
     repeat refine aB ?_
     refine fK rfl (hO g0 c hc0 _ _ (Hv.mem aA) (Hv.mem aA)) (fun g1 hg1=>?_)
     repeat refine aB ?_
     refine fK rfl (hWv _ _) (fun gu hgu=>?_)
     repeat refine aB ?_
     refine fK rfl (hS g1 gu _ _ (Hv.mem aA) (Hv.mem aA)) (fun g2 hg2=>?_)
     repeat refine aB ?_
     (rw [hK];refine tV ⟨b9,g2,by rw [hg2,hg1,hg0,hgu,hrq 1 (by omega),hc];rfl,rfl,rfl,rfl⟩)
   ·rintro G M I ⟨b9,ey,hey,rfl,rfl,rfl⟩
    (repeat refine aG ?_);refine pW (.blk b9 (eR ey) 77:: .blk b8 (eR ex) 77::M0) (bL ey K::bL ex K::I0) [0,1,3,4,2,5,6,7,8] [2,2,2,2,0,0,0,0,0] mixed ?_
    repeat refine aB ?_
    refine fK rfl (hM ex _ _ (Hv.mem aA)) (fun f0 hf0=>?_)
    refine fK rfl (hM ey _ _ (Hv.mem aA)) (fun f1 hf1=>?_)
    refine fK rfl (hA f0 f1 _ _ (Hv.mem aA) (Hv.mem aA)) (fun f2 hf2=>?_)
    repeat refine aB ?_
    have e9:K+K+(K+K)+1=kM k:=by show _=24*k+321;omega
    rw [e9]
    refine dW (rs:=[.cell 4 77, .tmp 5]) (vs:=[rv f2, .bool true]) (.inl rfl) rfl (.cellN (cs:=eR f2) inferInstance rfl aA rfl (.tmp rfl .nil)) rfl M0 (bL f2 (kM k)::I0) aF aC ⟨rfl,by rw [if_neg h0];exact ⟨f2,rfl,by rw [hf2,hf1,hf0,hex,hey];rfl,rfl⟩⟩
theorem bAW {m:MX} {q:Option Addr} {l:List Q4} {n c u:Nat} {tol:Int} (hk:u≤3000000000) (dm:m.dim 3 3) (hl:l.length=n) (hn:n≤64) (hs:∀s∈l,s.near) (ht:0≤tol∧tol≤1073741824) (hm:gI m u∈I0) (hq:aI q (recs gX l)∈I0):
  CD Tryz.prog 45 [mv m, .slice q n c, .int .i64 tol] X w0 M0 I0 (fun v M I=>M0=M∧∃(q':Option Addr) (c':Nat),v= .slice q' (iJ m.q l tol).length c'∧I=aI q' (recs eZ (iJ m.q l tol))::I0):=by
 have hWt:=fun M0 I0=>jL (X:=X) (w0:=w0) (M0:=M0) (I0:=I0) (x:=tol) (by omega) (k:=30) (by have:2 ^ 30=1073741824:=rfl;omega)
 refine aV (φ:=gI m u) (Hv.mem hm) (aV (φ:=aI q (recs gX l)) (Hv.mem (List.mem_cons_of_mem _ hq)) ?_)
 refine iC Tryz.func45 rfl Tryz.ntmps45 rfl ?_
 repeat refine aB ?_
 refine gZ 3 1 ?_
 refine lX [0,2,12,13] rfl (fun k G M I=>∃(i:Nat) (zs:List Int) (qe:Option Addr) (ce:Nat),i≤n∧k=n - i∧zs=aBY m.q l tol i∧G=[(7, .slice qe zs.length ce),(14, .int .i64 i)]∧M= .row qe zs.length ce (recs eZ zs) 3 1::M0∧I=aI q (recs gX l)::gI m u::I0) (n) (⟨0,[],none,0,by omega,rfl,rfl,rfl,rfl,rfl⟩) ?_
 rintro kk G M I ⟨i,zs,qe,ce,hi,rfl,hzs,rfl,rfl,rfl⟩
 have hzl:zs.length≤i:=by rw [hzs];exact qW
 by_cases hin:i < n
 ·have hmem:=bF (ms:=l) (i:=(i:Int)) (by omega)
  obtain ⟨s,hss⟩:∃s,gt l (i:Int)=s:=⟨_,rfl⟩
  rw [hss] at hmem
  have hMs:=fun M0 I0 h=>aZU (X:=X) (w0:=w0) (M0:=M0) (I0:=I0) (m:=m) (s:=s) (k:=u) hk dm (hs s hmem) h
  unfold MisP at hMs
  have hst:aBY m.q l tol (i+1)=if okQ m.q tol s then zs++[(i:Int)] else zs:=by show (if okQ m.q tol (gt l (i:Int)) then _ else _)=_;rw [hss,hzs]
  repeat refine aB ?_
  rw [hss]
  refine cK (fun b9=>?_)
  repeat refine aB ?_
  by_cases h0:lL m.q 2 s=0
  ·simp only [if_pos h0] at hMs
   rw [if_neg (show ¬okQ m.q tol s from fun h=>h.1 h0)] at hst
   (refine bD rfl (hMs _ _ aA) ?_;rintro _ _ _ ⟨rfl,rfl,rfl⟩;refine aN ?_)
   repeat refine aB ?_
   refine cK (fun b10=>?_)
   repeat refine aB ?_
   (repeat refine aG ?_);refine eO [0,1,2,3,4,5,6,7] [2,0,1,1,0,0,0,0] mixed (by kernel_rfl) ?_
   repeat refine aB ?_
   refine gL (n - (i+1)) (⟨i+1,zs,qe,ce,by omega,rfl,hst.symm,rfl,rfl,rfl⟩)
  ·simp only [if_neg h0] at hMs
   (refine bD rfl (hMs _ _ aA) ?_;rintro _ _ _ ⟨rfl,e,rfl,he,rfl⟩;refine aN ?_)
   repeat refine aB ?_
   refine cK (fun b10=>?_)
   repeat refine aB ?_
   refine rJ (M':= .blk b10 (eR e) 77:: .row qe zs.length ce (recs eZ zs) 3 1::M0) (I':=bL e (kM u)::aI q (recs gX l)::gI m u::I0) aF aC ?_
   (repeat refine aG ?_);refine pW (.blk b10 (eR e) 77::M0) (bL e (kM u)::I0) [0,1,2,3,4,5,6,7] [2,0,1,1,0,0,0,0] mixed ?_
   repeat refine aB ?_
   refine fK rfl (hWt _ _) (fun et het=>?_)
   (refine bR rfl (aMM (a:=e) (b:=et) (k:=kM u) (m:=30) (by show 24*u+321+30≤_;omega) (Hv.mem aA) (Hv.mem aA)) rfl rfl ?_;rintro _ _ _ ⟨rfl,rfl,rfl⟩;refine aN ?_)
   have hcp:aDA e.q et.q≤0↔tQ m.q s≤(tol:Rat):=by rw [aQJ,he,het]
   by_cases h1:tQ m.q s≤(tol:Rat)
   ·rw [if_pos (show okQ m.q tol s from ⟨h0,h1⟩)] at hst
    have h2:=hcp.2 h1
    repeat refine aB ?_
    refine gK (cs:=recs eZ [(i:Int)]) ([.int .i64 (i:Int)]) rfl (fun b=>?_)
    refine wM (ys:=[(i:Int)]) 2 rfl rfl rfl (fun q2 c3=>?_)
    repeat refine aB ?_
    refine gL (n - (i+1)) (⟨i+1,zs++[(i:Int)],q2,c3,by omega,rfl,hst.symm,rfl,rfl,rfl⟩)
   ·rw [if_neg (show ¬okQ m.q tol s from fun h=>h1 h.2)] at hst
    have h2:¬aDA e.q et.q≤0:=fun h=>h1 (hcp.1 h)
    repeat refine aB ?_
    refine gL (n - (i+1)) (⟨i+1,zs,qe,ce,by omega,rfl,hst.symm,rfl,rfl,rfl⟩)
 ·obtain rfl:i=n:=by omega
  have hz:zs=iJ m.q l tol:=by rw [hzs];unfold iJ;rw [hl]
  subst hz
  repeat refine aB ?_
  refine vL .here ?_
  refine iR rfl rfl (⟨rfl,qe,ce,rfl,rfl⟩)
end
end Go.Proofs.YtmmmfphealhapaaGreat
