/- slices.Backward at slices of uint32: its contract, and the functions that range over it. -/
import Derived.RangeFuncNested
import Derived.RangeFuncBound
import Derived.RangeFuncCalls
import Derived.RangeFuncLeaves
import Derived.Shelf.Abstract
import Derived.WalkKit
import Derived.OwnWalkIn
import Derived.TacticsInMore
import Derived.LoopNIn
import Derived.LoopIn
import Derived.Test.YtgpkjcmipiodcaaGreatZwai
import Derived.Test.YtgpkjcmipiodcaaGreatZwae
import Derived.Test.YtgpkjcmipiodcaaGreatZwah
import Derived.Test.YtgpkjcmipiodcaaGreatZwaf
set_option linter.unusedSimpArgs false
set_option linter.unusedVariables false
set_option maxRecDepth 100000
set_option maxHeartbeats 4000000
namespace Go.Proofs.YtgpkjcmipiodcaaGreat
open Go Go.Fx Go.RowKit Go.Shelf
attribute [local go_sem] Oper.semAt_some
abbrev Dg (zs:List Int):={j:Nat // j < zs.length}
def sV (zs:List Int):Nat→List (Dg zs)
 |0=>[]
 |k+1=>sV zs k++(if h:zs.length - 1 - k < zs.length then [⟨zs.length - 1 - k,h⟩] else [])
theorem rX {zs:List Int} {k:Nat} (h:k < zs.length):sV zs (k+1)=sV zs k++[⟨zs.length - 1 - k,by omega⟩]:=by rw [sV,dif_pos (by omega)]
theorem aDV {zs:List Int}:∀{k:Nat},k≤zs.length→(sV zs k).length=k
 |0,_=>rfl
 |k+1,h=>by rw [rX (by omega),List.length_append,aDV (by omega)];rfl
def dgE (zs:List Int) (x:Dg zs):Array Value:=#[.int .i64 (x.1:Int), .int .u32 (zs[x.1]?.getD 0)]
structure KpB (n₀ Bs:Nat) (A B:World):Prop where
 below:Below n₀ A B
 box:∀v,A.cell? ⟨Bs,0,none⟩=some v→B.cell? ⟨Bs,0,none⟩=some v
theorem KpB.refl (n₀ Bs:Nat) (A:World):KpB n₀ Bs A A:=⟨Below.refl _ _,fun _ h=>h⟩
theorem KpB.trans {n₀ Bs:Nat} {A B C:World} (h:KpB n₀ Bs A B) (k:KpB n₀ Bs B C):KpB n₀ Bs A C:=⟨h.below.trans k.below,fun v hv=>k.box v (h.box v hv)⟩
theorem aKM {n₀ Bs:Nat} {w:World} (hn:n₀≤w.heap.size) (W:World) (l:Nat) (o o':Obj) (hl:w.heap.size≤l) (h:W.heap[l]?=some o) (hc:o.isCells=false) (hw:o.isWalk=false):KpB n₀ Bs W (W.putObj l o'):=
 ⟨belowK_b hn W l o o' hl h hc hw,fun _ hv=>cell_kept hv (grownBy_putObj' W l o') (fun r e=>by cases e;exact ⟨o,h,hc⟩)⟩
theorem nN {W:World} {B:Nat} {v:Value} {t:TypeId} (h:W.heap[B]?=some (.cells #[v] t (0,0))):W.cell? ⟨B,0,none⟩=some v∧W.frozen? ⟨B,0,none⟩=false:=by
 constructor <;>simp [World.cell?,World.frozen?,h]
theorem jT (W:World) (v:Value) (t:TypeId):(W.alloc (.cells #[v] t)).cell? ⟨W.heap.size,0,none⟩=some v∧(W.alloc (.cells #[v] t)).frozen? ⟨W.heap.size,0,none⟩=false:=
 nN (World.alloc_heap_new W _)
theorem bN {W:World} {a:Addr} {v:Value} (o:Obj) (h:W.cell? a=some v):(W.alloc o).cell? a=some v:=cell_kept h (World.grownBy_alloc W o none) (fun r e=>by cases e)
theorem dL {W:World} {a:Addr} {v:Value} (o:Obj) (h:W.cell? a=some v) (hf:W.frozen? a=false):(W.alloc o).frozen? a=false:=(frozen_kept h (World.grownBy_alloc W o none) (fun r e=>by cases e)).trans hf
theorem Ext.of_below {w w':World} (h:Below w.heap.size w w'):Ext [] w w':=⟨h.os,h.tape,h.output,h.size,fun k hk _=>h.block k hk⟩
theorem aUN (F:Fence) (n:Nat) (h:F.fn 172) (hro:F.round=none) (hn:1≤n) (l Bs n₀ b off cap:Nat) (zs:List Int) (hreach:zs.length*4≤140737488351232) (hb:b < n₀) (J Jx:List (Dg zs)→World→Prop)
  (hY:∀pre x W,J pre W→pre.length < zs.length→YieldAt F (n - 1) Tryz.prog l (dgE zs x) W fun e W'=>
   (e= .returned (.bool true)∧J (pre++[x]) W'∧KpB n₀ Bs W W')∨(e= .returned (.bool false)∧Jx (pre++[x]) W'))
  (W:World) (hBs:W.cell? ⟨Bs,0,none⟩=some (.slice (some ⟨b,off,none⟩) zs.length cap)) (hc:∀j,j < zs.length→W.cell? ⟨b,off+j,none⟩=some (.int .u32 (zs[j]?.getD 0))) (h0:J [] W):
  CallsIn F n Tryz.prog 172 #[.func (.yield l) #[] #[], .pointer (some ⟨Bs,0,none⟩)] W fun e W'=>(∃v,e= .returned v)∧
   ((∃ys,ys=sV zs zs.length∧J ys W')∨(∃pre,(∃k,k≤zs.length∧pre=sV zs k)∧Jx pre W')):=by
 refine callsIn_of_wp Tryz.func172 rfl h ?_ hro
 simp only [Tryz.ntmps172,List.size_toArray,List.length_cons,List.length_nil,Nat.reduceAdd,Nat.reduceSub,Array.replicate_succ,Array.replicate_zero,List.push_toArray,List.append_toArray,List.nil_append,List.cons_append]
 gi_wp2
 gi_loopw [3] (fun i wr=>∃k:Nat,k≤zs.length∧i= .int .i64 ((zs.length:Int) - 1 - k)∧J (sV zs k) wr∧KpB n₀ Bs W wr)
  (fun i _=>(intOf i+1).toNat)
 case atStart=>exact ⟨0,Nat.zero_le _,by simp,h0,KpB.refl _ _ _⟩
 case round=>
  obtain ⟨k,hk,rfl,hJs,hnx⟩:=hrel
  have hBs':wr.cell? ⟨Bs,0,none⟩=some (.slice (some ⟨b,off,none⟩) zs.length cap):=hnx.box _ hBs
  have hcx:k < zs.length→wr.cell? ⟨b,off+(zs.length - 1 - k),none⟩=some (.int .u32 (zs[zs.length - 1 - k]?.getD 0)):=fun h=>(hnx.below.cell (p:=⟨b,off+(zs.length - 1 - k),none⟩) hb).trans (hc _ (by omega))
  by_cases hlt:k < zs.length
  ·obtain ⟨fn,tmps,assign,body,hy,hR⟩:=hY _ ⟨zs.length - 1 - k,by omega⟩ wr hJs (by rw [aDV hk];exact hlt)
   dsimp only [dgE] at hy
   have hcx':=hcx hlt
   have hidx:(zs.length:Int) - 1 - k=((zs.length - 1 - k:Nat):Int):=by omega
   rw [hidx]
   gi_wp2
   refine hR.mono ?_
   rintro e W3 (⟨rfl,hJ3,hk3⟩|⟨rfl,hJx3⟩)
   ·gi_wp2
    go_roundw
    case rel=>exact ⟨k+1,by omega,by simp;omega,by rw [rX hlt];exact hJ3,hnx.trans hk3⟩
    case measure=>simp [intOf]
   ·gi_wp2
    refine bodyPost_ret (results_none rfl _ _ _) rfl ?_
    exact ⟨⟨_,rfl⟩, .inr ⟨_,⟨k+1,by omega,(rX hlt).symm⟩,hJx3⟩⟩
  ·obtain rfl:k=zs.length:=by omega
   gi_wp2
   go_end0
   exact ⟨⟨_,rfl⟩, .inl ⟨_,rfl,hJs⟩⟩
theorem aHY (F:Fence) (n:Nat) (h:F.fn 172) (hro:F.round=none) (l Bs c:Nat) {α:Type} (a:Option Addr) (J:List α→World→Prop) (W:World) (hBs:W.cell? ⟨Bs,0,none⟩=some (.slice a 0 c)) (h0:J [] W):
  CallsIn F n Tryz.prog 172 #[.func (.yield l) #[] #[], .pointer (some ⟨Bs,0,none⟩)] W fun e W'=>(∃v,e= .returned v)∧J [] W':=by
 refine callsIn_of_wp Tryz.func172 rfl h ?_ hro
 simp only [Tryz.ntmps172,List.size_toArray,List.length_cons,List.length_nil,Nat.reduceAdd,Nat.reduceSub,Array.replicate_succ,Array.replicate_zero,List.push_toArray,List.append_toArray,List.nil_append,List.cons_append]
 gi_wp2
 gi_loopw [3] (fun i wr=>i= .int .i64 (-1)∧J [] wr) (fun _ _=>0)
 case atStart=>exact ⟨rfl,h0⟩
 case round=>
  obtain ⟨rfl,hJs⟩:=hrel
  gi_wp2
  go_end0
  exact ⟨⟨_,rfl⟩,hJs⟩
theorem xL (F:Fence) (n:Nat) (h:F.fn 131) (hro:F.round=none) (a:Option Addr) (len cap:Nat) (w:World):
  CallsIn F n Tryz.prog 131 #[.slice a len cap] w fun e w'=>e= .returned (.func (.func 172) #[] #[.pointer (some ⟨w.heap.size,0,none⟩)])∧w'=w.alloc (.cells #[.slice a len cap] 36):=by
 refine callsIn_of_wp Tryz.func131 rfl h ?_ hro
 simp only [Tryz.ntmps131,List.size_toArray,List.length_cons,List.length_nil,Nat.reduceAdd,Nat.reduceSub,Array.replicate_succ,Array.replicate_zero,List.push_toArray,List.append_toArray,List.nil_append,List.cons_append]
 gi_wp2
 go_ret
 exact ⟨rfl,rfl⟩
theorem yH {w:World} {b off:Nat} {zs:List Int} (h:Sl [] w (some ⟨b,off,none⟩) (recs eG zs)):∀j,j < zs.length→w.cell? ⟨b,off+j,none⟩=some (.int .u32 (zs[j]?.getD 0)):=by
 intro j hj
 have h1:(recs eG zs)[j]?=some (.int .u32 (zs[j]?.getD 0)):=by
  rw [rJ,List.getElem?_map]
  simp [hj]
 exact (h j _ h1).2.2
theorem wP (F:Fence) (n:Nat) (h:F.fn 172) (hro:F.round=none) (hn:1≤n) (Bs n₀:Nat) (a:Option Addr) (cap:Nat) (zs:List Int) (hreach:zs.length*4≤140737488351232) (w:World) (hBs:Bs < w.heap.size) (hn₀:n₀≤w.heap.size)
  (hc:w.cell? ⟨Bs,0,none⟩=some (.slice a zs.length cap)) (hI:Sl [] w a (recs eG zs)) (hlt:0 < zs.length→∀b,a.map (·.block)=some b→b < n₀):
  SeqStopsK F n Tryz.prog 172 #[.pointer (some ⟨Bs,0,none⟩)] (dgE zs) (KpB n₀ Bs) (fun ys=>ys=sV zs zs.length) (fun pre=>∃k,k≤zs.length∧pre=sV zs k) zs.length w:=fun l J Jx W hW _ _ hY h0=>by
 have hc':=(hW.cell (p:=⟨Bs,0,none⟩) (show Bs < w.heap.size from hBs)).trans hc
 by_cases hz:zs.length=0
 ·rw [hz] at hc'
  exact (aHY F n h hro l Bs cap a J W hc' h0).mono fun e W' ⟨he,hj⟩=>⟨he, .inl ⟨_,by rw [hz];rfl,hj⟩⟩
 ·obtain ⟨b,off,rfl⟩:=(Sl.ok hI (by rw [fJ];omega)).cases
  have hb:b < n₀:=hlt (by omega) b rfl
  have hcs:=yH hI
  refine (aUN F n h hro hn l Bs n₀ b off cap zs hreach hb J Jx hY W hc' (fun j hj=>(hW.cell (p:=⟨b,off+j,none⟩) (show b < w.heap.size from Nat.lt_of_lt_of_le hb hn₀)).trans (hcs j hj)) h0).mono ?_
  rintro e W' ⟨he,⟨ys,rfl,hj⟩|⟨pre,⟨k,hk,rfl⟩,hj⟩⟩
  ·exact ⟨he, .inl ⟨_,rfl,hj⟩⟩
  ·exact ⟨he, .inr ⟨_,⟨k,hk,rfl⟩,hj⟩⟩
def wdS (s g:Int):Int:=IntKind.u64.wrap (IntKind.u64.wrap (s*1000000000)+IntKind.u64.wrap g)
def wdF (zs:List Int) (pre:List (Dg zs)):Int:=pre.foldl (fun s x=>wdS s (zs[x.1]?.getD 0)) 0
theorem zK (zs:List Int) (pre:List (Dg zs)) (x:Dg zs):wdF zs (pre++[x])=wdS (wdF zs pre) (zs[x.1]?.getD 0):=by simp [wdF]
theorem aXH (a:Option Addr) (cap:Nat) (zs:List Int) (w:World) (hz:zs.length≤2) (hI:Sl [] w a (recs eG zs)) (hlt:0 < zs.length→∀b,a.map (·.block)=some b→b < w.heap.size):
  CallsIn Fence.wide 5 Tryz.prog 175 #[.slice a zs.length cap] w fun e w'=>e= .returned (.tuple #[.int .u64 (wdF zs (sV zs zs.length)), .bool true])∧Below w.heap.size w w':=by
 refine callsIn_of_wp_marks Tryz.func175 rfl trivial ?_ rfl
 simp only [Tryz.ntmps175,List.size_toArray,List.length_cons,List.length_nil,Nat.reduceAdd,Nat.reduceSub,Array.replicate_succ,Array.replicate_zero,List.push_toArray,List.append_toArray,List.nil_append,List.cons_append]
 have hz':¬(2 < (zs.length:Int)):=by omega
 gi_wp2_with (refine ⟨trivial,?_⟩;gi_at_call 131;refine (xL Fence.wide _ trivial rfl _ _ _ _).mono ?_;rintro e w' ⟨rfl,rfl⟩)
 have hs:=jT w (.int .u64 0) 172
 have hb:=jT (w.alloc (.cells #[.int .u64 0] 172)) (.slice a zs.length cap) 36
 rw [World.size_alloc] at hb
 have hBl:Below w.heap.size w ((w.alloc (.cells #[.int .u64 0] 172)).alloc (.cells #[.slice a zs.length cap] 36)):=((Below.refl _ w).alloc (Nat.le_refl _) _).alloc (by simp) _
 have hI2:=Sl.mono hI (Ext.of_below hBl)
 refine wpIn_rangeFunc_ownG rfl (by decide) (gf:=172) (lb:=#[.pointer (some ⟨w.heap.size+1,0,none⟩)]) rfl trivial (enters_of Tryz.func172 (by kernel_rfl) rfl)
  (wP Fence.wide (5 - 1) trivial rfl (by decide) (w.heap.size+1) w.heap.size a cap zs (by omega) _ (by simp) (by simp;omega) hb.1 hI2 hlt) KpB.trans (aKM (by simp;omega)) (Below.refl _ _) (fun _=>rfl)
  (fun pre W=>(W.cell? ⟨w.heap.size,0,none⟩=some (.int .u64 (wdF zs pre))∧W.frozen? ⟨w.heap.size,0,none⟩=false)∧Below w.heap.size w W)
  (fun _ _ _=>False)
  (OwnFrom.and (Own.from (fun s A B row hs hg hr=>⟨cell_kept hs.1 hg hr,(frozen_kept hs.1 hg hr).trans hs.2⟩) _) (ownFrom_below (Nat.le_refl _) (by simp;omega)))
  (fun _ _ _ _ _ hs _ _=>hs) ⟨⟨bN _ hs.1,dL _ hs.1 hs.2⟩,hBl⟩ ?a1 ?assign ?body ?done ?stop
 case assign=>
  intro l x W K hK
  dsimp only [dgE]
  gi_wp2
  exact hK
 case body=>
  rintro l pre x W ⟨⟨hc,hf⟩,hB⟩ hpl
  gi_wp2
  refine ⟨(KeepsOthers.setCell _ _ _).from _,⟨(Below.refl w.heap.size W).setCell (p:=⟨w.heap.size,0,none⟩) (Nat.le_refl _) _,fun v hv=>(World.cell?_setCell_other _ _ _ _ (by simp)).trans hv⟩,⟨?_,by rw [World.frozen?_setCell];exact hf⟩,hB.setCell (p:=⟨w.heap.size,0,none⟩) (Nat.le_refl _) _⟩
  rw [zK]
  exact World.cell?_setCell_same' _ _ _ (by rw [hc];rfl)
 case done=>
  rintro D ys W hD rfl ⟨⟨hc,hf⟩,hB⟩ hK
  gi_wp2
  refine ⟨by simp, .inl ⟨_,_,rfl,run_takeDeferred hK,?_⟩⟩
  refine ⟨_,results_tmp2 rfl _ _ _,rfl,?_⟩
  exact hB.trans (belowK_b (w:=w) (Nat.le_refl _) W D _ _ (by simp at hD;omega) hK rfl rfl)
 case stop=>
  rintro D c pre W _ _ h _
  exact h.elim
theorem aGF {w:World} {a:Option Addr} {zs:List Int} (h:Sl [] w a (recs eG zs)):0 < zs.length→∀b,a.map (·.block)=some b→b < w.heap.size:=by
 intro hz b hb
 obtain ⟨b',off,rfl⟩:=(Sl.ok h (by rw [fJ];omega)).cases
 have h1:=yH h 0 hz
 simp only [Option.map_some,Option.some.injEq] at hb
 subst hb
 by_cases hlt:b' < w.heap.size
 ·exact hlt
 ·exfalso
  unfold World.cell? at h1
  rw [Array.getElem?_eq_none (by simpa using hlt)] at h1
  simp at h1
theorem aDP {P:Program} {fn:Func} {a:Tmp} {t:TypeId} {tmps:Array Value} {w:World} {b:Nat} {v:Value} [ht:ScalarTy P t] (h:fn.results=#[.cell a t]) (hb:tmps.getD a undef= .pointer (some ⟨b,0,none⟩)) (hc:w.cell? ⟨b,0,none⟩=some v):
  (results fn tmps).run P w= .ok v w:=by
 have hb':tmps[a]?.getD undef= .pointer (some ⟨b,0,none⟩):=by simpa using hb
 simp [results,h,hb',asAddr,loadVar,kZ,hc]
def fP (x y:Int):Int:=if x < y then -1 else if y < x then 1 else 0
theorem aSU (x:Int) (w:World):Ret Tryz.prog 196 [.int .i64 x] w (fun v w'=>w=w'∧v= .bool false):=by
 refine enter Tryz.func196 rfl Tryz.ntmps196 rfl ?_
 repeat (first|refine tH ?_|refine kU ?_|refine tJ ?_|refine qD ?_|refine nA ?_|refine mU ?_|refine qB ?_|refine qA ?_|refine mY ?_|refine nC ?_|refine uH ?_|refine tO ?_|refine uG ?_|refine uA rfl ?_|refine tN ?_|refine qG rfl rfl rfl ?_|refine nY rfl rfl rfl ?_|refine iR rfl (bP rfl) rfl rfl ?_|refine iR rfl (dE rfl) rfl rfl ?_|refine iR rfl (dF rfl rfl (by first|exact wrap_i64 (by omega)|exact wrap_u64 (by omega)|exact wrap_u32 (by omega)|exact wrap_u8 (by omega))) rfl rfl ?_|refine iR rfl (dG rfl rfl (by first|exact wrap_i64 (by omega)|exact wrap_u64 (by omega)|exact wrap_u32 (by omega)|exact wrap_u8 (by omega))) rfl rfl ?_)
 exact vC (.inl rfl) rfl rfl ⟨rfl,congrArg Value.bool (bF (by omega))⟩
theorem aSI (x y:Int) (w:World):Ret Tryz.prog 151 [.int .i64 x, .int .i64 y] w (fun v w'=>w=w'∧v= .int .i64 (fP x y)):=by
 refine enter Tryz.func151 rfl Tryz.ntmps151 rfl ?_
 repeat (first|refine tH ?_|refine kU ?_|refine tJ ?_|refine qD ?_|refine nA ?_|refine mU ?_|refine qB ?_|refine qA ?_|refine mY ?_|refine nC ?_|refine uH ?_|refine tO ?_|refine uG ?_|refine uA rfl ?_|refine tN ?_|refine qG rfl rfl rfl ?_|refine nY rfl rfl rfl ?_|refine iR rfl (bP rfl) rfl rfl ?_|refine iR rfl (dE rfl) rfl rfl ?_|refine iR rfl (dF rfl rfl (by first|exact wrap_i64 (by omega)|exact wrap_u64 (by omega)|exact wrap_u32 (by omega)|exact wrap_u8 (by omega))) rfl rfl ?_|refine iR rfl (dG rfl rfl (by first|exact wrap_i64 (by omega)|exact wrap_u64 (by omega)|exact wrap_u32 (by omega)|exact wrap_u8 (by omega))) rfl rfl ?_)
 (refine aTG rfl (wS rfl (aSU x w)) rfl rfl ?_;rintro _ w' ⟨rfl,rfl⟩)
 refine ⟨trivial,?_⟩
 repeat (first|refine tH ?_|refine kU ?_|refine tJ ?_|refine qD ?_|refine nA ?_|refine mU ?_|refine qB ?_|refine qA ?_|refine mY ?_|refine nC ?_|refine uH ?_|refine tO ?_|refine uG ?_|refine uA rfl ?_|refine tN ?_|refine qG rfl rfl rfl ?_|refine nY rfl rfl rfl ?_|refine iR rfl (bP rfl) rfl rfl ?_|refine iR rfl (dE rfl) rfl rfl ?_|refine iR rfl (dF rfl rfl (by first|exact wrap_i64 (by omega)|exact wrap_u64 (by omega)|exact wrap_u32 (by omega)|exact wrap_u8 (by omega))) rfl rfl ?_|refine iR rfl (dG rfl rfl (by first|exact wrap_i64 (by omega)|exact wrap_u64 (by omega)|exact wrap_u32 (by omega)|exact wrap_u8 (by omega))) rfl rfl ?_)
 (refine aTG rfl (wS rfl (aSU y w)) rfl rfl ?_;rintro _ w' ⟨rfl,rfl⟩)
 refine ⟨trivial,?_⟩
 unfold fP
 by_cases h1:x < y
 ·rw [if_pos h1]
  repeat' (first|refine tH ?_|refine kU ?_|refine tJ ?_|refine qD ?_|refine nA ?_|refine mU ?_|refine qB ?_|refine qA ?_|refine mY ?_|refine nC ?_|refine uH ?_|refine tO ?_|refine uG ?_|refine uA rfl ?_|refine tN ?_|refine qG rfl rfl rfl ?_|refine nY rfl rfl rfl ?_|refine iR rfl (bP rfl) rfl rfl ?_|refine iR rfl (dE rfl) rfl rfl ?_|refine iR rfl (dF rfl rfl (by first|exact wrap_i64 (by omega)|exact wrap_u64 (by omega)|exact wrap_u32 (by omega)|exact wrap_u8 (by omega))) rfl rfl ?_|refine iR rfl (dG rfl rfl (by first|exact wrap_i64 (by omega)|exact wrap_u64 (by omega)|exact wrap_u32 (by omega)|exact wrap_u8 (by omega))) rfl rfl ?_|refine aDK rfl (by omega) ?_|refine aLE rfl (by omega) ?_|refine aBF rfl rfl (by omega) ?_|refine aAM rfl rfl (by omega) ?_|refine aFN rfl (fun h=>?_) (fun h=>?_)|refine mG rfl ?_|refine lF rfl ?_|refine aAA rfl rfl (fun h=>?_) (fun h=>?_))
  exact vC (.inl rfl) rfl rfl ⟨rfl,rfl⟩
 ·rw [if_neg h1]
  by_cases h2:y < x
  ·rw [if_pos h2]
   repeat' (first|refine tH ?_|refine kU ?_|refine tJ ?_|refine qD ?_|refine nA ?_|refine mU ?_|refine qB ?_|refine qA ?_|refine mY ?_|refine nC ?_|refine uH ?_|refine tO ?_|refine uG ?_|refine uA rfl ?_|refine tN ?_|refine qG rfl rfl rfl ?_|refine nY rfl rfl rfl ?_|refine iR rfl (bP rfl) rfl rfl ?_|refine iR rfl (dE rfl) rfl rfl ?_|refine iR rfl (dF rfl rfl (by first|exact wrap_i64 (by omega)|exact wrap_u64 (by omega)|exact wrap_u32 (by omega)|exact wrap_u8 (by omega))) rfl rfl ?_|refine iR rfl (dG rfl rfl (by first|exact wrap_i64 (by omega)|exact wrap_u64 (by omega)|exact wrap_u32 (by omega)|exact wrap_u8 (by omega))) rfl rfl ?_|refine aDK rfl (by omega) ?_|refine aLE rfl (by omega) ?_|refine aBF rfl rfl (by omega) ?_|refine aAM rfl rfl (by omega) ?_|refine aFN rfl (fun h=>?_) (fun h=>?_)|refine mG rfl ?_|refine lF rfl ?_|refine aAA rfl rfl (fun h=>?_) (fun h=>?_))
   exact vC (.inl rfl) rfl rfl ⟨rfl,rfl⟩
  ·rw [if_neg h2]
   repeat' (first|refine tH ?_|refine kU ?_|refine tJ ?_|refine qD ?_|refine nA ?_|refine mU ?_|refine qB ?_|refine qA ?_|refine mY ?_|refine nC ?_|refine uH ?_|refine tO ?_|refine uG ?_|refine uA rfl ?_|refine tN ?_|refine qG rfl rfl rfl ?_|refine nY rfl rfl rfl ?_|refine iR rfl (bP rfl) rfl rfl ?_|refine iR rfl (dE rfl) rfl rfl ?_|refine iR rfl (dF rfl rfl (by first|exact wrap_i64 (by omega)|exact wrap_u64 (by omega)|exact wrap_u32 (by omega)|exact wrap_u8 (by omega))) rfl rfl ?_|refine iR rfl (dG rfl rfl (by first|exact wrap_i64 (by omega)|exact wrap_u64 (by omega)|exact wrap_u32 (by omega)|exact wrap_u8 (by omega))) rfl rfl ?_|refine aDK rfl (by omega) ?_|refine aLE rfl (by omega) ?_|refine aBF rfl rfl (by omega) ?_|refine aAM rfl rfl (by omega) ?_|refine aFN rfl (fun h=>?_) (fun h=>?_)|refine mG rfl ?_|refine lF rfl ?_|refine aAA rfl rfl (fun h=>?_) (fun h=>?_))
   exact vC (.inl rfl) rfl rfl ⟨rfl,rfl⟩
theorem aTA (x:Int) (w:World):Ret Tryz.prog 212 [.int .u32 x] w (fun v w'=>w=w'∧v= .bool false):=by
 refine enter Tryz.func212 rfl Tryz.ntmps212 rfl ?_
 repeat (first|refine tH ?_|refine kU ?_|refine tJ ?_|refine qD ?_|refine nA ?_|refine mU ?_|refine qB ?_|refine qA ?_|refine mY ?_|refine nC ?_|refine uH ?_|refine tO ?_|refine uG ?_|refine uA rfl ?_|refine tN ?_|refine qG rfl rfl rfl ?_|refine nY rfl rfl rfl ?_|refine iR rfl (bP rfl) rfl rfl ?_|refine iR rfl (dE rfl) rfl rfl ?_|refine iR rfl (dF rfl rfl (by first|exact wrap_i64 (by omega)|exact wrap_u64 (by omega)|exact wrap_u32 (by omega)|exact wrap_u8 (by omega))) rfl rfl ?_|refine iR rfl (dG rfl rfl (by first|exact wrap_i64 (by omega)|exact wrap_u64 (by omega)|exact wrap_u32 (by omega)|exact wrap_u8 (by omega))) rfl rfl ?_)
 exact vC (.inl rfl) rfl rfl ⟨rfl,congrArg Value.bool (bF (by omega))⟩
theorem bAN (x y:Int) (w:World):Ret Tryz.prog 195 [.int .u32 x, .int .u32 y] w (fun v w'=>w=w'∧v= .int .i64 (fP x y)):=by
 refine enter Tryz.func195 rfl Tryz.ntmps195 rfl ?_
 repeat (first|refine tH ?_|refine kU ?_|refine tJ ?_|refine qD ?_|refine nA ?_|refine mU ?_|refine qB ?_|refine qA ?_|refine mY ?_|refine nC ?_|refine uH ?_|refine tO ?_|refine uG ?_|refine uA rfl ?_|refine tN ?_|refine qG rfl rfl rfl ?_|refine nY rfl rfl rfl ?_|refine iR rfl (bP rfl) rfl rfl ?_|refine iR rfl (dE rfl) rfl rfl ?_|refine iR rfl (dF rfl rfl (by first|exact wrap_i64 (by omega)|exact wrap_u64 (by omega)|exact wrap_u32 (by omega)|exact wrap_u8 (by omega))) rfl rfl ?_|refine iR rfl (dG rfl rfl (by first|exact wrap_i64 (by omega)|exact wrap_u64 (by omega)|exact wrap_u32 (by omega)|exact wrap_u8 (by omega))) rfl rfl ?_)
 (refine aTG rfl (wS rfl (aTA x w)) rfl rfl ?_;rintro _ w' ⟨rfl,rfl⟩)
 refine ⟨trivial,?_⟩
 repeat (first|refine tH ?_|refine kU ?_|refine tJ ?_|refine qD ?_|refine nA ?_|refine mU ?_|refine qB ?_|refine qA ?_|refine mY ?_|refine nC ?_|refine uH ?_|refine tO ?_|refine uG ?_|refine uA rfl ?_|refine tN ?_|refine qG rfl rfl rfl ?_|refine nY rfl rfl rfl ?_|refine iR rfl (bP rfl) rfl rfl ?_|refine iR rfl (dE rfl) rfl rfl ?_|refine iR rfl (dF rfl rfl (by first|exact wrap_i64 (by omega)|exact wrap_u64 (by omega)|exact wrap_u32 (by omega)|exact wrap_u8 (by omega))) rfl rfl ?_|refine iR rfl (dG rfl rfl (by first|exact wrap_i64 (by omega)|exact wrap_u64 (by omega)|exact wrap_u32 (by omega)|exact wrap_u8 (by omega))) rfl rfl ?_)
 (refine aTG rfl (wS rfl (aTA y w)) rfl rfl ?_;rintro _ w' ⟨rfl,rfl⟩)
 refine ⟨trivial,?_⟩
 unfold fP
 by_cases h1:x < y
 ·rw [if_pos h1]
  repeat' (first|refine tH ?_|refine kU ?_|refine tJ ?_|refine qD ?_|refine nA ?_|refine mU ?_|refine qB ?_|refine qA ?_|refine mY ?_|refine nC ?_|refine uH ?_|refine tO ?_|refine uG ?_|refine uA rfl ?_|refine tN ?_|refine qG rfl rfl rfl ?_|refine nY rfl rfl rfl ?_|refine iR rfl (bP rfl) rfl rfl ?_|refine iR rfl (dE rfl) rfl rfl ?_|refine iR rfl (dF rfl rfl (by first|exact wrap_i64 (by omega)|exact wrap_u64 (by omega)|exact wrap_u32 (by omega)|exact wrap_u8 (by omega))) rfl rfl ?_|refine iR rfl (dG rfl rfl (by first|exact wrap_i64 (by omega)|exact wrap_u64 (by omega)|exact wrap_u32 (by omega)|exact wrap_u8 (by omega))) rfl rfl ?_|refine aDK rfl (by omega) ?_|refine aLE rfl (by omega) ?_|refine aBF rfl rfl (by omega) ?_|refine aAM rfl rfl (by omega) ?_|refine aFN rfl (fun h=>?_) (fun h=>?_)|refine mG rfl ?_|refine lF rfl ?_|refine aAA rfl rfl (fun h=>?_) (fun h=>?_))
  exact vC (.inl rfl) rfl rfl ⟨rfl,rfl⟩
 ·rw [if_neg h1]
  by_cases h2:y < x
  ·rw [if_pos h2]
   repeat' (first|refine tH ?_|refine kU ?_|refine tJ ?_|refine qD ?_|refine nA ?_|refine mU ?_|refine qB ?_|refine qA ?_|refine mY ?_|refine nC ?_|refine uH ?_|refine tO ?_|refine uG ?_|refine uA rfl ?_|refine tN ?_|refine qG rfl rfl rfl ?_|refine nY rfl rfl rfl ?_|refine iR rfl (bP rfl) rfl rfl ?_|refine iR rfl (dE rfl) rfl rfl ?_|refine iR rfl (dF rfl rfl (by first|exact wrap_i64 (by omega)|exact wrap_u64 (by omega)|exact wrap_u32 (by omega)|exact wrap_u8 (by omega))) rfl rfl ?_|refine iR rfl (dG rfl rfl (by first|exact wrap_i64 (by omega)|exact wrap_u64 (by omega)|exact wrap_u32 (by omega)|exact wrap_u8 (by omega))) rfl rfl ?_|refine aDK rfl (by omega) ?_|refine aLE rfl (by omega) ?_|refine aBF rfl rfl (by omega) ?_|refine aAM rfl rfl (by omega) ?_|refine aFN rfl (fun h=>?_) (fun h=>?_)|refine mG rfl ?_|refine lF rfl ?_|refine aAA rfl rfl (fun h=>?_) (fun h=>?_))
   exact vC (.inl rfl) rfl rfl ⟨rfl,rfl⟩
  ·rw [if_neg h2]
   repeat' (first|refine tH ?_|refine kU ?_|refine tJ ?_|refine qD ?_|refine nA ?_|refine mU ?_|refine qB ?_|refine qA ?_|refine mY ?_|refine nC ?_|refine uH ?_|refine tO ?_|refine uG ?_|refine uA rfl ?_|refine tN ?_|refine qG rfl rfl rfl ?_|refine nY rfl rfl rfl ?_|refine iR rfl (bP rfl) rfl rfl ?_|refine iR rfl (dE rfl) rfl rfl ?_|refine iR rfl (dF rfl rfl (by first|exact wrap_i64 (by omega)|exact wrap_u64 (by omega)|exact wrap_u32 (by omega)|exact wrap_u8 (by omega))) rfl rfl ?_|refine iR rfl (dG rfl rfl (by first|exact wrap_i64 (by omega)|exact wrap_u64 (by omega)|exact wrap_u32 (by omega)|exact wrap_u8 (by omega))) rfl rfl ?_|refine aDK rfl (by omega) ?_|refine aLE rfl (by omega) ?_|refine aBF rfl rfl (by omega) ?_|refine aAM rfl rfl (by omega) ?_|refine aFN rfl (fun h=>?_) (fun h=>?_)|refine mG rfl ?_|refine lF rfl ?_|refine aAA rfl rfl (fun h=>?_) (fun h=>?_))
   exact vC (.inl rfl) rfl rfl ⟨rfl,rfl⟩
def aEL (zs ys:List Int):Nat→Int
 |0=>0
 |k+1=>if zs[k]?.getD 0=ys[k]?.getD 0 then aEL zs ys k else fP (zs[k]?.getD 0) (ys[k]?.getD 0)
def Eqs (zs ys:List Int) (pre:List (Dg zs)):Prop:=∀x∈pre,zs[x.1]?.getD 0=ys[x.1]?.getD 0
theorem aDW {zs ys:List Int}:∀k,k≤zs.length→Eqs zs ys (sV zs k)→aEL zs ys zs.length=aEL zs ys (zs.length - k)
 |0,_,_=>rfl
 |k+1,hk,h=>by
  rw [rX (by omega)] at h
  rw [aDW k (by omega) (fun x hx=>h x (List.mem_append.2 (.inl hx)))]
  have e:zs.length - k=zs.length - (k+1)+1:=by omega
  have h1:=h ⟨zs.length - 1 - k,by omega⟩ (by simp)
  have e2:zs.length - 1 - k=zs.length - (k+1):=by omega
  rw [e,aEL,if_pos (by rw [←e2];exact h1)]
theorem aRA {zs ys:List Int} {pre0:List (Dg zs)} {x:Dg zs} (k:Nat) (hk:k≤zs.length) (hp:sV zs k=pre0++[x]) (hE:Eqs zs ys pre0) (hn:zs[x.1]?.getD 0≠ys[x.1]?.getD 0):
  aEL zs ys zs.length=fP (zs[x.1]?.getD 0) (ys[x.1]?.getD 0):=by
 match k,hk,hp with
 |0,_,hp=>simp [sV] at hp
 |k+1,hk,hp=>
  rw [rX (by omega)] at hp
  obtain ⟨e1,e2⟩:=List.append_inj' hp rfl
  subst e1
  have e3:x.1=zs.length - 1 - k:=by rw [←(List.cons.inj e2).1]
  have e:zs.length - k=x.1+1:=by omega
  rw [aDW k (by omega) hE,e,aEL,if_neg hn]
theorem aMC (a b:Option Addr) (cap cap2:Nat) (zs ys:List Int) (w:World) (hz:zs.length*4≤140737488351232) (hlen:ys.length=zs.length) (hI:Sl [] w a (recs eG zs)) (hJ:Sl [] w b (recs eG ys)):
  CallsIn Fence.wide 5 Tryz.prog 149 #[.slice a zs.length cap, .slice b zs.length cap2] w fun e w'=>e= .returned (.int .i64 (aEL zs ys zs.length))∧Below w.heap.size w w':=by
 refine callsIn_of_wp_marks Tryz.func149 rfl trivial ?_ rfl
 simp only [Tryz.ntmps149,List.size_toArray,List.length_cons,List.length_nil,Nat.reduceAdd,Nat.reduceSub,Array.replicate_succ,Array.replicate_zero,List.push_toArray,List.append_toArray,List.nil_append,List.cons_append]
 gi_wp2_with (refine ⟨trivial,?_⟩;gi_at_call 131;refine (xL Fence.wide _ trivial rfl _ _ _ _).mono ?_;rintro e w' ⟨rfl,rfl⟩)
 have hs3:=jT w (.slice b zs.length cap2) 36
 have hs4:=jT (w.alloc (.cells #[.slice b zs.length cap2] 36)) (.int .i64 0) 3
 have hb:=jT ((w.alloc (.cells #[.slice b zs.length cap2] 36)).alloc (.cells #[.int .i64 0] 3)) (.slice a zs.length cap) 36
 simp only [World.size_alloc] at hb hs4
 have hBl:Below w.heap.size w (((w.alloc (.cells #[.slice b zs.length cap2] 36)).alloc (.cells #[.int .i64 0] 3)).alloc (.cells #[.slice a zs.length cap] 36)):=(((Below.refl _ w).alloc (Nat.le_refl _) _).alloc (by simp) _).alloc (by simp;omega) _
 have hI2:=Sl.mono hI (Ext.of_below hBl)
 refine wpIn_rangeFunc_ownG rfl (by decide) (gf:=172) (lb:=#[.pointer (some ⟨w.heap.size+1+1,0,none⟩)]) rfl trivial (enters_of Tryz.func172 (by kernel_rfl) rfl)
  (wP Fence.wide (5 - 1) trivial rfl (by decide) (w.heap.size+1+1) w.heap.size a cap zs hz _ (by simp) (by simp;omega) hb.1 hI2 (aGF hI)) KpB.trans (aKM (by simp;omega)) (Below.refl _ _) (fun _=>rfl)
  (fun pre W=>((W.cell? ⟨w.heap.size,0,none⟩=some (.slice b zs.length cap2)∧W.frozen? ⟨w.heap.size,0,none⟩=false)∧(W.cell? ⟨w.heap.size+1,0,none⟩=some (.int .i64 0)∧W.frozen? ⟨w.heap.size+1,0,none⟩=false))∧(Eqs zs ys pre∧Below w.heap.size w W))
  (fun c pre W=>(c= .ret∧∃pre0 x,pre=pre0++[x]∧Eqs zs ys pre0∧zs[x.1]?.getD 0≠ys[x.1]?.getD 0∧W.cell? ⟨w.heap.size+1,0,none⟩=some (.int .i64 (fP (zs[x.1]?.getD 0) (ys[x.1]?.getD 0))))∧Below w.heap.size w W)
  ?hI ?hIx ⟨⟨⟨bN _ (bN _ hs3.1),dL _ (bN _ hs3.1) (dL _ hs3.1 hs3.2)⟩,⟨bN _ hs4.1,dL _ hs4.1 hs4.2⟩⟩,fun x h=>absurd h (by simp),hBl⟩ ?a1 ?assign ?body ?done ?stop
 case hI=>exact OwnFrom.and (Own.from (fun s A B row hs hg hr=>⟨⟨cell_kept hs.1.1 hg hr,(frozen_kept hs.1.1 hg hr).trans hs.1.2⟩,cell_kept hs.2.1 hg hr,(frozen_kept hs.2.1 hg hr).trans hs.2.2⟩) _) (OwnFrom.and (fun _ _ _ _ hs _ _=>hs) (ownFrom_below (Nat.le_refl _) (by simp;omega)))
 case hIx=>exact fun c=>OwnFrom.and (Own.from (fun s A B row hs hg hr=>let ⟨e,pre0,x,hp,hE,hn,hc⟩:=hs;⟨e,pre0,x,hp,hE,hn,cell_kept hc hg hr⟩) _) (ownFrom_below (Nat.le_refl _) (by simp;omega))
 case assign=>
  intro l x W K hK
  dsimp only [dgE]
  gi_wp2
  exact hK
 case body=>
  rintro l pre x W ⟨⟨⟨hc,hf⟩,hc4,hf4⟩,hE,hB⟩ hpl
  have hx:=x.2
  obtain ⟨b',off,rfl⟩:=(Sl.ok hJ (by rw [fJ];omega)).cases
  have hcx:W.cell? ⟨b',off+x.1,none⟩=some (.int .u32 (ys[x.1]?.getD 0)):=(hB.cell (p:=⟨b',off+x.1,none⟩) (aGF hJ (by omega) b' rfl)).trans (yH hJ x.1 (by omega))
  gi_wp2_with (refine ⟨trivial,?_⟩;gi_at_call 195;refine (CallsIn.inRound l (callsIn_wide.2 (bAN _ _ _))).mono ?_;rintro e w' ⟨v,rfl,rfl,rfl⟩)
  ·rename_i hne
   have hne':zs[x.1]?.getD 0≠ys[x.1]?.getD 0:=by simpa [hx,show x.1 < ys.length by omega] using hne
   have ez:zs[x.1]=zs[x.1]?.getD 0:=by simp [hx]
   have ey:ys[x.1]'(by omega)=ys[x.1]?.getD 0:=by simp [show x.1 < ys.length by omega]
   refine ⟨(KeepsOthers.setCell _ _ _).from _,⟨rfl,pre,x,rfl,hE,hne',?_⟩,hB.setCell (p:=⟨w.heap.size+1,0,none⟩) (by simp) _⟩
   rw [ez,ey]
   exact World.cell?_setCell_same' _ _ _ (by rw [hc4];rfl)
  ·rename_i hne
   have he:zs[x.1]?.getD 0=ys[x.1]?.getD 0:=by simpa [hx,show x.1 < ys.length by omega] using hne
   refine ⟨KeepsFrom.refl _ _,KpB.refl _ _ _,⟨⟨⟨hc,hf⟩,hc4,hf4⟩,?_,hB⟩⟩
   intro y hy
   rcases List.mem_append.1 hy with hy|hy
   ·exact hE y hy
   ·rw [List.mem_singleton.1 hy];exact he
 case done=>
  rintro D xs W hD rfl ⟨⟨_,hc4,hf4⟩,hE,hB⟩ hK
  gi_wp2
  have hD':w.heap.size+1+1+1≤D:=by simpa using hD
  have hne:(⟨w.heap.size+1,0,none⟩:Addr).block≠D:=by simp;omega
  have hK':(W.setCell ⟨w.heap.size+1,0,none⟩ (.int .i64 0)).heap[D]?=some (.deferred (some [])):=(Below.heap_setCell W _ _ D (by simp;omega)).trans hK
  refine ⟨by simp, .inl ⟨_,_,rfl,run_takeDeferred hK',?_⟩⟩
  have hq:=World.cell?_setCell_same' W ⟨w.heap.size+1,0,none⟩ (.int .i64 0) (by rw [hc4];rfl)
  refine ⟨_,aDP rfl rfl (cell_kept hq (grownBy_putObj' _ D _) (fun r e=>by cases e;exact ⟨_,hK',rfl⟩)),?_,?_⟩
  ·rw [aDW zs.length (Nat.le_refl _) hE,Nat.sub_self];rfl
  ·exact (hB.setCell (p:=⟨w.heap.size+1,0,none⟩) (by simp) _).trans (belowK_b (w:=w) (Nat.le_refl _) _ D _ _ (by omega) hK' rfl rfl)
 case stop=>
  rintro D c pre W hD ⟨k,hk,rfl⟩ ⟨⟨rfl,pre0,x,hp,hE,hne,hc4⟩,hB⟩ hK
  gi_wp2
  have hD':w.heap.size+1+1+1≤D:=by simpa using hD
  refine ⟨by simp, .inl ⟨_,_,rfl,run_takeDeferred hK,?_⟩⟩
  refine ⟨_,aDP rfl rfl (cell_kept hc4 (grownBy_putObj' _ D _) (fun r e=>by cases e;exact ⟨_,hK,rfl⟩)),?_,?_⟩
  ·rw [aRA k hk hp hE hne]
  ·exact hB.trans (belowK_b (w:=w) (Nat.le_refl _) W D _ _ (by omega) hK rfl rfl)
end Go.Proofs.YtgpkjcmipiodcaaGreat
namespace Go.Proofs.YtgpkjcmipiodcaaGreat
open Go Go.Fx Go.RowKit Go.Shelf
attribute [local go_sem] Oper.semAt_some
theorem aJF:∀{zs ys:List Int} (k:Nat),Dig zs→Dig ys→aEL zs ys k=fP (val (zs.take k)) (val (ys.take k))
 |_,_,0,_,_=>by simp [aEL,fP,val]
 |zs,ys,k+1,hz,hy=>by
  have h1:=iK hz k
  have h2:=iK hy k
  have h3:=bQ (hz.take k)
  have h4:=bQ (hy.take k)
  have hp:=jD k
  rw [aEL,bR,bR,aJF k hz hy]
  have ez:zs[k]?.getD 0=zs.getD k 0:=by simp
  have ey:ys[k]?.getD 0=ys.getD k 0:=by simp
  rw [ez,ey]
  generalize val (zs.take k)=A at*
  generalize val (ys.take k)=C at*
  generalize zs.getD k 0=x at*
  generalize ys.getD k 0=y at*
  generalize (1000000000:Int) ^ k=B at*
  have key:∀x y A C:Int,x < y→0≤A→A < B→0≤C→A+B*x < C+B*y:=fun x y A C h _ _ _=>by
   have:B*(x+1)≤B*y:=Int.mul_le_mul_of_nonneg_left (by omega) (by omega)
   rw [Int.mul_add] at this
   omega
  split
  ·rename_i e
   subst e
   unfold fP
   simp only [Int.add_lt_add_iff_right]
  ·rename_i e
   rcases Int.lt_or_gt_of_ne e with h|h
   ·have:=key x y A C h h3 h1 h4
    unfold fP
    rw [if_pos h,if_pos this]
   ·have:=key y x C A h h4 h2 h3
    unfold fP
    rw [if_neg (by omega),if_pos h,if_neg (by omega),if_pos this]
theorem uZ {s g:Int} (hs:0≤s∧s < 1000000000) (hg:0≤g∧g < 1000000000):wdS s g=s*1000000000+g:=by
 unfold wdS
 rw [wrap_u64 (n:=s*1000000000) (by omega),wrap_u64 (n:=g) (by omega),wrap_u64 (by omega)]
section
variable {X:List Nat} {w0:World} {M0:List Ent} {I0:List aV}
theorem uQ {p q:Option Addr} {m n cp cq:Nat} (hm:(gr m).length≤100000000000) (hn:(gr n).length≤100000000000) (hp:aI p (recs eG (gr m))∈I0) (hq:aI q (recs eG (gr n))∈I0):
  CD Tryz.prog 149 [.slice p (gr m).length cp, .slice q (gr n).length cq] X w0 M0 I0 (fun v M I=>M0=M∧I0=I∧v= .int .i64 (fP m n)):=by
 by_cases hl:(gr n).length=(gr m).length
 ·rw [hl]
  refine CD.ext (fun w hw=>Calls.mono (callsIn_wide.1 (aMC p q cp cq (gr m) (gr n) w (by omega) hl ((hw.sl hp).less (by simp)) ((hw.sl hq).less (by simp)))) ?_)
  rintro e w' ⟨rfl,hB⟩
  refine ⟨_,rfl,Ext.of_below hB,?_⟩
  have e:=aJF (gr m).length (bK m) (bK n)
  rw [List.take_length,←hl,List.take_length,bT,bT] at e
  rw [hl] at e
  rw [e]
 ·have hc:fP ((gr m).length:Int) ((gr n).length:Int)=fP m n:=by
   have h1:∀a b:Nat,(gr a).length < (gr b).length→(a:Int) < b:=fun a b h=>by
    have:=aGP (wT a) (wT b) h
    rwa [bT,bT] at this
   rcases Nat.lt_or_gt_of_ne hl with h|h
   ·have:=h1 n m h
    unfold fP
    rw [if_neg (by omega),if_pos (by omega),if_neg (by omega),if_pos (by omega)]
   ·have:=h1 m n h
    unfold fP
    rw [if_pos (by omega),if_pos (by omega)]
  refine eD Tryz.func149 rfl Tryz.ntmps149 rfl ?_
  refine fE ?_
  refine tyX rfl (fun b=>?_)
  refine bG (fun s=>?_)
  repeat refine lY ?_
  (refine aU rfl (CD.same (fun w _=>aSI _ _ _)) ?_;rintro _ _ _ ⟨rfl,rfl,rfl⟩;refine aL ?_)
  rw [hc]
  repeat refine lY ?_
  exact aYQ (.inl rfl) rfl rfl aY _ _ bX bV ⟨rfl,rfl,rfl⟩
theorem aCC {q:Option Addr} {n c:Nat} (hn:(gr n).length≤100000000000) (hq:aI q (recs eG (gr n))∈I0):
  CD Tryz.prog 175 [.slice q (gr n).length c] X w0 M0 I0 (fun v M I=>M0=M∧I0=I∧v= .tuple #[.int .u64 (if (gr n).length≤2 then (n:Int) else 0), .bool (B ((gr n).length≤2))]):=by
 by_cases hl:(gr n).length≤2
 ·refine CD.ext (fun w hw=>Calls.mono (callsIn_wide.1 (aXH q c (gr n) w hl ((hw.sl hq).less (by simp)) (aGF ((hw.sl hq).less (by simp))))) ?_)
  rintro e w' ⟨rfl,hB⟩
  refine ⟨_,rfl,Ext.of_below hB,?_⟩
  rw [if_pos hl,cB hl]
  have hd:=bK n
  have hv:=bT n
  congr 4
  revert hl hd hv
  generalize gr n=zs
  intro hl hd hv
  rw [←hv]
  match zs,hl,hd with
  |[],_,_=>simp [sV,wdF,val]
  |[x],_,hd=>
   have:=hd x (by simp)
   have e:wdF [x] (sV [x] [x].length)=wdS 0 x:=rfl
   rw [e,uZ (by omega) this]
   simp [val]
  |[x,y],_,hd=>
   have h1:=hd x (by simp)
   have h2:=hd y (by simp)
   have e:wdF [x,y] (sV [x,y] [x,y].length)=wdS (wdS 0 y) x:=rfl
   rw [e,uZ (by omega) h2,uZ (by omega) h1]
   simp only [val]
   omega
 ·refine eD Tryz.func175 rfl Tryz.ntmps175 rfl ?_
  repeat refine lY ?_
  refine pI [2,3] (by first|exact .inl rfl|exact .inr rfl) rfl rfl rfl _ _ bX bV (⟨rfl,rfl,by rw [if_neg hl,bF hl]⟩)
end
end Go.Proofs.YtgpkjcmipiodcaaGreat
namespace Go.Proofs.YtgpkjcmipiodcaaGreat
open Go Go.Fx Go.RowKit Go.Shelf
attribute [local go_sem] Oper.semAt_some
theorem zJ {W:World} {B:Nat} {u v:Value} {t:TypeId} (h:W.heap[B]?=some (.cells #[u,v] t (0,0))):W.cell? ⟨B,0,none⟩=some u∧W.cell? ⟨B,1,none⟩=some v:=by
 constructor <;>simp [World.cell?,h]
theorem aIR {n m:Nat} {A B:World} (h:Below n A B) (hm:m≤n):Below m A B:=⟨h.os,h.tape,h.output,h.size,fun k hk=>h.block k (by omega)⟩
theorem aDA {w:World} {o:Obj} {k:Nat} (h:k < w.heap.size):(w.alloc o).heap[k]?=w.heap[k]?:=((Below.refl w.heap.size w).alloc (Nat.le_refl _) o).block k h
theorem aUF (w:World) (A B C:Obj):(((w.alloc A).alloc B).alloc C).heap[w.heap.size]?=some A∧(((w.alloc A).alloc B).alloc C).heap[w.heap.size+1]?=some B∧(((w.alloc A).alloc B).alloc C).heap[w.heap.size+1+1]?=some C:=by
 have e1:=World.alloc_heap_new w A
 have e2:=World.alloc_heap_new (w.alloc A) B
 have e3:=World.alloc_heap_new ((w.alloc A).alloc B) C
 simp only [World.size_alloc] at e2 e3
 refine ⟨?_,?_,e3⟩
 ·rw [aDA (by simp only [World.size_alloc];omega),aDA (by simp only [World.size_alloc];omega)];exact e1
 ·rw [aDA (by simp only [World.size_alloc];omega)];exact e2
theorem lH {P:Program} {fn:Func} {a b:Tmp} {t s:TypeId} {tmps:Array Value} {w:World} {p q:Nat} {u v:Value} [ht:ScalarTy P t] [hs:ScalarTy P s] (h:fn.results=#[.cell a t, .cell b s]) (hp:tmps.getD a undef= .pointer (some ⟨p,0,none⟩)) (hq:tmps.getD b undef= .pointer (some ⟨q,0,none⟩)) (hc:w.cell? ⟨p,0,none⟩=some u) (hd:w.cell? ⟨q,0,none⟩=some v):
  (results fn tmps).run P w= .ok (.tuple #[u,v]) w:=by
 have hp':tmps[a]?.getD undef= .pointer (some ⟨p,0,none⟩):=by simpa using hp
 have hq':tmps[b]?.getD undef= .pointer (some ⟨q,0,none⟩):=by simpa using hq
 simp [results,h,hp',hq',asAddr,loadVar,kZ,hc,hd]
theorem oJ {w W:World} {p q D:Nat} {o u v:Value} {o':Obj} (hB:Below w.heap.size w W) (hp:w.heap.size≤p) (hq:w.heap.size≤q) (hpq:p≠q) (hD:p < D∧q < D) (cp:W.cell? ⟨p,0,none⟩=some o) (cq:∃o2,W.cell? ⟨q,0,none⟩=some o2) (hK:W.heap[D]?=some (.deferred (some []))):
  ((W.setCell ⟨p,0,none⟩ u).setCell ⟨q,0,none⟩ v).heap[D]?=some (.deferred (some []))∧
  (((W.setCell ⟨p,0,none⟩ u).setCell ⟨q,0,none⟩ v).putObj D o').cell? ⟨p,0,none⟩=some u∧
  (((W.setCell ⟨p,0,none⟩ u).setCell ⟨q,0,none⟩ v).putObj D o').cell? ⟨q,0,none⟩=some v∧
  Below w.heap.size w (((W.setCell ⟨p,0,none⟩ u).setCell ⟨q,0,none⟩ v).putObj D o'):=by
 have hK1:(W.setCell ⟨p,0,none⟩ u).heap[D]?=some (.deferred (some [])):=(Below.heap_setCell W _ _ D (by simp;omega)).trans hK
 have hK2:((W.setCell ⟨p,0,none⟩ u).setCell ⟨q,0,none⟩ v).heap[D]?=some (.deferred (some [])):=(Below.heap_setCell _ _ _ D (by simp;omega)).trans hK1
 obtain ⟨o2,cq⟩:=cq
 have e1:((W.setCell ⟨p,0,none⟩ u).setCell ⟨q,0,none⟩ v).cell? ⟨p,0,none⟩=some u:=(World.cell?_setCell_other _ _ _ _ (by simp <;>omega)).trans (World.cell?_setCell_same' _ _ _ (by rw [cp];rfl))
 have e2:((W.setCell ⟨p,0,none⟩ u).setCell ⟨q,0,none⟩ v).cell? ⟨q,0,none⟩=some v:=World.cell?_setCell_same' _ _ _ (by rw [World.cell?_setCell_other _ _ _ _ (by simp <;>omega),cq];rfl)
 refine ⟨hK2,cell_kept e1 (grownBy_putObj' _ D _) (fun r e=>by cases e;exact ⟨_,hK2,rfl⟩),cell_kept e2 (grownBy_putObj' _ D _) (fun r e=>by cases e;exact ⟨_,hK2,rfl⟩),?_⟩
 exact ((hB.setCell (p:=⟨p,0,none⟩) hp _).setCell (p:=⟨q,0,none⟩) hq _).trans (belowK_b (w:=w) (Nat.le_refl _) _ D _ _ (by omega) hK2 rfl rfl)
theorem aTS (a:Option Addr) (cap:Nat) (ng:Bool) (zs:List Int) (z:Int) (w:World) (hz:zs.length≤2) (hI:Sl [] w a (recs eG zs)) (hlt:0 < zs.length→∀b,a.map (·.block)=some b→b < w.heap.size)
  (hN:∀(x:Dg zs) (pre:List (Dg zs)),pre.length < zs.length→¬(IntKind.u64.wrap ((IntKind.u64.wrap (9223372036854775808 - IntKind.u64.wrap (zs[x.1]?.getD 0))).tdiv 1000000000) < wdF zs pre))
  (hV1:ng=true→0 < zs.length→wrap64 (IntKind.u64.wrap (-(wdF zs (sV zs zs.length))))=z) (hV2:(0 < zs.length→ng=false)→wrap64 (wdF zs (sV zs zs.length))=z) (hV3:(wdF zs (sV zs zs.length)==9223372036854775808)=false)
  (hG:∀W,Below w.heap.size w W→CallsIn Fence.wide 4 Tryz.prog 129 #[.agg #[.bool ng, .slice a zs.length cap]] W (fun e W'=>e= .returned (.slice a zs.length cap)∧Below W.heap.size W W')):
  CallsIn Fence.wide 5 Tryz.prog 75 #[.agg #[.bool ng, .slice a zs.length cap]] w fun e w'=>e= .returned (.tuple #[.int .i64 z, .bool true])∧Below w.heap.size w w':=by
 refine callsIn_of_wp_marks Tryz.func75 rfl trivial ?_ rfl
 simp only [Tryz.ntmps75,List.size_toArray,List.length_cons,List.length_nil,Nat.reduceAdd,Nat.reduceSub,Array.replicate_succ,Array.replicate_zero,List.push_toArray,List.append_toArray,List.nil_append,List.cons_append]
 have hz':¬(3 < (zs.length:Int)):=by omega
 gi_wp2_with (refine ⟨trivial,?_⟩;first|(gi_at_call 129;refine (hG _ ((((Below.refl _ w).alloc (Nat.le_refl _) _).alloc (by simp) _).alloc (by simp;omega) _)).mono ?_;rintro e w1 ⟨rfl,hB1⟩)|(gi_at_call 131;refine (xL Fence.wide _ trivial rfl _ _ _ _).mono ?_;rintro e w2 ⟨rfl,rfl⟩))
 simp only [World.size_alloc] at hB1
 have hS1:w.heap.size+1+1+1≤w1.heap.size:=by have:=hB1.size;simpa using this
 obtain ⟨o0,o1,o2⟩:=aUF w (.cells #[.bool ng, .slice a zs.length cap] 38) (.cells #[.int .i64 0] 3) (.cells #[.bool false] 4)
 have c0:=zJ ((hB1.block _ (by omega)).trans o0)
 have c1:=nN ((hB1.block _ (by omega)).trans o1)
 have c2:=nN ((hB1.block _ (by omega)).trans o2)
 have hs:=jT w1 (.int .u64 0) 172
 have hb:=jT (w1.alloc (.cells #[.int .u64 0] 172)) (.slice a zs.length cap) 36
 rw [World.size_alloc] at hb
 have hB0:Below w.heap.size w w1:=((((Below.refl _ w).alloc (Nat.le_refl _) _).alloc (by simp) _).alloc (by simp;omega) _).trans (aIR hB1 (by omega))
 have hBl:Below w.heap.size w ((w1.alloc (.cells #[.int .u64 0] 172)).alloc (.cells #[.slice a zs.length cap] 36)):=(hB0.alloc (by omega) _).alloc (by simp;omega) _
 have hI2:=Sl.mono hI (Ext.of_below hBl)
 refine wpIn_rangeFunc_ownG rfl (by decide) (gf:=172) (lb:=#[.pointer (some ⟨w1.heap.size+1,0,none⟩)]) rfl trivial (enters_of Tryz.func172 (by kernel_rfl) rfl)
  (wP Fence.wide (5 - 1) trivial rfl (by decide) (w1.heap.size+1) w.heap.size a cap zs (by omega) _ (by simp) (by simp;omega) hb.1 hI2 hlt) KpB.trans (aKM (by simp;omega)) (Below.refl _ _) (fun _=>rfl)
  (fun pre W=>(((W.cell? ⟨w1.heap.size,0,none⟩=some (.int .u64 (wdF zs pre))∧W.frozen? ⟨w1.heap.size,0,none⟩=false)∧(W.cell? ⟨w.heap.size+1,0,none⟩=some (.int .i64 0)∧W.frozen? ⟨w.heap.size+1,0,none⟩=false))∧((W.cell? ⟨w.heap.size+1+1,0,none⟩=some (.bool false)∧W.frozen? ⟨w.heap.size+1+1,0,none⟩=false)∧W.cell? ⟨w.heap.size,0,none⟩=some (.bool ng)))∧Below w.heap.size w W)
  (fun _ _ _=>False)
  ?hI (fun _ _ _ _ _ hs _ _=>hs) ?h0 ?a1 ?assign ?body ?done ?stop
 case hI=>exact OwnFrom.and (Own.from (fun s A B row hs hg hr=>⟨⟨⟨cell_kept hs.1.1.1 hg hr,(frozen_kept hs.1.1.1 hg hr).trans hs.1.1.2⟩,cell_kept hs.1.2.1 hg hr,(frozen_kept hs.1.2.1 hg hr).trans hs.1.2.2⟩,⟨cell_kept hs.2.1.1 hg hr,(frozen_kept hs.2.1.1 hg hr).trans hs.2.1.2⟩,cell_kept hs.2.2 hg hr⟩) _) (ownFrom_below (Nat.le_refl _) (by simp;omega))
 case h0=>exact ⟨⟨⟨⟨bN _ hs.1,dL _ hs.1 hs.2⟩,bN _ (bN _ c1.1),dL _ (bN _ c1.1) (dL _ c1.1 c1.2)⟩,⟨bN _ (bN _ c2.1),dL _ (bN _ c2.1) (dL _ c2.1 c2.2)⟩,bN _ (bN _ c0.1)⟩,hBl⟩
 case assign=>
  intro l x W K hK
  dsimp only [dgE]
  gi_wp2
  exact hK
 case body=>
  rintro l pre x W ⟨⟨⟨⟨hc,hf⟩,hc1,hf1⟩,⟨hc2,hf2⟩,hc0⟩,hB⟩ hpl
  have hn:=hN x pre hpl
  gi_wp2
  ·refine ⟨(KeepsOthers.setCell _ _ _).from _,⟨(Below.refl w.heap.size W).setCell (p:=⟨w1.heap.size,0,none⟩) (by simp;omega) _,fun v hv=>(World.cell?_setCell_other _ _ _ _ (by simp)).trans hv⟩,⟨⟨⟨?_,by rw [World.frozen?_setCell];exact hf⟩,(World.cell?_setCell_other _ _ _ _ (by simp <;>omega)).trans hc1,by rw [World.frozen?_setCell];exact hf1⟩,⟨(World.cell?_setCell_other _ _ _ _ (by simp <;>omega)).trans hc2,by rw [World.frozen?_setCell];exact hf2⟩,(World.cell?_setCell_other _ _ _ _ (by simp <;>omega)).trans hc0⟩,hB.setCell (p:=⟨w1.heap.size,0,none⟩) (by simp;omega) _⟩
   rw [zK]
   exact World.cell?_setCell_same' _ _ _ (by rw [hc];rfl)
 case done=>
  rintro D ys W hD rfl ⟨⟨⟨⟨hc,hf⟩,hc1,hf1⟩,⟨hc2,hf2⟩,hc0⟩,hB⟩ hK
  have hD':w1.heap.size+1+1≤D:=by simpa using hD
  gi_wp2
  ·rename_i h0 h1
   rw [←hV1 h1 h0]
   obtain ⟨g1,g2,g3,g4⟩:=oJ hB (by omega) (by omega) (by omega) (by omega) hc1 ⟨_,hc2⟩ hK
   exact ⟨by simp, .inl ⟨_,_,rfl,run_takeDeferred g1,_,lH rfl rfl rfl g2 g3,rfl,g4⟩⟩
  ·rename_i h0 h1
   rw [←hV2 (fun _=>h1)]
   obtain ⟨g1,g2,g3,g4⟩:=oJ hB (by omega) (by omega) (by omega) (by omega) hc1 ⟨_,hc2⟩ hK
   exact ⟨by simp, .inl ⟨_,_,rfl,run_takeDeferred g1,_,lH rfl rfl rfl g2 g3,rfl,g4⟩⟩
  ·rename_i h0
   rw [←hV2 (fun h=>absurd h h0)]
   obtain ⟨g1,g2,g3,g4⟩:=oJ hB (by omega) (by omega) (by omega) (by omega) hc1 ⟨_,hc2⟩ hK
   exact ⟨by simp, .inl ⟨_,_,rfl,run_takeDeferred g1,_,lH rfl rfl rfl g2 g3,rfl,g4⟩⟩
 case stop=>
  rintro D c pre W _ _ h _
  exact h.elim
end Go.Proofs.YtgpkjcmipiodcaaGreat
namespace Go.Fx
open Go.ChangeShapes Go.WideShapes Go.RowKit Go.ChangeAt
section
variable {H:Type} {enc:TypeId × Value→H} {P:Program} {W:World}
theorem aKC {sz:Nat}:∀(rows:List (List Value)) (k:Nat) (v:Value),(∀r∈rows,r.length=sz)→rows.flatten[k]?=some v→∃i row,rows[i]?=some row∧i*sz≤k∧row[k - i*sz]?=some v
 |[],k,v,_,h=>by simp at h
 |r::rows,k,v,hr,h=>by
  rw [List.flatten_cons] at h
  have hl:=hr r (by simp)
  by_cases hk:k < r.length
  ·rw [List.getElem?_append_left hk] at h
   exact ⟨0,r,by simp,by omega,by simpa using h⟩
  ·rw [List.getElem?_append_right (by omega)] at h
   obtain ⟨i,row,h1,h2,h3⟩:=aKC rows _ v (fun r' hr'=>hr r' (by simp [hr'])) h
   refine ⟨i+1,row,by simpa using h1,by rw [Nat.add_mul];omega,?_⟩
   rw [←h3]
   congr 1
   rw [Nat.add_mul];omega
theorem qI {t:TypeId} {k:IntKind} {n:Nat} {cs:List Value} {y:DataW H × List MemPlace} (ht:P.underlying t=some (.int k)) (h:DataW.trod enc P W 0 (fun _=>true) true n t cs=some y):∃x:Int,cs=[.int k x]∧(Lit.int k x).wf=true:=by
 obtain ⟨m,h1,_,h2⟩:=DataW.trod_int ht h
 exact ⟨m,h1,h2⟩
theorem aDH {t:TypeId} {k:IntKind} {m n:Nat} {cs:List Value} {y:DataW H × List MemPlace} {fs:Array Field} (ht:P.underlying t=some (.struct fs)) (hf:fs.toList.map (fun (f:Field)=>(f.offset,P.cellsOf f.type))=(List.range m).map (fun i=>(i,1))) (hk:∀f∈fs.toList,P.underlying f.type=some (.int k)) (hl:cs.length=m)
  (h:DataW.trod enc P W 0 (fun _=>true) true n t cs=some y):∃xs:List Int,cs=xs.map (Value.int k)∧xs.length=m∧∀x∈xs,(Lit.int k x).wf=true:=by
 obtain ⟨zs,n',rfl,_,_,hzl,hz⟩:=DataW.trod_struct ht h
 have each:∀i,i < m→∃x:Int,cs[i]?=some (.int k x)∧(Lit.int k x).wf=true:=fun i hi=>by
  have hsz:fs.toList.length=m:=by have:=congrArg List.length hf;simpa using this
  obtain ⟨f,hfi⟩:∃f,fs.toList[i]?=some f:=⟨_,List.getElem?_eq_getElem (by omega)⟩
  have hoff:(f.offset,P.cellsOf f.type)=(i,1):=by
   have:(fs.toList.map (fun f=>(f.offset,P.cellsOf f.type)))[i]?=some (f.offset,P.cellsOf f.type):=by rw [List.getElem?_map,hfi];rfl
   rw [hf,List.getElem?_map,List.getElem?_range hi] at this
   simpa using this.symm
  injection hoff with ho hc
  have hf2:fs[i]?=some f:=by simpa using hfi
  have:=hz i f hf2
  rw [List.getElem?_eq_getElem (by rw [hzl];exact (Array.getElem?_eq_some_iff.1 hf2).1),ho,hc] at this
  obtain ⟨x,hx,hw⟩:=qI (hk f (List.mem_of_getElem? hfi)) this
  refine ⟨x,?_,hw⟩
  have:((cs.drop i).take 1)[0]?=some (.int k x):=by rw [hx];rfl
  rw [List.getElem?_take,if_pos (by omega),List.getElem?_drop] at this
  simpa using this
 refine ⟨cs.map (fun v=>match v with| .int _ x=>x|_=>0),?_,by simpa using hl,?_⟩
 ·apply List.ext_getElem
  ·simp
  ·intro i h1 h2
   obtain ⟨x,hx,_⟩:=each i (by omega)
   have:cs[i]= .int k x:=by
    have:=(List.getElem?_eq_some_iff.1 hx).2
    exact this
   simp [this]
 ·intro x hx
  obtain ⟨v,hv,rfl⟩:=List.mem_map.1 hx
  obtain ⟨i,hi,rfl⟩:=List.mem_iff_getElem.1 hv
  obtain ⟨y,hy,hw⟩:=each i (by omega)
  have:cs[i]= .int k y:=(List.getElem?_eq_some_iff.1 hy).2
  rw [this]
  exact hw
theorem Mem.startS {W:World} {I:List aV} {a:Option Addr} {cs:List Value} (h:Mem [] W [] I W) (hs:Sl [] W a cs):Mem [] W [] (aI a cs::I) W:=h.add (φ:=aI a cs) ⟨hs⟩
end
end Go.Fx
namespace Go.Proofs.YtgpkjcmipiodcaaGreat
open Go Go.Fx Go.RowKit Go.Shelf
theorem bAS {n:Nat} (hl:(gr n).length≤2):wdF (gr n) (sV (gr n) (gr n).length)=n:=by
 have hd:=bK n
 have hv:=bT n
 revert hl hd hv
 generalize gr n=zs
 intro hl hd hv
 rw [←hv]
 match zs,hl,hd with
 |[],_,_=>simp [sV,wdF,val]
 |[x],_,hd=>
  have:=hd x (by simp)
  have e:wdF [x] (sV [x] [x].length)=wdS 0 x:=rfl
  rw [e,uZ (by omega) this]
  simp [val]
 |[x,y],_,hd=>
  have h1:=hd x (by simp)
  have h2:=hd y (by simp)
  have e:wdF [x,y] (sV [x,y] [x,y].length)=wdS (wdS 0 y) x:=rfl
  rw [e,uZ (by omega) h2,uZ (by omega) h1]
  simp only [val]
  omega
theorem aVM {zs:List Int} (hd:Dig zs) {pre:List (Dg zs)} (h:pre.length≤1):0≤wdF zs pre∧wdF zs pre < 1000000000:=by
 match pre,h with
 |[],_=>exact ⟨by simp [wdF],by simp [wdF]⟩
 |[x],_=>
  have h1:=hd (zs[x.1]?.getD 0) (by rw [List.getElem?_eq_getElem x.2];exact List.getElem_mem x.2)
  have e:wdF zs [x]=wdS 0 (zs[x.1]?.getD 0):=rfl
  rw [e,uZ (by omega) h1];omega
 |_::_::_,h=>simp at h
theorem bAR {zs:List Int} (hd:Dig zs) (hl:zs.length≤2) (x:Dg zs) (pre:List (Dg zs)) (h:pre.length < zs.length):¬(IntKind.u64.wrap ((IntKind.u64.wrap (9223372036854775808 - IntKind.u64.wrap (zs[x.1]?.getD 0))).tdiv 1000000000) < wdF zs pre):=by
 have h1:=hd (zs[x.1]?.getD 0) (by rw [List.getElem?_eq_getElem x.2];exact List.getElem_mem x.2)
 have h2:=aVM hd (pre:=pre) (by omega)
 generalize wdF zs pre=s at*
 generalize zs[x.1]?.getD 0=d at*
 rw [wrap_u64 (n:=d) (by omega),wrap_u64 (n:=9223372036854775808 - d) (by omega),Int.tdiv_eq_ediv_of_nonneg (by omega),wrap_u64 (by omega)]
 omega
section
variable {X:List Nat} {w0:World} {M0:List Ent} {I0:List aV}
theorem aIQ {u:Value} {z:Int} {k:Nat} (hz:z.natAbs < 1000000000000000000) (hk:k≤1000000000000) (hu:iB u z k∈I0):CD Tryz.prog 75 [u] X w0 M0 I0 (fun v M I=>M0=M∧I0=I∧v= .tuple #[.int .i64 z, .bool true]):=by
 refine ⟨fun w hw=>?_⟩
 obtain ⟨q,c,rfl,hc,h3,h4⟩:=((hw.imm _ hu).2).ex
 have hl:(gr z.natAbs).length≤2:=lQ (by omega)
 have hs:Sl [] w q (recs eG (gr z.natAbs)):=h4.less (by simp)
 have hv:=bAS hl
 have h0:¬0 < (gr z.natAbs).length→z=0:=fun h=>by
  have:=(nD (n:=z.natAbs)).1 (List.length_eq_zero_iff.1 (by omega));omega
 refine Calls.mono (callsIn_wide.1 (aTS q c (B (z < 0)) (gr z.natAbs) z w hl hs (aGF hs) (fun x pre h=>bAR (bK _) hl x pre h) ?_ ?_ ?_ ?_)) ?_
 ·intro hn _
  rw [hv]
  have:z < 0:=by by_cases h:z < 0;exact h;rw [bF h] at hn;exact absurd hn (by decide)
  simp only [IntKind.wrap,IntKind.bits,IntKind.signed,Bool.false_and,Bool.false_eq_true,if_false,wrap64]
  omega
 ·intro hn
  rw [hv]
  have:0≤z:=by
   by_cases h:0 < (gr z.natAbs).length
   ·by_cases h':z < 0
    ·have:=hn h;rw [cB h'] at this;exact absurd this (by decide)
    ·omega
   ·have:=h0 h;omega
  simp only [wrap64]
  omega
 ·rw [hv];simp;omega
 ·intro W hB
  have hm:=(Mem.start W).startS (Sl.mono hs (Ext.of_below hB))
  refine callsIn_wide.2 (Calls.mono ((iF (X:=[]) (w0:=W) (M0:=[]) (q:=q) (c:=c) h3 hk List.mem_cons_self).go W hm) ?_)
  rintro e W' ⟨v,rfl,M',I',⟨rfl,rfl,rfl⟩,hw'⟩
  exact ⟨rfl,hw'.ext.below⟩
 ·rintro e w' ⟨rfl,hB⟩
  exact ⟨_,rfl,M0,I0,⟨rfl,rfl,rfl⟩,hw.call (Ext.of_below hB)⟩
end
end Go.Proofs.YtgpkjcmipiodcaaGreat
