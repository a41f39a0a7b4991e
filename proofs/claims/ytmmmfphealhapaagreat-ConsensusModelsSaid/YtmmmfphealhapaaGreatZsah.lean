/- slices.Backward at slices of uint32: its contract, and the functions that range over it. -/
import Derived.RangeFuncNested
import Derived.RangeFuncBound
import Derived.RangeFuncCalls
import Derived.RangeFuncLeaves
import Derived.Shelf.Abstract
import Derived.WalkKit
import Derived.OwnWalkIn
import Derived.TacticsInMore
import Derived.LoopNIn
import Derived.LoopIn
import Derived.Test.YtmmmfphealhapaaGreatZsag
import Derived.OrdersIn
import Derived.RangeFuncWrites
import Derived.Below
import Derived.Test.YtmmmfphealhapaaGreatZsaf
set_option linter.unusedSimpArgs false
set_option linter.unusedVariables false
set_option maxRecDepth 100000
set_option maxHeartbeats 4000000
namespace Go.Proofs.YtmmmfphealhapaaGreat
open Go Go.Fx Go.RowKit Go.Shelf
attribute [local go_sem] Oper.semAt_some
abbrev Dg (zs:List Int):={j:Nat // j < zs.length}
def xO (zs:List Int):Nat→List (Dg zs)
 |0=>[]
 |k+1=>xO zs k++(if h:zs.length - 1 - k < zs.length then [⟨zs.length - 1 - k,h⟩] else [])
theorem uR {zs:List Int} {k:Nat} (h:k < zs.length):xO zs (k+1)=xO zs k++[⟨zs.length - 1 - k,by omega⟩]:=by rw [xO,dif_pos (by omega)]
theorem aEB {zs:List Int}:∀{k:Nat},k≤zs.length→(xO zs k).length=k
 |0,_=>rfl
 |k+1,h=>by rw [uR (by omega),List.length_append,aEB (by omega)];rfl
def dgE (zs:List Int) (x:Dg zs):Array Value:=#[.int .i64 (x.1:Int), .int .u32 (zs[x.1]?.getD 0)]
structure KpB (n₀ Bs:Nat) (A B:World):Prop where
 below:Below n₀ A B
 box:∀v,A.cell? ⟨Bs,0,none⟩=some v→B.cell? ⟨Bs,0,none⟩=some v
theorem KpB.refl (n₀ Bs:Nat) (A:World):KpB n₀ Bs A A:=⟨Below.refl _ _,fun _ h=>h⟩
theorem KpB.trans {n₀ Bs:Nat} {A B C:World} (h:KpB n₀ Bs A B) (k:KpB n₀ Bs B C):KpB n₀ Bs A C:=⟨h.below.trans k.below,fun v hv=>k.box v (h.box v hv)⟩
theorem aTQ {n₀ Bs:Nat} {w:World} (hn:n₀≤w.heap.size) (W:World) (l:Nat) (o o':Obj) (hl:w.heap.size≤l) (h:W.heap[l]?=some o) (hc:o.isCells=false) (hw:o.isWalk=false):KpB n₀ Bs W (W.putObj l o'):=
 ⟨belowK_b hn W l o o' hl h hc hw,fun _ hv=>cell_kept hv (grownBy_putObj' W l o') (fun r e=>by cases e;exact ⟨o,h,hc⟩)⟩
theorem aFX {W:World} {B:Nat} {v:Value} {t:TypeId} (h:W.heap[B]?=some (.cells #[v] t (0,0))):W.cell? ⟨B,0,none⟩=some v∧W.frozen? ⟨B,0,none⟩=false:=by
 constructor <;>simp [World.cell?,World.frozen?,h]
theorem pE (W:World) (v:Value) (t:TypeId):(W.alloc (.cells #[v] t)).cell? ⟨W.heap.size,0,none⟩=some v∧(W.alloc (.cells #[v] t)).frozen? ⟨W.heap.size,0,none⟩=false:=
 aFX (World.alloc_heap_new W _)
theorem oP {W:World} {a:Addr} {v:Value} (o:Obj) (h:W.cell? a=some v):(W.alloc o).cell? a=some v:=cell_kept h (World.grownBy_alloc W o none) (fun r e=>by cases e)
theorem oG {W:World} {a:Addr} {v:Value} (o:Obj) (h:W.cell? a=some v) (hf:W.frozen? a=false):(W.alloc o).frozen? a=false:=(frozen_kept h (World.grownBy_alloc W o none) (fun r e=>by cases e)).trans hf
theorem Ext.of_below {w w':World} (h:Below w.heap.size w w'):Ext [] w w':=⟨h.os,h.tape,h.output,h.size,fun k hk _=>h.block k hk⟩
theorem aYE (F:Fence) (n:Nat) (h:F.fn 279) (hro:F.round=none) (hn:1≤n) (l Bs n₀ b off cap:Nat) (zs:List Int) (hreach:zs.length*4≤140737488351232) (hb:b < n₀) (J Jx:List (Dg zs)→World→Prop)
  (hY:∀pre x W,J pre W→pre.length < zs.length→YieldAt F (n - 1) Tryz.prog l (dgE zs x) W fun e W'=>
   (e= .returned (.bool true)∧J (pre++[x]) W'∧KpB n₀ Bs W W')∨(e= .returned (.bool false)∧Jx (pre++[x]) W'))
  (W:World) (hBs:W.cell? ⟨Bs,0,none⟩=some (.slice (some ⟨b,off,none⟩) zs.length cap)) (hc:∀j,j < zs.length→W.cell? ⟨b,off+j,none⟩=some (.int .u32 (zs[j]?.getD 0))) (h0:J [] W):
  CallsIn F n Tryz.prog 279 #[.func (.yield l) #[] #[], .pointer (some ⟨Bs,0,none⟩)] W fun e W'=>(∃v,e= .returned v)∧
   ((∃ys,ys=xO zs zs.length∧J ys W')∨(∃pre,(∃k,k≤zs.length∧pre=xO zs k)∧Jx pre W')):=by
 refine callsIn_of_wp Tryz.func279 rfl h ?_ hro
 simp only [Tryz.ntmps279,List.size_toArray,List.length_cons,List.length_nil,Nat.reduceAdd,Nat.reduceSub,Array.replicate_succ,Array.replicate_zero,List.push_toArray,List.append_toArray,List.nil_append,List.cons_append]
 gi_wp2
 gi_loopw [3] (fun i wr=>∃k:Nat,k≤zs.length∧i= .int .i64 ((zs.length:Int) - 1 - k)∧J (xO zs k) wr∧KpB n₀ Bs W wr)
  (fun i _=>(intOf i+1).toNat)
 case atStart=>exact ⟨0,Nat.zero_le _,by simp,h0,KpB.refl _ _ _⟩
 case round=>
  obtain ⟨k,hk,rfl,hJs,hnx⟩:=hrel
  have hBs':wr.cell? ⟨Bs,0,none⟩=some (.slice (some ⟨b,off,none⟩) zs.length cap):=hnx.box _ hBs
  have hcx:k < zs.length→wr.cell? ⟨b,off+(zs.length - 1 - k),none⟩=some (.int .u32 (zs[zs.length - 1 - k]?.getD 0)):=fun h=>(hnx.below.cell (p:=⟨b,off+(zs.length - 1 - k),none⟩) hb).trans (hc _ (by omega))
  by_cases hlt:k < zs.length
  ·obtain ⟨fn,tmps,assign,body,hy,hR⟩:=hY _ ⟨zs.length - 1 - k,by omega⟩ wr hJs (by rw [aEB hk];exact hlt)
   dsimp only [dgE] at hy
   have hcx':=hcx hlt
   have hidx:(zs.length:Int) - 1 - k=((zs.length - 1 - k:Nat):Int):=by omega
   rw [hidx]
   gi_wp2
   refine hR.mono ?_
   rintro e W3 (⟨rfl,hJ3,hk3⟩|⟨rfl,hJx3⟩)
   ·gi_wp2
    go_roundw
    case rel=>exact ⟨k+1,by omega,by simp;omega,by rw [uR hlt];exact hJ3,hnx.trans hk3⟩
    case measure=>simp [intOf]
   ·gi_wp2
    refine bodyPost_ret (results_none rfl _ _ _) rfl ?_
    exact ⟨⟨_,rfl⟩, .inr ⟨_,⟨k+1,by omega,(uR hlt).symm⟩,hJx3⟩⟩
  ·obtain rfl:k=zs.length:=by omega
   gi_wp2
   go_end0
   exact ⟨⟨_,rfl⟩, .inl ⟨_,rfl,hJs⟩⟩
theorem aIR (F:Fence) (n:Nat) (h:F.fn 279) (hro:F.round=none) (l Bs c:Nat) {α:Type} (a:Option Addr) (J:List α→World→Prop) (W:World) (hBs:W.cell? ⟨Bs,0,none⟩=some (.slice a 0 c)) (h0:J [] W):
  CallsIn F n Tryz.prog 279 #[.func (.yield l) #[] #[], .pointer (some ⟨Bs,0,none⟩)] W fun e W'=>(∃v,e= .returned v)∧J [] W':=by
 refine callsIn_of_wp Tryz.func279 rfl h ?_ hro
 simp only [Tryz.ntmps279,List.size_toArray,List.length_cons,List.length_nil,Nat.reduceAdd,Nat.reduceSub,Array.replicate_succ,Array.replicate_zero,List.push_toArray,List.append_toArray,List.nil_append,List.cons_append]
 gi_wp2
 gi_loopw [3] (fun i wr=>i= .int .i64 (-1)∧J [] wr) (fun _ _=>0)
 case atStart=>exact ⟨rfl,h0⟩
 case round=>
  obtain ⟨rfl,hJs⟩:=hrel
  gi_wp2
  go_end0
  exact ⟨⟨_,rfl⟩,hJs⟩
theorem aCQ (F:Fence) (n:Nat) (h:F.fn 252) (hro:F.round=none) (a:Option Addr) (len cap:Nat) (w:World):
  CallsIn F n Tryz.prog 252 #[.slice a len cap] w fun e w'=>e= .returned (.func (.func 279) #[] #[.pointer (some ⟨w.heap.size,0,none⟩)])∧w'=w.alloc (.cells #[.slice a len cap] 40):=by
 refine callsIn_of_wp Tryz.func252 rfl h ?_ hro
 simp only [Tryz.ntmps252,List.size_toArray,List.length_cons,List.length_nil,Nat.reduceAdd,Nat.reduceSub,Array.replicate_succ,Array.replicate_zero,List.push_toArray,List.append_toArray,List.nil_append,List.cons_append]
 gi_wp2
 go_ret
 exact ⟨rfl,rfl⟩
theorem yO {w:World} {b off:Nat} {zs:List Int} (h:Sl [] w (some ⟨b,off,none⟩) (recs eG zs)):∀j,j < zs.length→w.cell? ⟨b,off+j,none⟩=some (.int .u32 (zs[j]?.getD 0)):=by
 intro j hj
 have h1:(recs eG zs)[j]?=some (.int .u32 (zs[j]?.getD 0)):=by
  rw [kQ,List.getElem?_map]
  simp [hj]
 exact (h j _ h1).2.2
theorem aDF (F:Fence) (n:Nat) (h:F.fn 279) (hro:F.round=none) (hn:1≤n) (Bs n₀:Nat) (a:Option Addr) (cap:Nat) (zs:List Int) (hreach:zs.length*4≤140737488351232) (w:World) (hBs:Bs < w.heap.size) (hn₀:n₀≤w.heap.size)
  (hc:w.cell? ⟨Bs,0,none⟩=some (.slice a zs.length cap)) (hI:Sl [] w a (recs eG zs)) (hlt:0 < zs.length→∀b,a.map (·.block)=some b→b < n₀):
  SeqStopsK F n Tryz.prog 279 #[.pointer (some ⟨Bs,0,none⟩)] (dgE zs) (KpB n₀ Bs) (fun ys=>ys=xO zs zs.length) (fun pre=>∃k,k≤zs.length∧pre=xO zs k) zs.length w:=fun l J Jx W hW _ _ hY h0=>by
 have hc':=(hW.cell (p:=⟨Bs,0,none⟩) (show Bs < w.heap.size from hBs)).trans hc
 by_cases hz:zs.length=0
 ·rw [hz] at hc'
  exact (aIR F n h hro l Bs cap a J W hc' h0).mono fun e W' ⟨he,hj⟩=>⟨he, .inl ⟨_,by rw [hz];rfl,hj⟩⟩
 ·obtain ⟨b,off,rfl⟩:=(Sl.ok hI (by rw [fH];omega)).cases
  have hb:b < n₀:=hlt (by omega) b rfl
  have hcs:=yO hI
  refine (aYE F n h hro hn l Bs n₀ b off cap zs hreach hb J Jx hY W hc' (fun j hj=>(hW.cell (p:=⟨b,off+j,none⟩) (show b < w.heap.size from Nat.lt_of_lt_of_le hb hn₀)).trans (hcs j hj)) h0).mono ?_
  rintro e W' ⟨he,⟨ys,rfl,hj⟩|⟨pre,⟨k,hk,rfl⟩,hj⟩⟩
  ·exact ⟨he, .inl ⟨_,rfl,hj⟩⟩
  ·exact ⟨he, .inr ⟨_,⟨k,hk,rfl⟩,hj⟩⟩
def wdS (s g:Int):Int:=IntKind.u64.wrap (IntKind.u64.wrap (s*1000000000)+IntKind.u64.wrap g)
def wdF (zs:List Int) (pre:List (Dg zs)):Int:=pre.foldl (fun s x=>wdS s (zs[x.1]?.getD 0)) 0
theorem aXQ (zs:List Int) (pre:List (Dg zs)) (x:Dg zs):wdF zs (pre++[x])=wdS (wdF zs pre) (zs[x.1]?.getD 0):=by simp [wdF]
theorem aZX (a:Option Addr) (cap:Nat) (zs:List Int) (w:World) (hz:zs.length≤2) (hI:Sl [] w a (recs eG zs)) (hlt:0 < zs.length→∀b,a.map (·.block)=some b→b < w.heap.size):
  CallsIn Fence.wide 5 Tryz.prog 199 #[.slice a zs.length cap] w fun e w'=>e= .returned (.tuple #[.int .u64 (wdF zs (xO zs zs.length)), .bool true])∧Below w.heap.size w w':=by
 refine callsIn_of_wp_marks Tryz.func199 rfl trivial ?_ rfl
 simp only [Tryz.ntmps199,List.size_toArray,List.length_cons,List.length_nil,Nat.reduceAdd,Nat.reduceSub,Array.replicate_succ,Array.replicate_zero,List.push_toArray,List.append_toArray,List.nil_append,List.cons_append]
 have hz':¬(2 < (zs.length:Int)):=by omega
 gi_wp2_with (refine ⟨trivial,?_⟩;gi_at_call 252;refine (aCQ Fence.wide _ trivial rfl _ _ _ _).mono ?_;rintro e w' ⟨rfl,rfl⟩)
 have hs:=pE w (.int .u64 0) 176
 have hb:=pE (w.alloc (.cells #[.int .u64 0] 176)) (.slice a zs.length cap) 40
 rw [World.size_alloc] at hb
 have hBl:Below w.heap.size w ((w.alloc (.cells #[.int .u64 0] 176)).alloc (.cells #[.slice a zs.length cap] 40)):=((Below.refl _ w).alloc (Nat.le_refl _) _).alloc (by simp) _
 have hI2:=Sl.mono hI (Ext.of_below hBl)
 refine wpIn_rangeFunc_ownG rfl (by decide) (gf:=279) (lb:=#[.pointer (some ⟨w.heap.size+1,0,none⟩)]) rfl trivial (enters_of Tryz.func279 (by kernel_rfl) rfl)
  (aDF Fence.wide (5 - 1) trivial rfl (by decide) (w.heap.size+1) w.heap.size a cap zs (by omega) _ (by simp) (by simp;omega) hb.1 hI2 hlt) KpB.trans (aTQ (by simp;omega)) (Below.refl _ _) (fun _=>rfl)
  (fun pre W=>(W.cell? ⟨w.heap.size,0,none⟩=some (.int .u64 (wdF zs pre))∧W.frozen? ⟨w.heap.size,0,none⟩=false)∧Below w.heap.size w W)
  (fun _ _ _=>False)
  (OwnFrom.and (Own.from (fun s A B row hs hg hr=>⟨cell_kept hs.1 hg hr,(frozen_kept hs.1 hg hr).trans hs.2⟩) _) (ownFrom_below (Nat.le_refl _) (by simp;omega)))
  (fun _ _ _ _ _ hs _ _=>hs) ⟨⟨oP _ hs.1,oG _ hs.1 hs.2⟩,hBl⟩ ?a1 ?assign ?body ?done ?stop
 case assign=>
  intro l x W K hK
  dsimp only [dgE]
  gi_wp2
  exact hK
 case body=>
  rintro l pre x W ⟨⟨hc,hf⟩,hB⟩ hpl
  gi_wp2
  refine ⟨(KeepsOthers.setCell _ _ _).from _,⟨(Below.refl w.heap.size W).setCell (p:=⟨w.heap.size,0,none⟩) (Nat.le_refl _) _,fun v hv=>(World.cell?_setCell_other _ _ _ _ (by simp)).trans hv⟩,⟨?_,by rw [World.frozen?_setCell];exact hf⟩,hB.setCell (p:=⟨w.heap.size,0,none⟩) (Nat.le_refl _) _⟩
  rw [aXQ]
  exact World.cell?_setCell_same' _ _ _ (by rw [hc];rfl)
 case done=>
  rintro D ys W hD rfl ⟨⟨hc,hf⟩,hB⟩ hK
  gi_wp2
  refine ⟨by simp, .inl ⟨_,_,rfl,run_takeDeferred hK,?_⟩⟩
  refine ⟨_,results_tmp2 rfl _ _ _,rfl,?_⟩
  exact hB.trans (belowK_b (w:=w) (Nat.le_refl _) W D _ _ (by simp at hD;omega) hK rfl rfl)
 case stop=>
  rintro D c pre W _ _ h _
  exact h.elim
theorem aQT {w:World} {a:Option Addr} {zs:List Int} (h:Sl [] w a (recs eG zs)):0 < zs.length→∀b,a.map (·.block)=some b→b < w.heap.size:=by
 intro hz b hb
 obtain ⟨b',off,rfl⟩:=(Sl.ok h (by rw [fH];omega)).cases
 have h1:=yO h 0 hz
 simp only [Option.map_some,Option.some.injEq] at hb
 subst hb
 by_cases hlt:b' < w.heap.size
 ·exact hlt
 ·exfalso
  unfold World.cell? at h1
  rw [Array.getElem?_eq_none (by simpa using hlt)] at h1
  simp at h1
theorem aEA {P:Program} {fn:Func} {a:Tmp} {t:TypeId} {tmps:Array Value} {w:World} {b:Nat} {v:Value} [ht:ScalarTy P t] (h:fn.results=#[.cell a t]) (hb:tmps.getD a undef= .pointer (some ⟨b,0,none⟩)) (hc:w.cell? ⟨b,0,none⟩=some v):
  (results fn tmps).run P w= .ok v w:=by
 have hb':tmps[a]?.getD undef= .pointer (some ⟨b,0,none⟩):=by simpa using hb
 simp [results,h,hb',asAddr,loadVar,mH,hc]
def fV (x y:Int):Int:=if x < y then -1 else if y < x then 1 else 0
theorem aWC (x:Int) (w:World):Ret Tryz.prog 251 [.int .i64 x] w (fun v w'=>w=w'∧v= .bool false):=by
 refine enter Tryz.func251 rfl Tryz.ntmps251 rfl ?_
 repeat (first|refine uI ?_|refine kS ?_|refine uS ?_|refine oZ ?_|refine lZ ?_|refine lY ?_|refine pM ?_|refine pO ?_|refine mE ?_|refine mF ?_|refine uW ?_|refine uA ?_|refine uP ?_|refine uG rfl ?_|refine uF ?_|refine pJ rfl rfl rfl ?_|refine nK rfl rfl rfl ?_|refine iU rfl (bN rfl) rfl rfl ?_|refine iU rfl (cZ rfl) rfl rfl ?_|refine iU rfl (dD rfl rfl (by first|exact wrap_i64 (by omega)|exact wrap_u64 (by omega)|exact wrap_u32 (by omega)|exact wrap_u8 (by omega))) rfl rfl ?_|refine iU rfl (dC rfl rfl (by first|exact wrap_i64 (by omega)|exact wrap_u64 (by omega)|exact wrap_u32 (by omega)|exact wrap_u8 (by omega))) rfl rfl ?_)
 exact vD (.inl rfl) rfl rfl ⟨rfl,congrArg Value.bool (bE (by omega))⟩
theorem aVT (x y:Int) (w:World):Ret Tryz.prog 197 [.int .i64 x, .int .i64 y] w (fun v w'=>w=w'∧v= .int .i64 (fV x y)):=by
 refine enter Tryz.func197 rfl Tryz.ntmps197 rfl ?_
 repeat (first|refine uI ?_|refine kS ?_|refine uS ?_|refine oZ ?_|refine lZ ?_|refine lY ?_|refine pM ?_|refine pO ?_|refine mE ?_|refine mF ?_|refine uW ?_|refine uA ?_|refine uP ?_|refine uG rfl ?_|refine uF ?_|refine pJ rfl rfl rfl ?_|refine nK rfl rfl rfl ?_|refine iU rfl (bN rfl) rfl rfl ?_|refine iU rfl (cZ rfl) rfl rfl ?_|refine iU rfl (dD rfl rfl (by first|exact wrap_i64 (by omega)|exact wrap_u64 (by omega)|exact wrap_u32 (by omega)|exact wrap_u8 (by omega))) rfl rfl ?_|refine iU rfl (dC rfl rfl (by first|exact wrap_i64 (by omega)|exact wrap_u64 (by omega)|exact wrap_u32 (by omega)|exact wrap_u8 (by omega))) rfl rfl ?_)
 (refine aUW rfl (wS rfl (aWC x w)) rfl rfl ?_;rintro _ w' ⟨rfl,rfl⟩)
 refine ⟨trivial,?_⟩
 repeat (first|refine uI ?_|refine kS ?_|refine uS ?_|refine oZ ?_|refine lZ ?_|refine lY ?_|refine pM ?_|refine pO ?_|refine mE ?_|refine mF ?_|refine uW ?_|refine uA ?_|refine uP ?_|refine uG rfl ?_|refine uF ?_|refine pJ rfl rfl rfl ?_|refine nK rfl rfl rfl ?_|refine iU rfl (bN rfl) rfl rfl ?_|refine iU rfl (cZ rfl) rfl rfl ?_|refine iU rfl (dD rfl rfl (by first|exact wrap_i64 (by omega)|exact wrap_u64 (by omega)|exact wrap_u32 (by omega)|exact wrap_u8 (by omega))) rfl rfl ?_|refine iU rfl (dC rfl rfl (by first|exact wrap_i64 (by omega)|exact wrap_u64 (by omega)|exact wrap_u32 (by omega)|exact wrap_u8 (by omega))) rfl rfl ?_)
 (refine aUW rfl (wS rfl (aWC y w)) rfl rfl ?_;rintro _ w' ⟨rfl,rfl⟩)
 refine ⟨trivial,?_⟩
 unfold fV
 by_cases h1:x < y
 ·rw [if_pos h1]
  repeat' (first|refine uI ?_|refine kS ?_|refine uS ?_|refine oZ ?_|refine lZ ?_|refine lY ?_|refine pM ?_|refine pO ?_|refine mE ?_|refine mF ?_|refine uW ?_|refine uA ?_|refine uP ?_|refine uG rfl ?_|refine uF ?_|refine pJ rfl rfl rfl ?_|refine nK rfl rfl rfl ?_|refine iU rfl (bN rfl) rfl rfl ?_|refine iU rfl (cZ rfl) rfl rfl ?_|refine iU rfl (dD rfl rfl (by first|exact wrap_i64 (by omega)|exact wrap_u64 (by omega)|exact wrap_u32 (by omega)|exact wrap_u8 (by omega))) rfl rfl ?_|refine iU rfl (dC rfl rfl (by first|exact wrap_i64 (by omega)|exact wrap_u64 (by omega)|exact wrap_u32 (by omega)|exact wrap_u8 (by omega))) rfl rfl ?_|refine aFF rfl (by omega) ?_|refine aML rfl (by omega) ?_|refine aBJ rfl rfl (by omega) ?_|refine aBF rfl rfl (by omega) ?_|refine aHA rfl (fun h=>?_) (fun h=>?_)|refine lT rfl ?_|refine kW rfl ?_|refine zM rfl rfl (fun h=>?_) (fun h=>?_))
  exact vD (.inl rfl) rfl rfl ⟨rfl,rfl⟩
 ·rw [if_neg h1]
  by_cases h2:y < x
  ·rw [if_pos h2]
   repeat' (first|refine uI ?_|refine kS ?_|refine uS ?_|refine oZ ?_|refine lZ ?_|refine lY ?_|refine pM ?_|refine pO ?_|refine mE ?_|refine mF ?_|refine uW ?_|refine uA ?_|refine uP ?_|refine uG rfl ?_|refine uF ?_|refine pJ rfl rfl rfl ?_|refine nK rfl rfl rfl ?_|refine iU rfl (bN rfl) rfl rfl ?_|refine iU rfl (cZ rfl) rfl rfl ?_|refine iU rfl (dD rfl rfl (by first|exact wrap_i64 (by omega)|exact wrap_u64 (by omega)|exact wrap_u32 (by omega)|exact wrap_u8 (by omega))) rfl rfl ?_|refine iU rfl (dC rfl rfl (by first|exact wrap_i64 (by omega)|exact wrap_u64 (by omega)|exact wrap_u32 (by omega)|exact wrap_u8 (by omega))) rfl rfl ?_|refine aFF rfl (by omega) ?_|refine aML rfl (by omega) ?_|refine aBJ rfl rfl (by omega) ?_|refine aBF rfl rfl (by omega) ?_|refine aHA rfl (fun h=>?_) (fun h=>?_)|refine lT rfl ?_|refine kW rfl ?_|refine zM rfl rfl (fun h=>?_) (fun h=>?_))
   exact vD (.inl rfl) rfl rfl ⟨rfl,rfl⟩
  ·rw [if_neg h2]
   repeat' (first|refine uI ?_|refine kS ?_|refine uS ?_|refine oZ ?_|refine lZ ?_|refine lY ?_|refine pM ?_|refine pO ?_|refine mE ?_|refine mF ?_|refine uW ?_|refine uA ?_|refine uP ?_|refine uG rfl ?_|refine uF ?_|refine pJ rfl rfl rfl ?_|refine nK rfl rfl rfl ?_|refine iU rfl (bN rfl) rfl rfl ?_|refine iU rfl (cZ rfl) rfl rfl ?_|refine iU rfl (dD rfl rfl (by first|exact wrap_i64 (by omega)|exact wrap_u64 (by omega)|exact wrap_u32 (by omega)|exact wrap_u8 (by omega))) rfl rfl ?_|refine iU rfl (dC rfl rfl (by first|exact wrap_i64 (by omega)|exact wrap_u64 (by omega)|exact wrap_u32 (by omega)|exact wrap_u8 (by omega))) rfl rfl ?_|refine aFF rfl (by omega) ?_|refine aML rfl (by omega) ?_|refine aBJ rfl rfl (by omega) ?_|refine aBF rfl rfl (by omega) ?_|refine aHA rfl (fun h=>?_) (fun h=>?_)|refine lT rfl ?_|refine kW rfl ?_|refine zM rfl rfl (fun h=>?_) (fun h=>?_))
   exact vD (.inl rfl) rfl rfl ⟨rfl,rfl⟩
theorem aXL (x:Int) (w:World):Ret Tryz.prog 280 [.int .u32 x] w (fun v w'=>w=w'∧v= .bool false):=by
 refine enter Tryz.func280 rfl Tryz.ntmps280 rfl ?_
 repeat (first|refine uI ?_|refine kS ?_|refine uS ?_|refine oZ ?_|refine lZ ?_|refine lY ?_|refine pM ?_|refine pO ?_|refine mE ?_|refine mF ?_|refine uW ?_|refine uA ?_|refine uP ?_|refine uG rfl ?_|refine uF ?_|refine pJ rfl rfl rfl ?_|refine nK rfl rfl rfl ?_|refine iU rfl (bN rfl) rfl rfl ?_|refine iU rfl (cZ rfl) rfl rfl ?_|refine iU rfl (dD rfl rfl (by first|exact wrap_i64 (by omega)|exact wrap_u64 (by omega)|exact wrap_u32 (by omega)|exact wrap_u8 (by omega))) rfl rfl ?_|refine iU rfl (dC rfl rfl (by first|exact wrap_i64 (by omega)|exact wrap_u64 (by omega)|exact wrap_u32 (by omega)|exact wrap_u8 (by omega))) rfl rfl ?_)
 exact vD (.inl rfl) rfl rfl ⟨rfl,congrArg Value.bool (bE (by omega))⟩
theorem bEJ (x y:Int) (w:World):Ret Tryz.prog 253 [.int .u32 x, .int .u32 y] w (fun v w'=>w=w'∧v= .int .i64 (fV x y)):=by
 refine enter Tryz.func253 rfl Tryz.ntmps253 rfl ?_
 repeat (first|refine uI ?_|refine kS ?_|refine uS ?_|refine oZ ?_|refine lZ ?_|refine lY ?_|refine pM ?_|refine pO ?_|refine mE ?_|refine mF ?_|refine uW ?_|refine uA ?_|refine uP ?_|refine uG rfl ?_|refine uF ?_|refine pJ rfl rfl rfl ?_|refine nK rfl rfl rfl ?_|refine iU rfl (bN rfl) rfl rfl ?_|refine iU rfl (cZ rfl) rfl rfl ?_|refine iU rfl (dD rfl rfl (by first|exact wrap_i64 (by omega)|exact wrap_u64 (by omega)|exact wrap_u32 (by omega)|exact wrap_u8 (by omega))) rfl rfl ?_|refine iU rfl (dC rfl rfl (by first|exact wrap_i64 (by omega)|exact wrap_u64 (by omega)|exact wrap_u32 (by omega)|exact wrap_u8 (by omega))) rfl rfl ?_)
 (refine aUW rfl (wS rfl (aXL x w)) rfl rfl ?_;rintro _ w' ⟨rfl,rfl⟩)
 refine ⟨trivial,?_⟩
 repeat (first|refine uI ?_|refine kS ?_|refine uS ?_|refine oZ ?_|refine lZ ?_|refine lY ?_|refine pM ?_|refine pO ?_|refine mE ?_|refine mF ?_|refine uW ?_|refine uA ?_|refine uP ?_|refine uG rfl ?_|refine uF ?_|refine pJ rfl rfl rfl ?_|refine nK rfl rfl rfl ?_|refine iU rfl (bN rfl) rfl rfl ?_|refine iU rfl (cZ rfl) rfl rfl ?_|refine iU rfl (dD rfl rfl (by first|exact wrap_i64 (by omega)|exact wrap_u64 (by omega)|exact wrap_u32 (by omega)|exact wrap_u8 (by omega))) rfl rfl ?_|refine iU rfl (dC rfl rfl (by first|exact wrap_i64 (by omega)|exact wrap_u64 (by omega)|exact wrap_u32 (by omega)|exact wrap_u8 (by omega))) rfl rfl ?_)
 (refine aUW rfl (wS rfl (aXL y w)) rfl rfl ?_;rintro _ w' ⟨rfl,rfl⟩)
 refine ⟨trivial,?_⟩
 unfold fV
 by_cases h1:x < y
 ·rw [if_pos h1]
  repeat' (first|refine uI ?_|refine kS ?_|refine uS ?_|refine oZ ?_|refine lZ ?_|refine lY ?_|refine pM ?_|refine pO ?_|refine mE ?_|refine mF ?_|refine uW ?_|refine uA ?_|refine uP ?_|refine uG rfl ?_|refine uF ?_|refine pJ rfl rfl rfl ?_|refine nK rfl rfl rfl ?_|refine iU rfl (bN rfl) rfl rfl ?_|refine iU rfl (cZ rfl) rfl rfl ?_|refine iU rfl (dD rfl rfl (by first|exact wrap_i64 (by omega)|exact wrap_u64 (by omega)|exact wrap_u32 (by omega)|exact wrap_u8 (by omega))) rfl rfl ?_|refine iU rfl (dC rfl rfl (by first|exact wrap_i64 (by omega)|exact wrap_u64 (by omega)|exact wrap_u32 (by omega)|exact wrap_u8 (by omega))) rfl rfl ?_|refine aFF rfl (by omega) ?_|refine aML rfl (by omega) ?_|refine aBJ rfl rfl (by omega) ?_|refine aBF rfl rfl (by omega) ?_|refine aHA rfl (fun h=>?_) (fun h=>?_)|refine lT rfl ?_|refine kW rfl ?_|refine zM rfl rfl (fun h=>?_) (fun h=>?_))
  exact vD (.inl rfl) rfl rfl ⟨rfl,rfl⟩
 ·rw [if_neg h1]
  by_cases h2:y < x
  ·rw [if_pos h2]
   repeat' (first|refine uI ?_|refine kS ?_|refine uS ?_|refine oZ ?_|refine lZ ?_|refine lY ?_|refine pM ?_|refine pO ?_|refine mE ?_|refine mF ?_|refine uW ?_|refine uA ?_|refine uP ?_|refine uG rfl ?_|refine uF ?_|refine pJ rfl rfl rfl ?_|refine nK rfl rfl rfl ?_|refine iU rfl (bN rfl) rfl rfl ?_|refine iU rfl (cZ rfl) rfl rfl ?_|refine iU rfl (dD rfl rfl (by first|exact wrap_i64 (by omega)|exact wrap_u64 (by omega)|exact wrap_u32 (by omega)|exact wrap_u8 (by omega))) rfl rfl ?_|refine iU rfl (dC rfl rfl (by first|exact wrap_i64 (by omega)|exact wrap_u64 (by omega)|exact wrap_u32 (by omega)|exact wrap_u8 (by omega))) rfl rfl ?_|refine aFF rfl (by omega) ?_|refine aML rfl (by omega) ?_|refine aBJ rfl rfl (by omega) ?_|refine aBF rfl rfl (by omega) ?_|refine aHA rfl (fun h=>?_) (fun h=>?_)|refine lT rfl ?_|refine kW rfl ?_|refine zM rfl rfl (fun h=>?_) (fun h=>?_))
   exact vD (.inl rfl) rfl rfl ⟨rfl,rfl⟩
  ·rw [if_neg h2]
   repeat' (first|refine uI ?_|refine kS ?_|refine uS ?_|refine oZ ?_|refine lZ ?_|refine lY ?_|refine pM ?_|refine pO ?_|refine mE ?_|refine mF ?_|refine uW ?_|refine uA ?_|refine uP ?_|refine uG rfl ?_|refine uF ?_|refine pJ rfl rfl rfl ?_|refine nK rfl rfl rfl ?_|refine iU rfl (bN rfl) rfl rfl ?_|refine iU rfl (cZ rfl) rfl rfl ?_|refine iU rfl (dD rfl rfl (by first|exact wrap_i64 (by omega)|exact wrap_u64 (by omega)|exact wrap_u32 (by omega)|exact wrap_u8 (by omega))) rfl rfl ?_|refine iU rfl (dC rfl rfl (by first|exact wrap_i64 (by omega)|exact wrap_u64 (by omega)|exact wrap_u32 (by omega)|exact wrap_u8 (by omega))) rfl rfl ?_|refine aFF rfl (by omega) ?_|refine aML rfl (by omega) ?_|refine aBJ rfl rfl (by omega) ?_|refine aBF rfl rfl (by omega) ?_|refine aHA rfl (fun h=>?_) (fun h=>?_)|refine lT rfl ?_|refine kW rfl ?_|refine zM rfl rfl (fun h=>?_) (fun h=>?_))
   exact vD (.inl rfl) rfl rfl ⟨rfl,rfl⟩
def aFJ (zs ys:List Int):Nat→Int
 |0=>0
 |k+1=>if zs[k]?.getD 0=ys[k]?.getD 0 then aFJ zs ys k else fV (zs[k]?.getD 0) (ys[k]?.getD 0)
def Eqs (zs ys:List Int) (pre:List (Dg zs)):Prop:=∀x∈pre,zs[x.1]?.getD 0=ys[x.1]?.getD 0
theorem aFD {zs ys:List Int}:∀k,k≤zs.length→Eqs zs ys (xO zs k)→aFJ zs ys zs.length=aFJ zs ys (zs.length - k)
 |0,_,_=>rfl
 |k+1,hk,h=>by
  rw [uR (by omega)] at h
  rw [aFD k (by omega) (fun x hx=>h x (List.mem_append.2 (.inl hx)))]
  have e:zs.length - k=zs.length - (k+1)+1:=by omega
  have h1:=h ⟨zs.length - 1 - k,by omega⟩ (by simp)
  have e2:zs.length - 1 - k=zs.length - (k+1):=by omega
  rw [e,aFJ,if_pos (by rw [←e2];exact h1)]
theorem aTO {zs ys:List Int} {pre0:List (Dg zs)} {x:Dg zs} (k:Nat) (hk:k≤zs.length) (hp:xO zs k=pre0++[x]) (hE:Eqs zs ys pre0) (hn:zs[x.1]?.getD 0≠ys[x.1]?.getD 0):
  aFJ zs ys zs.length=fV (zs[x.1]?.getD 0) (ys[x.1]?.getD 0):=by
 match k,hk,hp with
 |0,_,hp=>simp [xO] at hp
 |k+1,hk,hp=>
  rw [uR (by omega)] at hp
  obtain ⟨e1,e2⟩:=List.append_inj' hp rfl
  subst e1
  have e3:x.1=zs.length - 1 - k:=by rw [←(List.cons.inj e2).1]
  have e:zs.length - k=x.1+1:=by omega
  rw [aFD k (by omega) hE,e,aFJ,if_neg hn]
theorem aMP (a b:Option Addr) (cap cap2:Nat) (zs ys:List Int) (w:World) (hz:zs.length*4≤140737488351232) (hlen:ys.length=zs.length) (hI:Sl [] w a (recs eG zs)) (hJ:Sl [] w b (recs eG ys)):
  CallsIn Fence.wide 5 Tryz.prog 198 #[.slice a zs.length cap, .slice b zs.length cap2] w fun e w'=>e= .returned (.int .i64 (aFJ zs ys zs.length))∧Below w.heap.size w w':=by
 refine callsIn_of_wp_marks Tryz.func198 rfl trivial ?_ rfl
 simp only [Tryz.ntmps198,List.size_toArray,List.length_cons,List.length_nil,Nat.reduceAdd,Nat.reduceSub,Array.replicate_succ,Array.replicate_zero,List.push_toArray,List.append_toArray,List.nil_append,List.cons_append]
 gi_wp2_with (refine ⟨trivial,?_⟩;gi_at_call 252;refine (aCQ Fence.wide _ trivial rfl _ _ _ _).mono ?_;rintro e w' ⟨rfl,rfl⟩)
 have hs3:=pE w (.slice b zs.length cap2) 40
 have hs4:=pE (w.alloc (.cells #[.slice b zs.length cap2] 40)) (.int .i64 0) 3
 have hb:=pE ((w.alloc (.cells #[.slice b zs.length cap2] 40)).alloc (.cells #[.int .i64 0] 3)) (.slice a zs.length cap) 40
 simp only [World.size_alloc] at hb hs4
 have hBl:Below w.heap.size w (((w.alloc (.cells #[.slice b zs.length cap2] 40)).alloc (.cells #[.int .i64 0] 3)).alloc (.cells #[.slice a zs.length cap] 40)):=(((Below.refl _ w).alloc (Nat.le_refl _) _).alloc (by simp) _).alloc (by simp;omega) _
 have hI2:=Sl.mono hI (Ext.of_below hBl)
 refine wpIn_rangeFunc_ownG rfl (by decide) (gf:=279) (lb:=#[.pointer (some ⟨w.heap.size+1+1,0,none⟩)]) rfl trivial (enters_of Tryz.func279 (by kernel_rfl) rfl)
  (aDF Fence.wide (5 - 1) trivial rfl (by decide) (w.heap.size+1+1) w.heap.size a cap zs hz _ (by simp) (by simp;omega) hb.1 hI2 (aQT hI)) KpB.trans (aTQ (by simp;omega)) (Below.refl _ _) (fun _=>rfl)
  (fun pre W=>((W.cell? ⟨w.heap.size,0,none⟩=some (.slice b zs.length cap2)∧W.frozen? ⟨w.heap.size,0,none⟩=false)∧(W.cell? ⟨w.heap.size+1,0,none⟩=some (.int .i64 0)∧W.frozen? ⟨w.heap.size+1,0,none⟩=false))∧(Eqs zs ys pre∧Below w.heap.size w W))
  (fun c pre W=>(c= .ret∧∃pre0 x,pre=pre0++[x]∧Eqs zs ys pre0∧zs[x.1]?.getD 0≠ys[x.1]?.getD 0∧W.cell? ⟨w.heap.size+1,0,none⟩=some (.int .i64 (fV (zs[x.1]?.getD 0) (ys[x.1]?.getD 0))))∧Below w.heap.size w W)
  ?hI ?hIx ⟨⟨⟨oP _ (oP _ hs3.1),oG _ (oP _ hs3.1) (oG _ hs3.1 hs3.2)⟩,⟨oP _ hs4.1,oG _ hs4.1 hs4.2⟩⟩,fun x h=>absurd h (by simp),hBl⟩ ?a1 ?assign ?body ?done ?stop
 case hI=>exact OwnFrom.and (Own.from (fun s A B row hs hg hr=>⟨⟨cell_kept hs.1.1 hg hr,(frozen_kept hs.1.1 hg hr).trans hs.1.2⟩,cell_kept hs.2.1 hg hr,(frozen_kept hs.2.1 hg hr).trans hs.2.2⟩) _) (OwnFrom.and (fun _ _ _ _ hs _ _=>hs) (ownFrom_below (Nat.le_refl _) (by simp;omega)))
 case hIx=>exact fun c=>OwnFrom.and (Own.from (fun s A B row hs hg hr=>let ⟨e,pre0,x,hp,hE,hn,hc⟩:=hs;⟨e,pre0,x,hp,hE,hn,cell_kept hc hg hr⟩) _) (ownFrom_below (Nat.le_refl _) (by simp;omega))
 case assign=>
  intro l x W K hK
  dsimp only [dgE]
  gi_wp2
  exact hK
 case body=>
  rintro l pre x W ⟨⟨⟨hc,hf⟩,hc4,hf4⟩,hE,hB⟩ hpl
  have hx:=x.2
  obtain ⟨b',off,rfl⟩:=(Sl.ok hJ (by rw [fH];omega)).cases
  have hcx:W.cell? ⟨b',off+x.1,none⟩=some (.int .u32 (ys[x.1]?.getD 0)):=(hB.cell (p:=⟨b',off+x.1,none⟩) (aQT hJ (by omega) b' rfl)).trans (yO hJ x.1 (by omega))
  gi_wp2_with (refine ⟨trivial,?_⟩;gi_at_call 253;refine (CallsIn.inRound l (callsIn_wide.2 (bEJ _ _ _))).mono ?_;rintro e w' ⟨v,rfl,rfl,rfl⟩)
  ·rename_i hne
   have hne':zs[x.1]?.getD 0≠ys[x.1]?.getD 0:=by simpa [hx,show x.1 < ys.length by omega] using hne
   have ez:zs[x.1]=zs[x.1]?.getD 0:=by simp [hx]
   have ey:ys[x.1]'(by omega)=ys[x.1]?.getD 0:=by simp [show x.1 < ys.length by omega]
   refine ⟨(KeepsOthers.setCell _ _ _).from _,⟨rfl,pre,x,rfl,hE,hne',?_⟩,hB.setCell (p:=⟨w.heap.size+1,0,none⟩) (by simp) _⟩
   rw [ez,ey]
   exact World.cell?_setCell_same' _ _ _ (by rw [hc4];rfl)
  ·rename_i hne
   have he:zs[x.1]?.getD 0=ys[x.1]?.getD 0:=by simpa [hx,show x.1 < ys.length by omega] using hne
   refine ⟨KeepsFrom.refl _ _,KpB.refl _ _ _,⟨⟨⟨hc,hf⟩,hc4,hf4⟩,?_,hB⟩⟩
   intro y hy
   rcases List.mem_append.1 hy with hy|hy
   ·exact hE y hy
   ·rw [List.mem_singleton.1 hy];exact he
 case done=>
  rintro D xs W hD rfl ⟨⟨_,hc4,hf4⟩,hE,hB⟩ hK
  gi_wp2
  have hD':w.heap.size+1+1+1≤D:=by simpa using hD
  have hne:(⟨w.heap.size+1,0,none⟩:Addr).block≠D:=by simp;omega
  have hK':(W.setCell ⟨w.heap.size+1,0,none⟩ (.int .i64 0)).heap[D]?=some (.deferred (some [])):=(Below.heap_setCell W _ _ D (by simp;omega)).trans hK
  refine ⟨by simp, .inl ⟨_,_,rfl,run_takeDeferred hK',?_⟩⟩
  have hq:=World.cell?_setCell_same' W ⟨w.heap.size+1,0,none⟩ (.int .i64 0) (by rw [hc4];rfl)
  refine ⟨_,aEA rfl rfl (cell_kept hq (grownBy_putObj' _ D _) (fun r e=>by cases e;exact ⟨_,hK',rfl⟩)),?_,?_⟩
  ·rw [aFD zs.length (Nat.le_refl _) hE,Nat.sub_self];rfl
  ·exact (hB.setCell (p:=⟨w.heap.size+1,0,none⟩) (by simp) _).trans (belowK_b (w:=w) (Nat.le_refl _) _ D _ _ (by omega) hK' rfl rfl)
 case stop=>
  rintro D c pre W hD ⟨k,hk,rfl⟩ ⟨⟨rfl,pre0,x,hp,hE,hne,hc4⟩,hB⟩ hK
  gi_wp2
  have hD':w.heap.size+1+1+1≤D:=by simpa using hD
  refine ⟨by simp, .inl ⟨_,_,rfl,run_takeDeferred hK,?_⟩⟩
  refine ⟨_,aEA rfl rfl (cell_kept hc4 (grownBy_putObj' _ D _) (fun r e=>by cases e;exact ⟨_,hK,rfl⟩)),?_,?_⟩
  ·rw [aTO k hk hp hE hne]
  ·exact hB.trans (belowK_b (w:=w) (Nat.le_refl _) W D _ _ (by omega) hK rfl rfl)
end Go.Proofs.YtmmmfphealhapaaGreat
namespace Go.Fx
open Go
section
variable {P:Program} {l0 n:Nat} {Q:Exit→Act→World→Prop} {ops:Array Oper}
theorem opIn {o:Oper} {a:Act} {w:World} {K:Act→World→Prop} (hd:∀c,o.op≠ .defer c) (h:o.wp P a w K Q):o.wpIn (Fence.wide.inRound l0) n P a w K Q:=by
 unfold Oper.wpIn
 refine ⟨fun _ _=>trivial,?_⟩
 rw [Fence.inRound_round,Oper.semAt_eq _ _ _ hd]
 unfold Oper.wp at h
 generalize (execOp a.eval o).run P w=r at h ⊢
 cases r with
 |ok x w'=>
  cases x with
  |enter f args=>exact ⟨fun h=>by simp [Fence.wide,Fence.inRound] at h,CallsIn.inRound l0 (callsIn_wide.2 h)⟩
  |row row args=>exact ⟨fun h=>by simp [Fence.wide,Fence.inRound] at h,fun c cs _=>let ⟨v,w',r,s⟩:=h c cs;⟨v,w',r,stepsIn_wide.2 s⟩⟩
  |_=>first|exact h|exact h.elim
 |halt x w'=>cases x <;>first|exact h|exact h.elim
def xD (o:Oper):Bool:=match o.op with| .defer _=>false|_=>true
theorem aMK {o:Oper} (h:xD o=true):∀c,o.op≠ .defer c:=fun c e=>by simp [xD,e] at h
theorem aPO {md:Region.Mode} (hd:∀(i:Nat) o,ops[i]?=some o→xD o=true) (hq:¬LetsOut Q):∀(fuel:Nat) (listed:Array Bool) (a:Act) (w:World),wpAny P md ops Q fuel listed a w→wpAnyIn (Fence.wide.inRound l0) n P md ops Q fuel listed a w
 |0,_,_,_,h=>h
 |fuel+1,listed,a,w,h=>by
  refine ⟨h.1,fun i hi=>?_⟩
  have h1:=h.2 i hi
  unfold wpOp at h1
  unfold wpOpIn
  cases ho:ops[i]? with
  |none=>rw [ho] at h1;exact aPO hd hq fuel _ _ _ h1
  |some o=>
   simp only [ho] at h1 ⊢
   split
   ·rename_i hw
    rw [if_pos hw] at h1
    rcases h1 with h1|h1
    ·exact Oper.wpIn_mono (fun a w=>aPO hd hq fuel _ a w) (opIn (aMK (hd i o ho)) h1)
    ·exact absurd h1.2 hq
   ·rename_i hw
    rw [if_neg hw] at h1
    exact ⟨fun _ _=>trivial,aPO hd hq fuel _ _ _ h1⟩
theorem aIK {id:Nat} {l:List Oper} {p ms:List Nat} {a:Act} {w:World} {Cs:Nat→World→Prop} (hx:P.follows .mixedOrders=true) (hm:∀s w,Cs s w→Cs (s+1) w)
  (hp:(Region.noSelect l.toArray && iD l.toArray p ms (Array.replicate l.length false) && p.length==l.length)=true) (hd:l.all xD=true) (hq:¬LetsOut Q) (hC:Cs 0 w.drew)
  (h:wpM P l.toArray Q (.any Cs 0 ms) (pick l p) a w.drew):(Code.region id l.toArray true).wpIn (Fence.wide.inRound l0) n P Q a w:=by
 simp only [Bool.and_eq_true,beq_iff_eq] at hp
 obtain ⟨⟨h1,h2⟩,h3⟩:=hp
 refine wpIn_region_any hx ?_
 have:=jJ hm h1 p ms 0 _ a w.drew hC (by simp) h2 h
 rw [h3] at this
 refine aPO (fun i o ho=>List.all_eq_true.1 hd o (List.mem_of_getElem? (by simpa using ho))) hq _ _ _ _ ?_
 simpa using rZ _ _ _ _ _ this
end
section
variable {P:Program} {l0 k n:Nat} {Q Q':Exit→Act→World→Prop} {G:Env} {X:List Nat} {w0:World} {M M' M1:List Ent} {I I' I1:List aM} {a:Act} {w:World}
theorem aRE {id:Nat} {l:List Oper} (ha:Has n G a) (hw:Mem X w0 M I w) (hq:¬LetsOut Q) (Cs:Nat→World→Prop) (p ms:List Nat) (hx:P.follows .mixedOrders=true) (hm:∀s w,Cs s w→Cs (s+1) w)
  (hp:(Region.noSelect l.toArray && iD l.toArray p ms (Array.replicate l.length false) && p.length==l.length)=true) (hd:l.all xD=true) (hC:∀w,Mem X w0 M I w→Cs 0 w)
  (h:RD P n l Q (.any Cs 0 ms) (pick l p) G X w0 M I):(Code.region id l.toArray true).wpIn (Fence.wide.inRound l0) k P Q a w:=
 aIK hx hm hp hd hq (hC _ hw.drew) ((h.go w.drew hw.drew).go a ha)
theorem aMM {id:Nat} {l:List Oper} (ha:Has n G a) (hw:Mem X w0 M I w) (hq:¬LetsOut Q) (J:Nat) (Ms:List Ent) (Is:List aM) (p ms:List Nat) (hM:SubP M Ms) (hI:Inc I Is) (hx:P.follows .mixedOrders=true)
  (hp:(Region.noSelect l.toArray && iD l.toArray p ms (Array.replicate l.length false) && p.length==l.length)=true) (hd:l.all xD=true)
  (h:RD P n l Q (.any (CsJ J X w0 Ms Is) 0 ms) (pick l p) G X w0 M I):(Code.region id l.toArray true).wpIn (Fence.wide.inRound l0) k P Q a w:=
 aRE ha hw hq (CsJ J X w0 Ms Is) p ms hx (fun s w h hs=>h (by omega)) hp hd (fun _ h _=>h.weak hM hI) h
end
/- what is read with no sS sees all, other reads see what stays -/
def CsK (J:Nat) (X:List Nat) (w0:World) (M Ms:List Ent) (I Is:List aM):Nat→World→Prop:=fun s w=>(s=0→Mem X w0 M I w)∧(s≤J→Mem X w0 Ms Is w)
section
variable {X:List Nat} {w0:World} {M M' M1 Ms:List Ent} {I I' I1 Is:List aM}
theorem View.k0 {J k:Nat} {ms:List Nat} (h:k+ms.headD 0=0):View (.any (CsK J X w0 M1 Ms I1 Is) k ms) X w0 M I M1 I1:=⟨fun w w' _ hc=>by
 have hc':CsK J X w0 M1 Ms I1 Is (k+ms.headD 0) w':=hc
 exact hc'.1 h⟩
theorem View.kJ {J k:Nat} {ms:List Nat} (h:k+ms.headD 0≤J):View (.any (CsK J X w0 M1 Ms I1 Is) k ms) X w0 M I Ms Is:=⟨fun w w' _ hc=>by
 have hc':CsK J X w0 M1 Ms I1 Is (k+ms.headD 0) w':=hc
 exact hc'.2 h⟩
theorem OkD.kN {J k:Nat} {ms:List Nat} (h:J≤k):OkD (.any (CsK J X w0 M1 Ms I1 Is) k ms) X w0 M I:=⟨fun w _=>by
 show CsK J X w0 M1 Ms I1 Is (k+1) w
 exact ⟨fun h=>by omega,fun h=>by omega⟩⟩
theorem OkD.kY {J k:Nat} {ms:List Nat} (hM:SubP M Ms) (hI:Inc I Is):OkD (.any (CsK J X w0 M1 Ms I1 Is) k ms) X w0 M I:=⟨fun w hw=>by
 show CsK J X w0 M1 Ms I1 Is (k+1) w
 exact ⟨fun h=>by omega,fun _=>hw.weak hM hI⟩⟩
theorem uY {m:Mode} (h:View m X w0 M I M1 I1:=by first|exact View.seq|exact View.any|exact View.one rfl|exact View.upto (by decide)|exact View.k0 rfl|exact View.kJ (by decide)):View m X w0 M I M1 I1:=h
theorem kT {m:Mode} (h:OkD m X w0 M I:=by first|exact OkD.seq|exact OkD.one|exact OkD.any bQ bP|exact OkD.uptoN (by decide)|exact OkD.uptoY bQ bP|exact OkD.kN (by decide)|exact OkD.kY bQ bP):OkD m X w0 M I:=h
theorem bCI {J:Nat} {w:World} (hM:SubP M Ms) (hI:Inc I Is) (h:Mem X w0 M I w):CsK J X w0 M Ms I Is 0 w:=⟨fun _=>h,fun _=>h.weak hM hI⟩
theorem bCN {J:Nat} (s:Nat) (w:World) (h:CsK J X w0 M Ms I Is s w):CsK J X w0 M Ms I Is (s+1) w:=⟨fun h=>by omega,fun hs=>h.2 (by omega)⟩
theorem nQ {P:Program} {n:Nat} {Q:Exit→Act→World→Prop} {G:Env} {id:Nat} {l:List Oper} (J:Nat) (Ms:List Ent) (Is:List aM) (p ms:List Nat) (hM:SubP M Ms) (hI:Inc I Is) (hx:P.follows .mixedOrders=true)
  (hp:(Region.noSelect l.toArray && iD l.toArray p ms (Array.replicate l.length false) && p.length==l.length)=true)
  (h:RD P n l Q (.any (CsK J X w0 M Ms I Is) 0 ms) (pick l p) G X w0 M I):TD P n (.region id l.toArray true) Q G X w0 M I:=
 tV (CsK J X w0 M Ms I Is) p ms hx bCN hp (fun _ h=>bCI hM hI h) h
end
/- the same behind deferred calls -/
def aCE (Ds:List Deferred) (a:Act):Act:={a with defers:=a.defers++Ds}
section
variable {P:Program} {Ds:List Deferred} {Q:Exit→Act→World→Prop} {ops:Array Oper}
theorem uE (a:Act) (d:Option Tmp) (v:Value):(aCE Ds a).put d v=aCE Ds (a.put d v):=by cases d <;>rfl
theorem aGD (a:Act):(aCE Ds a).eval=a.eval:=by funext x;cases x <;>rfl
theorem aGX (h:LetsOut (fun e a w=>Q e (aCE Ds a) w)):LetsOut Q:=let ⟨a,w,h⟩:=h;⟨_,w,h⟩
theorem bBY {o:Oper} {a:Act} {w:World} {K:Act→World→Prop} (h:o.wp P a w (fun a w=>K (aCE Ds a) w) (fun e a w=>Q e (aCE Ds a) w)):o.wp P (aCE Ds a) w K Q:=by
 unfold Oper.wp at h ⊢
 rw [aGD]
 generalize (execOp a.eval o).run P w=r at h ⊢
 cases r with
 |ok x w'=>
  cases x with
  |value v=>simp only [Oper.upon] at h ⊢;rw [uE];exact h
  |skip=>simp only [Oper.upon] at h ⊢;rw [uE];exact h
  |defer d=>simp only [Oper.upon] at h ⊢;exact (uE (Ds:=Ds) {a with defers:=d::a.defers} o.dst undef) ▸ h
  |enter f args=>
   simp only [Oper.upon] at h ⊢
   refine Calls.mono h (fun e w2 he=>?_)
   cases e with
   |returned v=>simp only at he ⊢;rw [uE];exact he
   |panicked c=>exact he
   |outgrown=>exact aGX he
  |row row args=>
   simp only [Oper.upon] at h ⊢
   refine Rows.mono h (fun v w2 he=>?_)
   rw [uE];exact he
  |_=>exact h.elim
 |halt x w'=>cases x <;>first|exact h|exact h.elim
theorem zW {md:Region.Mode}:∀(fuel:Nat) (listed:Array Bool) (a:Act) (w:World),wpAny P md ops (fun e a w=>Q e (aCE Ds a) w) fuel listed a w→wpAny P md ops Q fuel listed (aCE Ds a) w
 |0,_,_,_,h=>h
 |fuel+1,listed,a,w,h=>by
  refine ⟨h.1,fun i hi=>?_⟩
  have h1:=h.2 i hi
  unfold wpOp at h1 ⊢
  cases ho:ops[i]? with
  |none=>simp only [ho] at h1;exact zW fuel _ _ _ h1
  |some o=>
   simp only [ho] at h1 ⊢
   by_cases hw:Region.wanted o (yielded ops a.tmps)=true
   ·rw [if_pos hw] at h1
    rw [if_pos (show Region.wanted o (yielded ops (aCE Ds a).tmps)=true from hw)]
    rcases h1 with h1|h1
    ·exact .inl (Oper.wp_mono (fun a w=>id) (bBY (Oper.wp_mono (fun a w=>zW fuel _ a w) h1)))
    ·refine .inr ⟨?_,aGX h1.2⟩
     have:=h1.1
     unfold Oper.asks at this ⊢
     rw [aGD]
     exact this
   ·rw [if_neg hw] at h1
    rw [if_neg (show ¬Region.wanted o (yielded ops (aCE Ds a).tmps)=true from hw),uE]
    exact zW fuel _ _ _ h1
end
section
variable {P:Program} {k n:Nat} {Q Q':Exit→Act→World→Prop} {G:Env} {X:List Nat} {w0:World} {M M' M1:List Ent} {I I' I1:List aM} {a:Act} {w:World}
theorem aNW {id:Nat} {l:List Oper} {tmps:Array Value} {Ds:List Deferred} (ha:Has n G ⟨tmps,[]⟩) (hw:Mem X w0 M I w) (J:Nat) (Ms:List Ent) (Is:List aM) (p ms:List Nat) (hM:SubP M Ms) (hI:Inc I Is) (hx:P.follows .mixedOrders=true)
  (hp:(Region.noSelect l.toArray && iD l.toArray p ms (Array.replicate l.length false) && p.length==l.length)=true)
  (h:RD P n l (fun e a w=>Q e (aCE Ds a) w) (.any (CsK J X w0 M Ms I Is) 0 ms) (pick l p) G X w0 M I):(Code.region id l.toArray true).wpIn Fence.wide k P Q ⟨tmps,Ds⟩ w:=by
 simp only [Bool.and_eq_true,beq_iff_eq] at hp
 obtain ⟨⟨h1,h2⟩,h3⟩:=hp
 refine wpIn_wide.2 (wp_region_any hx ?_)
 refine zW (Ds:=Ds) _ _ ⟨tmps,[]⟩ _ ?_
 have hC:CsK J X w0 M Ms I Is 0 w.drew:=bCI hM hI hw.drew
 have:=jJ bCN h1 p ms 0 _ _ w.drew hC (by simp) h2 ((h.go w.drew hw.drew).go _ ha)
 rw [h3] at this
 simpa using rZ _ _ _ _ _ this
end
theorem Has.cons {n:Nat} {G:Env} {a:Act} {t:Nat} {v:Value} (h:Has n G a) (ht:a.tmps[t]?=some v):Has n ((t,v)::G) a:=
 ⟨h.size,h.defers,fun s u hs=>by
  unfold lk at hs
  cases e:Nat.beq t s with
  |true=>rw [e] at hs;have:=Nat.eq_of_beq_eq_true e;subst this;exact ht.trans hs
  |false=>rw [e] at hs;exact h.get s u hs⟩
theorem Has.nil {n:Nat} {a:Act} (h:a.tmps.size=n) (hd:a.defers=[]):Has n [] a:=⟨h,hd,fun _ _ h=>by cases h⟩
theorem vS {X:List Nat} {n:Nat} {A B:World} (h:Ext X A B) (hx:∀k∈X,n≤k) (hn:n≤A.heap.size):RowKit.Below n A B:=
 ⟨h.os,h.tape,h.output,h.size,fun k hk=>h.block k (by omega) (fun hm=>by have:=hx k hm;omega)⟩
theorem aHP {X:List Nat} {n:Nat} {A B:World} (h:Ext X A B) (hx:∀k∈X,k < n):KeepsFrom n A B:=
 ⟨h.size,fun k o hk ho _=>(h.block k (Array.getElem?_eq_some_iff.1 ho).1 (fun hm=>by have:=hx k hm;omega)).trans ho⟩
end Go.Fx
namespace Go.Proofs.YtmmmfphealhapaaGreat
open Go Go.Fx Go.RowKit Go.Shelf
attribute [local go_sem] Oper.semAt_some
theorem aLB:∀{zs ys:List Int} (k:Nat),Dig zs→Dig ys→aFJ zs ys k=fV (val (zs.take k)) (val (ys.take k))
 |_,_,0,_,_=>by simp [aFJ,fV,val]
 |zs,ys,k+1,hz,hy=>by
  have h1:=iK hz k
  have h2:=iK hy k
  have h3:=bS (hz.take k)
  have h4:=bS (hy.take k)
  have hp:=jC k
  rw [aFJ,bT,bT,aLB k hz hy]
  have ez:zs[k]?.getD 0=zs.getD k 0:=by simp
  have ey:ys[k]?.getD 0=ys.getD k 0:=by simp
  rw [ez,ey]
  generalize val (zs.take k)=A at*
  generalize val (ys.take k)=C at*
  generalize zs.getD k 0=x at*
  generalize ys.getD k 0=y at*
  generalize (1000000000:Int) ^ k=B at*
  have key:∀x y A C:Int,x < y→0≤A→A < B→0≤C→A+B*x < C+B*y:=fun x y A C h _ _ _=>by
   have:B*(x+1)≤B*y:=Int.mul_le_mul_of_nonneg_left (by omega) (by omega)
   rw [Int.mul_add] at this
   omega
  split
  ·rename_i e
   subst e
   unfold fV
   simp only [Int.add_lt_add_iff_right]
  ·rename_i e
   rcases Int.lt_or_gt_of_ne e with h|h
   ·have:=key x y A C h h3 h1 h4
    unfold fV
    rw [if_pos h,if_pos this]
   ·have:=key y x C A h h4 h2 h3
    unfold fV
    rw [if_neg (by omega),if_pos h,if_neg (by omega),if_pos this]
theorem aIG {s g:Int} (hs:0≤s∧s < 1000000000) (hg:0≤g∧g < 1000000000):wdS s g=s*1000000000+g:=by
 unfold wdS
 rw [wrap_u64 (n:=s*1000000000) (by omega),wrap_u64 (n:=g) (by omega),wrap_u64 (by omega)]
section
variable {X:List Nat} {w0:World} {M0:List Ent} {I0:List aM}
theorem yL {p q:Option Addr} {m n cp cq:Nat} (hm:(gr m).length≤100000000000) (hn:(gr n).length≤100000000000) (hp:aH p (recs eG (gr m))∈I0) (hq:aH q (recs eG (gr n))∈I0):
  CD Tryz.prog 198 [.slice p (gr m).length cp, .slice q (gr n).length cq] X w0 M0 I0 (fun v M I=>M0=M∧I0=I∧v= .int .i64 (fV m n)):=by
 by_cases hl:(gr n).length=(gr m).length
 ·rw [hl]
  refine CD.ext (fun w hw=>Calls.mono (callsIn_wide.1 (aMP p q cp cq (gr m) (gr n) w (by omega) hl ((hw.sl hp).less (by simp)) ((hw.sl hq).less (by simp)))) ?_)
  rintro e w' ⟨rfl,hB⟩
  refine ⟨_,rfl,Ext.of_below hB,?_⟩
  have e:=aLB (gr m).length (bR m) (bR n)
  rw [List.take_length,←hl,List.take_length,cO,cO] at e
  rw [hl] at e
  rw [e]
 ·have hc:fV ((gr m).length:Int) ((gr n).length:Int)=fV m n:=by
   have h1:∀a b:Nat,(gr a).length < (gr b).length→(a:Int) < b:=fun a b h=>by
    have:=aIQ (wX a) (wX b) h
    rwa [cO,cO] at this
   rcases Nat.lt_or_gt_of_ne hl with h|h
   ·have:=h1 n m h
    unfold fV
    rw [if_neg (by omega),if_pos (by omega),if_neg (by omega),if_pos (by omega)]
   ·have:=h1 m n h
    unfold fV
    rw [if_pos (by omega),if_pos (by omega)]
  refine dV Tryz.func198 rfl Tryz.ntmps198 rfl ?_
  refine aG ?_
  refine dB ?_
  (refine nN rfl rfl rfl ?_;intro b;refine ⟨qL,?_⟩)
  (refine aV rfl rfl ?_;intro s;refine ⟨qL,?_⟩)
  repeat (refine lK ?_)
  (refine aO rfl (CD.same (fun w _=>aVT _ _ _)) rfl rfl ?_;rintro _ _ _ ⟨rfl,rfl,rfl⟩;refine ⟨qL,?_⟩)
  rw [hc]
  repeat (refine lK ?_)
  exact aZH (.inl rfl) rfl rfl aZ _ _ bQ bP ⟨rfl,rfl,rfl⟩
theorem aCX {q:Option Addr} {n c:Nat} (hn:(gr n).length≤100000000000) (hq:aH q (recs eG (gr n))∈I0):
  CD Tryz.prog 199 [.slice q (gr n).length c] X w0 M0 I0 (fun v M I=>M0=M∧I0=I∧v= .tuple #[.int .u64 (if (gr n).length≤2 then (n:Int) else 0), .bool (B ((gr n).length≤2))]):=by
 by_cases hl:(gr n).length≤2
 ·refine CD.ext (fun w hw=>Calls.mono (callsIn_wide.1 (aZX q c (gr n) w hl ((hw.sl hq).less (by simp)) (aQT ((hw.sl hq).less (by simp))))) ?_)
  rintro e w' ⟨rfl,hB⟩
  refine ⟨_,rfl,Ext.of_below hB,?_⟩
  rw [if_pos hl,bJ hl]
  have hd:=bR n
  have hv:=cO n
  congr 4
  revert hl hd hv
  generalize gr n=zs
  intro hl hd hv
  rw [←hv]
  match zs,hl,hd with
  |[],_,_=>simp [xO,wdF,val]
  |[x],_,hd=>
   have:=hd x (by simp)
   have e:wdF [x] (xO [x] [x].length)=wdS 0 x:=rfl
   rw [e,aIG (by omega) this]
   simp [val]
  |[x,y],_,hd=>
   have h1:=hd x (by simp)
   have h2:=hd y (by simp)
   have e:wdF [x,y] (xO [x,y] [x,y].length)=wdS (wdS 0 y) x:=rfl
   rw [e,aIG (by omega) h2,aIG (by omega) h1]
   simp only [val]
   omega
 ·refine dV Tryz.func199 rfl Tryz.ntmps199 rfl ?_
  repeat (refine lK ?_)
  refine gH [2,3] (by first|exact .inl rfl|exact .inr rfl) rfl rfl rfl _ _ bQ bP (⟨rfl,rfl,by rw [if_neg hl,bE hl]⟩)
end
end Go.Proofs.YtmmmfphealhapaaGreat
namespace Go.Fx
theorem iW {p g:Prop} (h:g) (w:BoxP g→p:=by (intro hh;(first|refine aG ?_|refine dB ?_|refine oN ?_|refine lL ?_|refine jK ?_|refine jB ?_|refine lI ?_|refine kV ?_|refine jP ?_|refine jO ?_|refine oJ ?_|refine oI ?_|refine oU ?_|refine nZ rfl ?_|refine bK ?_|(refine jU ?_;first|refine kD rfl rfl rfl ?_|(refine jT rfl rfl ?_;refine iT rfl rfl rfl kT ?_)|refine jZ rfl rfl (by omega) ?_|refine jX rfl rfl (by omega) ?_)|(refine eO ?_;refine aC rfl (fun _=>fM rfl) rfl rfl ?_)|refine aC rfl (fun _=>bN rfl) rfl rfl ?_|(refine jY ?_;first|refine aC rfl (fun _=>dD rfl rfl w_) rfl rfl ?_|refine aC rfl (fun _=>dC rfl rfl w_) rfl rfl ?_|refine aC rfl (fun _=>gQ rfl rfl w_) rfl rfl ?_|refine aC rfl (fun _=>gT rfl rfl (by omega) q_) rfl rfl ?_|refine aC rfl (fun _=>gP rfl rfl (by omega) rfl) rfl rfl ?_|refine aC rfl (fun _=>fJ rfl rfl) rfl rfl ?_|refine aC rfl (fun _=>gM rfl rfl) rfl rfl ?_|refine aC rfl (fun _=>gK rfl rfl) rfl rfl ?_)|(refine eO ?_;first|refine aC rfl (fun _=>gD rfl w_) rfl rfl ?_)|(refine jW ?_;first|refine aC rfl (fun _=>fD rfl w_) rfl rfl ?_)|(refine jV ?_;first|refine aC rfl (fun _=>cZ rfl) rfl rfl ?_|refine aC rfl (fun _=>fK rfl rfl) rfl rfl ?_|refine aC rfl (fun _=>fP rfl rfl) rfl rfl ?_|refine aC rfl (fun _=>fQ rfl rfl rfl) rfl rfl ?_)|(refine kG ?_;first|refine kI rfl (by decide) rfl rfl ?_|refine mM rfl (by decide) rfl rfl ?_)|(refine kH ?_;first|refine aC rfl (fun _=>fC rfl) rfl rfl ?_)|(refine kL ?_;first|refine mQ rfl rfl iC rfl rfl ?_|refine mO uY rfl rfl iC aZ mU rfl rfl ?_|refine mJ uY rfl rfl iC aZ mU rfl rfl ?_|refine aC rfl (fun _=>dZ rfl rfl iC) rfl rfl ?_)|(refine bM ?_;first|refine mK uY rfl aZ xX rfl rfl ?_|refine mP uY rfl aZ xX rfl rfl ?_|refine gI uY rfl aZ xX rfl rfl ?_|refine kK uY rfl aZ xX rfl rfl ?_|refine qV uY rfl aZ nE jN rfl rfl ?_|refine rA uY rfl aZ nE jN rfl rfl ?_|refine qX uY rfl aZ nE jN rfl rfl ?_|refine nX uY rfl aZ nE jN rfl rfl ?_)|(refine kF ?_;first|refine aC rfl (fun _=>dY rfl rfl) rfl rfl ?_|refine aC rfl (fun _=>dG rfl) rfl rfl ?_)|(refine nI ?_;first|refine mX rfl rfl rfl tJ stC rfl rfl ⟨kT,?_⟩|refine fO rfl rfl jN aCG tJ aCL rfl rfl ⟨kT,?_⟩)|(refine lH ?_;first|refine fG rfl ?_|refine eF rfl ?_|refine oK rfl (by omega) ?_|refine sP rfl (by omega) ?_));(repeat (first|refine aG ?_|refine dB ?_|refine oN ?_|refine lL ?_|refine jK ?_|refine jB ?_|refine lI ?_|refine kV ?_|refine jP ?_|refine jO ?_|refine oJ ?_|refine oI ?_|refine oU ?_|refine nZ rfl ?_|refine bK ?_|(refine jU ?_;first|refine kD rfl rfl rfl ?_|(refine jT rfl rfl ?_;refine iT rfl rfl rfl kT ?_)|refine jZ rfl rfl (by omega) ?_|refine jX rfl rfl (by omega) ?_)|(refine eO ?_;refine aC rfl (fun _=>fM rfl) rfl rfl ?_)|refine aC rfl (fun _=>bN rfl) rfl rfl ?_|(refine jY ?_;first|refine aC rfl (fun _=>dD rfl rfl w_) rfl rfl ?_|refine aC rfl (fun _=>dC rfl rfl w_) rfl rfl ?_|refine aC rfl (fun _=>gQ rfl rfl w_) rfl rfl ?_|refine aC rfl (fun _=>gT rfl rfl (by omega) q_) rfl rfl ?_|refine aC rfl (fun _=>gP rfl rfl (by omega) rfl) rfl rfl ?_|refine aC rfl (fun _=>fJ rfl rfl) rfl rfl ?_|refine aC rfl (fun _=>gM rfl rfl) rfl rfl ?_|refine aC rfl (fun _=>gK rfl rfl) rfl rfl ?_)|(refine eO ?_;first|refine aC rfl (fun _=>gD rfl w_) rfl rfl ?_)|(refine jW ?_;first|refine aC rfl (fun _=>fD rfl w_) rfl rfl ?_)|(refine jV ?_;first|refine aC rfl (fun _=>cZ rfl) rfl rfl ?_|refine aC rfl (fun _=>fK rfl rfl) rfl rfl ?_|refine aC rfl (fun _=>fP rfl rfl) rfl rfl ?_|refine aC rfl (fun _=>fQ rfl rfl rfl) rfl rfl ?_)|(refine kG ?_;first|refine kI rfl (by decide) rfl rfl ?_|refine mM rfl (by decide) rfl rfl ?_)|(refine kH ?_;first|refine aC rfl (fun _=>fC rfl) rfl rfl ?_)|(refine kL ?_;first|refine mQ rfl rfl iC rfl rfl ?_|refine mO uY rfl rfl iC aZ mU rfl rfl ?_|refine mJ uY rfl rfl iC aZ mU rfl rfl ?_|refine aC rfl (fun _=>dZ rfl rfl iC) rfl rfl ?_)|(refine bM ?_;first|refine mK uY rfl aZ xX rfl rfl ?_|refine mP uY rfl aZ xX rfl rfl ?_|refine gI uY rfl aZ xX rfl rfl ?_|refine kK uY rfl aZ xX rfl rfl ?_|refine qV uY rfl aZ nE jN rfl rfl ?_|refine rA uY rfl aZ nE jN rfl rfl ?_|refine qX uY rfl aZ nE jN rfl rfl ?_|refine nX uY rfl aZ nE jN rfl rfl ?_)|(refine kF ?_;first|refine aC rfl (fun _=>dY rfl rfl) rfl rfl ?_|refine aC rfl (fun _=>dG rfl) rfl rfl ?_)|(refine nI ?_;first|refine mX rfl rfl rfl tJ stC rfl rfl ⟨kT,?_⟩|refine fO rfl rfl jN aCG tJ aCL rfl rfl ⟨kT,?_⟩)|(refine lH ?_;first|refine fG rfl ?_|refine eF rfl ?_|refine oK rfl (by omega) ?_|refine sP rfl (by omega) ?_)));exact hh.out)):p:=w ⟨h⟩
end Go.Fx
