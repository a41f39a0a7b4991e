/- slices.Backward at slices of uint32: its contract, and the functions that range over it. -/
import Derived.RangeFuncNested
import Derived.RangeFuncBound
import Derived.RangeFuncCalls
import Derived.RangeFuncLeaves
import Derived.Shelf.Abstract
import Derived.WalkKit
import Derived.OwnWalkIn
import Derived.TacticsInMore
import Derived.LoopNIn
import Derived.LoopIn
import Derived.Test.YthhldplegmeolaaGreatZuah
import Derived.Test.YthhldplegmeolaaGreatZuae
import Derived.Test.YthhldplegmeolaaGreatZuag
import Derived.Test.YthhldplegmeolaaGreatZuaf
set_option linter.unusedSimpArgs false
set_option linter.unusedVariables false
set_option maxRecDepth 100000
set_option maxHeartbeats 4000000
namespace Go.Proofs.YthhldplegmeolaaGreat
open Go Go.Fx Go.RowKit Go.Shelf
attribute [local go_sem] Oper.semAt_some
abbrev Dg (zs:List Int):={j:Nat // j < zs.length}
def tV (zs:List Int):Nat→List (Dg zs)
 |0=>[]
 |k+1=>tV zs k++(if h:zs.length - 1 - k < zs.length then [⟨zs.length - 1 - k,h⟩] else [])
theorem qX {zs:List Int} {k:Nat} (h:k < zs.length):tV zs (k+1)=tV zs k++[⟨zs.length - 1 - k,by omega⟩]:=by rw [tV,dif_pos (by omega)]
theorem yN {zs:List Int}:∀{k:Nat},k≤zs.length→(tV zs k).length=k
 |0,_=>rfl
 |k+1,h=>by rw [qX (by omega),List.length_append,yN (by omega)];rfl
def dgE (zs:List Int) (x:Dg zs):Array Value:=#[.int .i64 (x.1:Int), .int .u32 (zs[x.1]?.getD 0)]
structure KpB (n₀ Bs:Nat) (A B:World):Prop where
 below:Below n₀ A B
 box:∀v,A.cell? ⟨Bs,0,none⟩=some v→B.cell? ⟨Bs,0,none⟩=some v
theorem KpB.refl (n₀ Bs:Nat) (A:World):KpB n₀ Bs A A:=⟨Below.refl _ _,fun _ h=>h⟩
theorem KpB.trans {n₀ Bs:Nat} {A B C:World} (h:KpB n₀ Bs A B) (k:KpB n₀ Bs B C):KpB n₀ Bs A C:=⟨h.below.trans k.below,fun v hv=>k.box v (h.box v hv)⟩
theorem aNV {n₀ Bs:Nat} {w:World} (hn:n₀≤w.heap.size) (W:World) (l:Nat) (o o':Obj) (hl:w.heap.size≤l) (h:W.heap[l]?=some o) (hc:o.isCells=false) (hw:o.isWalk=false):KpB n₀ Bs W (W.putObj l o'):=
 ⟨belowK_b hn W l o o' hl h hc hw,fun _ hv=>cell_kept hv (grownBy_putObj' W l o') (fun r e=>by cases e;exact ⟨o,h,hc⟩)⟩
theorem aAK {W:World} {B:Nat} {v:Value} {t:TypeId} (h:W.heap[B]?=some (.cells #[v] t (0,0))):W.cell? ⟨B,0,none⟩=some v∧W.frozen? ⟨B,0,none⟩=false:=by
 constructor <;>simp [World.cell?,World.frozen?,h]
theorem mP (W:World) (v:Value) (t:TypeId):(W.alloc (.cells #[v] t)).cell? ⟨W.heap.size,0,none⟩=some v∧(W.alloc (.cells #[v] t)).frozen? ⟨W.heap.size,0,none⟩=false:=
 aAK (World.alloc_heap_new W _)
theorem mI {W:World} {a:Addr} {v:Value} (o:Obj) (h:W.cell? a=some v):(W.alloc o).cell? a=some v:=cell_kept h (World.grownBy_alloc W o none) (fun r e=>by cases e)
theorem mF {W:World} {a:Addr} {v:Value} (o:Obj) (h:W.cell? a=some v) (hf:W.frozen? a=false):(W.alloc o).frozen? a=false:=(frozen_kept h (World.grownBy_alloc W o none) (fun r e=>by cases e)).trans hf
theorem Ext.of_below {w w':World} (h:Below w.heap.size w w'):Ext [] w w':=⟨h.os,h.tape,h.output,h.size,fun k hk _=>h.block k hk⟩
theorem aME (F:Fence) (n:Nat) (h:F.fn 155) (hro:F.round=none) (hn:1≤n) (l Bs n₀ b off cap:Nat) (zs:List Int) (hreach:zs.length*4≤140737488351232) (hb:b < n₀) (J Jx:List (Dg zs)→World→Prop)
  (hY:∀pre x W,J pre W→pre.length < zs.length→YieldAt F (n - 1) Tryz.prog l (dgE zs x) W fun e W'=>
   (e= .returned (.bool true)∧J (pre++[x]) W'∧KpB n₀ Bs W W')∨(e= .returned (.bool false)∧Jx (pre++[x]) W'))
  (W:World) (hBs:W.cell? ⟨Bs,0,none⟩=some (.slice (some ⟨b,off,none⟩) zs.length cap)) (hc:∀j,j < zs.length→W.cell? ⟨b,off+j,none⟩=some (.int .u32 (zs[j]?.getD 0))) (h0:J [] W):
  CallsIn F n Tryz.prog 155 #[.func (.yield l) #[] #[], .pointer (some ⟨Bs,0,none⟩)] W fun e W'=>(∃v,e= .returned v)∧
   ((∃ys,ys=tV zs zs.length∧J ys W')∨(∃pre,(∃k,k≤zs.length∧pre=tV zs k)∧Jx pre W')):=by
 refine callsIn_of_wp Tryz.func155 rfl h ?_ hro
 simp only [Tryz.ntmps155,List.size_toArray,List.length_cons,List.length_nil,Nat.reduceAdd,Nat.reduceSub,Array.replicate_succ,Array.replicate_zero,List.push_toArray,List.append_toArray,List.nil_append,List.cons_append]
 gi_wp2
 gi_loopw [3] (fun i wr=>∃k:Nat,k≤zs.length∧i= .int .i64 ((zs.length:Int) - 1 - k)∧J (tV zs k) wr∧KpB n₀ Bs W wr)
  (fun i _=>(intOf i+1).toNat)
 case atStart=>exact ⟨0,Nat.zero_le _,by simp,h0,KpB.refl _ _ _⟩
 case round=>
  obtain ⟨k,hk,rfl,hJs,hnx⟩:=hrel
  have hBs':wr.cell? ⟨Bs,0,none⟩=some (.slice (some ⟨b,off,none⟩) zs.length cap):=hnx.box _ hBs
  have hcx:k < zs.length→wr.cell? ⟨b,off+(zs.length - 1 - k),none⟩=some (.int .u32 (zs[zs.length - 1 - k]?.getD 0)):=fun h=>(hnx.below.cell (p:=⟨b,off+(zs.length - 1 - k),none⟩) hb).trans (hc _ (by omega))
  by_cases hlt:k < zs.length
  ·obtain ⟨fn,tmps,assign,body,hy,hR⟩:=hY _ ⟨zs.length - 1 - k,by omega⟩ wr hJs (by rw [yN hk];exact hlt)
   dsimp only [dgE] at hy
   have hcx':=hcx hlt
   have hidx:(zs.length:Int) - 1 - k=((zs.length - 1 - k:Nat):Int):=by omega
   rw [hidx]
   gi_wp2
   refine hR.mono ?_
   rintro e W3 (⟨rfl,hJ3,hk3⟩|⟨rfl,hJx3⟩)
   ·gi_wp2
    go_roundw
    case rel=>exact ⟨k+1,by omega,by simp;omega,by rw [qX hlt];exact hJ3,hnx.trans hk3⟩
    case measure=>simp [intOf]
   ·gi_wp2
    refine bodyPost_ret (results_none rfl _ _ _) rfl ?_
    exact ⟨⟨_,rfl⟩, .inr ⟨_,⟨k+1,by omega,(qX hlt).symm⟩,hJx3⟩⟩
  ·obtain rfl:k=zs.length:=by omega
   gi_wp2
   go_end0
   exact ⟨⟨_,rfl⟩, .inl ⟨_,rfl,hJs⟩⟩
theorem aCW (F:Fence) (n:Nat) (h:F.fn 155) (hro:F.round=none) (l Bs c:Nat) {α:Type} (a:Option Addr) (J:List α→World→Prop) (W:World) (hBs:W.cell? ⟨Bs,0,none⟩=some (.slice a 0 c)) (h0:J [] W):
  CallsIn F n Tryz.prog 155 #[.func (.yield l) #[] #[], .pointer (some ⟨Bs,0,none⟩)] W fun e W'=>(∃v,e= .returned v)∧J [] W':=by
 refine callsIn_of_wp Tryz.func155 rfl h ?_ hro
 simp only [Tryz.ntmps155,List.size_toArray,List.length_cons,List.length_nil,Nat.reduceAdd,Nat.reduceSub,Array.replicate_succ,Array.replicate_zero,List.push_toArray,List.append_toArray,List.nil_append,List.cons_append]
 gi_wp2
 gi_loopw [3] (fun i wr=>i= .int .i64 (-1)∧J [] wr) (fun _ _=>0)
 case atStart=>exact ⟨rfl,h0⟩
 case round=>
  obtain ⟨rfl,hJs⟩:=hrel
  gi_wp2
  go_end0
  exact ⟨⟨_,rfl⟩,hJs⟩
theorem yG (F:Fence) (n:Nat) (h:F.fn 128) (hro:F.round=none) (a:Option Addr) (len cap:Nat) (w:World):
  CallsIn F n Tryz.prog 128 #[.slice a len cap] w fun e w'=>e= .returned (.func (.func 155) #[] #[.pointer (some ⟨w.heap.size,0,none⟩)])∧w'=w.alloc (.cells #[.slice a len cap] 32):=by
 refine callsIn_of_wp Tryz.func128 rfl h ?_ hro
 simp only [Tryz.ntmps128,List.size_toArray,List.length_cons,List.length_nil,Nat.reduceAdd,Nat.reduceSub,Array.replicate_succ,Array.replicate_zero,List.push_toArray,List.append_toArray,List.nil_append,List.cons_append]
 gi_wp2
 go_ret
 exact ⟨rfl,rfl⟩
theorem uI {w:World} {b off:Nat} {zs:List Int} (h:Sl [] w (some ⟨b,off,none⟩) (recs eG zs)):∀j,j < zs.length→w.cell? ⟨b,off+j,none⟩=some (.int .u32 (zs[j]?.getD 0)):=by
 intro j hj
 have h1:(recs eG zs)[j]?=some (.int .u32 (zs[j]?.getD 0)):=by
  rw [oH,List.getElem?_map]
  simp [hj]
 exact (h j _ h1).2.2
theorem aAG (F:Fence) (n:Nat) (h:F.fn 155) (hro:F.round=none) (hn:1≤n) (Bs n₀:Nat) (a:Option Addr) (cap:Nat) (zs:List Int) (hreach:zs.length*4≤140737488351232) (w:World) (hBs:Bs < w.heap.size) (hn₀:n₀≤w.heap.size)
  (hc:w.cell? ⟨Bs,0,none⟩=some (.slice a zs.length cap)) (hI:Sl [] w a (recs eG zs)) (hlt:0 < zs.length→∀b,a.map (·.block)=some b→b < n₀):
  SeqStopsK F n Tryz.prog 155 #[.pointer (some ⟨Bs,0,none⟩)] (dgE zs) (KpB n₀ Bs) (fun ys=>ys=tV zs zs.length) (fun pre=>∃k,k≤zs.length∧pre=tV zs k) zs.length w:=fun l J Jx W hW _ _ hY h0=>by
 have hc':=(hW.cell (p:=⟨Bs,0,none⟩) (show Bs < w.heap.size from hBs)).trans hc
 by_cases hz:zs.length=0
 ·rw [hz] at hc'
  exact (aCW F n h hro l Bs cap a J W hc' h0).mono fun e W' ⟨he,hj⟩=>⟨he, .inl ⟨_,by rw [hz];rfl,hj⟩⟩
 ·obtain ⟨b,off,rfl⟩:=(Sl.ok hI (by rw [fH];omega)).cases
  have hb:b < n₀:=hlt (by omega) b rfl
  have hcs:=uI hI
  refine (aME F n h hro hn l Bs n₀ b off cap zs hreach hb J Jx hY W hc' (fun j hj=>(hW.cell (p:=⟨b,off+j,none⟩) (show b < w.heap.size from Nat.lt_of_lt_of_le hb hn₀)).trans (hcs j hj)) h0).mono ?_
  rintro e W' ⟨he,⟨ys,rfl,hj⟩|⟨pre,⟨k,hk,rfl⟩,hj⟩⟩
  ·exact ⟨he, .inl ⟨_,rfl,hj⟩⟩
  ·exact ⟨he, .inr ⟨_,⟨k,hk,rfl⟩,hj⟩⟩
def wdS (s g:Int):Int:=IntKind.u64.wrap (IntKind.u64.wrap (s*1000000000)+IntKind.u64.wrap g)
def wdF (zs:List Int) (pre:List (Dg zs)):Int:=pre.foldl (fun s x=>wdS s (zs[x.1]?.getD 0)) 0
theorem aNH (zs:List Int) (pre:List (Dg zs)) (x:Dg zs):wdF zs (pre++[x])=wdS (wdF zs pre) (zs[x.1]?.getD 0):=by simp [wdF]
theorem aPY (a:Option Addr) (cap:Nat) (zs:List Int) (w:World) (hz:zs.length≤2) (hI:Sl [] w a (recs eG zs)) (hlt:0 < zs.length→∀b,a.map (·.block)=some b→b < w.heap.size):
  CallsIn Fence.wide 5 Tryz.prog 124 #[.slice a zs.length cap] w fun e w'=>e= .returned (.tuple #[.int .u64 (wdF zs (tV zs zs.length)), .bool true])∧Below w.heap.size w w':=by
 refine callsIn_of_wp_marks Tryz.func124 rfl trivial ?_ rfl
 simp only [Tryz.ntmps124,List.size_toArray,List.length_cons,List.length_nil,Nat.reduceAdd,Nat.reduceSub,Array.replicate_succ,Array.replicate_zero,List.push_toArray,List.append_toArray,List.nil_append,List.cons_append]
 have hz':¬(2 < (zs.length:Int)):=by omega
 gi_wp2_with (refine ⟨trivial,?_⟩;gi_at_call 128;refine (yG Fence.wide _ trivial rfl _ _ _ _).mono ?_;rintro e w' ⟨rfl,rfl⟩)
 have hs:=mP w (.int .u64 0) 106
 have hb:=mP (w.alloc (.cells #[.int .u64 0] 106)) (.slice a zs.length cap) 32
 rw [World.size_alloc] at hb
 have hBl:Below w.heap.size w ((w.alloc (.cells #[.int .u64 0] 106)).alloc (.cells #[.slice a zs.length cap] 32)):=((Below.refl _ w).alloc (Nat.le_refl _) _).alloc (by simp) _
 have hI2:=Sl.mono hI (Ext.of_below hBl)
 refine wpIn_rangeFunc_ownG rfl (by decide) (gf:=155) (lb:=#[.pointer (some ⟨w.heap.size+1,0,none⟩)]) rfl trivial (enters_of Tryz.func155 (by kernel_rfl) rfl)
  (aAG Fence.wide (5 - 1) trivial rfl (by decide) (w.heap.size+1) w.heap.size a cap zs (by omega) _ (by simp) (by simp;omega) hb.1 hI2 hlt) KpB.trans (aNV (by simp;omega)) (Below.refl _ _) (fun _=>rfl)
  (fun pre W=>(W.cell? ⟨w.heap.size,0,none⟩=some (.int .u64 (wdF zs pre))∧W.frozen? ⟨w.heap.size,0,none⟩=false)∧Below w.heap.size w W)
  (fun _ _ _=>False)
  (OwnFrom.and (Own.from (fun s A B row hs hg hr=>⟨cell_kept hs.1 hg hr,(frozen_kept hs.1 hg hr).trans hs.2⟩) _) (ownFrom_below (Nat.le_refl _) (by simp;omega)))
  (fun _ _ _ _ _ hs _ _=>hs) ⟨⟨mI _ hs.1,mF _ hs.1 hs.2⟩,hBl⟩ ?a1 ?assign ?body ?done ?stop
 case assign=>
  intro l x W K hK
  dsimp only [dgE]
  gi_wp2
  exact hK
 case body=>
  rintro l pre x W ⟨⟨hc,hf⟩,hB⟩ hpl
  gi_wp2
  refine ⟨(KeepsOthers.setCell _ _ _).from _,⟨(Below.refl w.heap.size W).setCell (p:=⟨w.heap.size,0,none⟩) (Nat.le_refl _) _,fun v hv=>(World.cell?_setCell_other _ _ _ _ (by simp)).trans hv⟩,⟨?_,by rw [World.frozen?_setCell];exact hf⟩,hB.setCell (p:=⟨w.heap.size,0,none⟩) (Nat.le_refl _) _⟩
  rw [aNH]
  exact World.cell?_setCell_same' _ _ _ (by rw [hc];rfl)
 case done=>
  rintro D ys W hD rfl ⟨⟨hc,hf⟩,hB⟩ hK
  gi_wp2
  refine ⟨by simp, .inl ⟨_,_,rfl,run_takeDeferred hK,?_⟩⟩
  refine ⟨_,results_tmp2 rfl _ _ _,rfl,?_⟩
  exact hB.trans (belowK_b (w:=w) (Nat.le_refl _) W D _ _ (by simp at hD;omega) hK rfl rfl)
 case stop=>
  rintro D c pre W _ _ h _
  exact h.elim
theorem aIM {w:World} {a:Option Addr} {zs:List Int} (h:Sl [] w a (recs eG zs)):0 < zs.length→∀b,a.map (·.block)=some b→b < w.heap.size:=by
 intro hz b hb
 obtain ⟨b',off,rfl⟩:=(Sl.ok h (by rw [fH];omega)).cases
 have h1:=uI h 0 hz
 simp only [Option.map_some,Option.some.injEq] at hb
 subst hb
 by_cases hlt:b' < w.heap.size
 ·exact hlt
 ·exfalso
  unfold World.cell? at h1
  rw [Array.getElem?_eq_none (by simpa using hlt)] at h1
  simp at h1
theorem aAI {P:Program} {fn:Func} {a:Tmp} {t:TypeId} {tmps:Array Value} {w:World} {b:Nat} {v:Value} [ht:ScalarTy P t] (h:fn.results=#[.cell a t]) (hb:tmps.getD a undef= .pointer (some ⟨b,0,none⟩)) (hc:w.cell? ⟨b,0,none⟩=some v):
  (results fn tmps).run P w= .ok v w:=by
 have hb':tmps[a]?.getD undef= .pointer (some ⟨b,0,none⟩):=by simpa using hb
 simp [results,h,hb',asAddr,loadVar,mJ,hc]
def dY (x y:Int):Int:=if x < y then -1 else if y < x then 1 else 0
theorem aMH (x:Int) (w:World):Ret Tryz.prog 127 [.int .i64 x] w (fun v w'=>w=w'∧v= .bool false):=by
 refine enter Tryz.func127 rfl Tryz.ntmps127 rfl ?_
 repeat (first|refine pV ?_|refine jA ?_|refine qE ?_|refine mQ ?_|refine kD ?_|refine kE ?_|refine mX ?_|refine mU ?_|refine kG ?_|refine jV ?_|refine qD ?_|refine qY ?_|refine pX ?_|refine qU rfl ?_|refine qJ ?_|refine nA rfl rfl rfl ?_|refine lG rfl rfl rfl ?_|refine fZ rfl (aZ rfl) rfl rfl ?_|refine fZ rfl (bM rfl) rfl rfl ?_|refine fZ rfl (bL rfl rfl (by first|exact wrap_i64 (by omega)|exact wrap_u64 (by omega)|exact wrap_u32 (by omega)|exact wrap_u8 (by omega))) rfl rfl ?_|refine fZ rfl (bK rfl rfl (by first|exact wrap_i64 (by omega)|exact wrap_u64 (by omega)|exact wrap_u32 (by omega)|exact wrap_u8 (by omega))) rfl rfl ?_)
 exact rF (.inl rfl) rfl rfl ⟨rfl,congrArg Value.bool (aW (by omega))⟩
theorem aLZ (x y:Int) (w:World):Ret Tryz.prog 90 [.int .i64 x, .int .i64 y] w (fun v w'=>w=w'∧v= .int .i64 (dY x y)):=by
 refine enter Tryz.func90 rfl Tryz.ntmps90 rfl ?_
 repeat (first|refine pV ?_|refine jA ?_|refine qE ?_|refine mQ ?_|refine kD ?_|refine kE ?_|refine mX ?_|refine mU ?_|refine kG ?_|refine jV ?_|refine qD ?_|refine qY ?_|refine pX ?_|refine qU rfl ?_|refine qJ ?_|refine nA rfl rfl rfl ?_|refine lG rfl rfl rfl ?_|refine fZ rfl (aZ rfl) rfl rfl ?_|refine fZ rfl (bM rfl) rfl rfl ?_|refine fZ rfl (bL rfl rfl (by first|exact wrap_i64 (by omega)|exact wrap_u64 (by omega)|exact wrap_u32 (by omega)|exact wrap_u8 (by omega))) rfl rfl ?_|refine fZ rfl (bK rfl rfl (by first|exact wrap_i64 (by omega)|exact wrap_u64 (by omega)|exact wrap_u32 (by omega)|exact wrap_u8 (by omega))) rfl rfl ?_)
 (refine aMD rfl (sN rfl (aMH x w)) rfl rfl ?_;rintro _ w' ⟨rfl,rfl⟩)
 refine ⟨trivial,?_⟩
 repeat (first|refine pV ?_|refine jA ?_|refine qE ?_|refine mQ ?_|refine kD ?_|refine kE ?_|refine mX ?_|refine mU ?_|refine kG ?_|refine jV ?_|refine qD ?_|refine qY ?_|refine pX ?_|refine qU rfl ?_|refine qJ ?_|refine nA rfl rfl rfl ?_|refine lG rfl rfl rfl ?_|refine fZ rfl (aZ rfl) rfl rfl ?_|refine fZ rfl (bM rfl) rfl rfl ?_|refine fZ rfl (bL rfl rfl (by first|exact wrap_i64 (by omega)|exact wrap_u64 (by omega)|exact wrap_u32 (by omega)|exact wrap_u8 (by omega))) rfl rfl ?_|refine fZ rfl (bK rfl rfl (by first|exact wrap_i64 (by omega)|exact wrap_u64 (by omega)|exact wrap_u32 (by omega)|exact wrap_u8 (by omega))) rfl rfl ?_)
 (refine aMD rfl (sN rfl (aMH y w)) rfl rfl ?_;rintro _ w' ⟨rfl,rfl⟩)
 refine ⟨trivial,?_⟩
 unfold dY
 by_cases h1:x < y
 ·rw [if_pos h1]
  repeat' (first|refine pV ?_|refine jA ?_|refine qE ?_|refine mQ ?_|refine kD ?_|refine kE ?_|refine mX ?_|refine mU ?_|refine kG ?_|refine jV ?_|refine qD ?_|refine qY ?_|refine pX ?_|refine qU rfl ?_|refine qJ ?_|refine nA rfl rfl rfl ?_|refine lG rfl rfl rfl ?_|refine fZ rfl (aZ rfl) rfl rfl ?_|refine fZ rfl (bM rfl) rfl rfl ?_|refine fZ rfl (bL rfl rfl (by first|exact wrap_i64 (by omega)|exact wrap_u64 (by omega)|exact wrap_u32 (by omega)|exact wrap_u8 (by omega))) rfl rfl ?_|refine fZ rfl (bK rfl rfl (by first|exact wrap_i64 (by omega)|exact wrap_u64 (by omega)|exact wrap_u32 (by omega)|exact wrap_u8 (by omega))) rfl rfl ?_|refine yU rfl (by omega) ?_|refine aGE rfl (by omega) ?_|refine wO rfl rfl (by omega) ?_|refine wQ rfl rfl (by omega) ?_|refine aAW rfl (fun h=>?_) (fun h=>?_)|refine jQ rfl ?_|refine jD rfl ?_|refine vO rfl rfl (fun h=>?_) (fun h=>?_))
  exact rF (.inl rfl) rfl rfl ⟨rfl,rfl⟩
 ·rw [if_neg h1]
  by_cases h2:y < x
  ·rw [if_pos h2]
   repeat' (first|refine pV ?_|refine jA ?_|refine qE ?_|refine mQ ?_|refine kD ?_|refine kE ?_|refine mX ?_|refine mU ?_|refine kG ?_|refine jV ?_|refine qD ?_|refine qY ?_|refine pX ?_|refine qU rfl ?_|refine qJ ?_|refine nA rfl rfl rfl ?_|refine lG rfl rfl rfl ?_|refine fZ rfl (aZ rfl) rfl rfl ?_|refine fZ rfl (bM rfl) rfl rfl ?_|refine fZ rfl (bL rfl rfl (by first|exact wrap_i64 (by omega)|exact wrap_u64 (by omega)|exact wrap_u32 (by omega)|exact wrap_u8 (by omega))) rfl rfl ?_|refine fZ rfl (bK rfl rfl (by first|exact wrap_i64 (by omega)|exact wrap_u64 (by omega)|exact wrap_u32 (by omega)|exact wrap_u8 (by omega))) rfl rfl ?_|refine yU rfl (by omega) ?_|refine aGE rfl (by omega) ?_|refine wO rfl rfl (by omega) ?_|refine wQ rfl rfl (by omega) ?_|refine aAW rfl (fun h=>?_) (fun h=>?_)|refine jQ rfl ?_|refine jD rfl ?_|refine vO rfl rfl (fun h=>?_) (fun h=>?_))
   exact rF (.inl rfl) rfl rfl ⟨rfl,rfl⟩
  ·rw [if_neg h2]
   repeat' (first|refine pV ?_|refine jA ?_|refine qE ?_|refine mQ ?_|refine kD ?_|refine kE ?_|refine mX ?_|refine mU ?_|refine kG ?_|refine jV ?_|refine qD ?_|refine qY ?_|refine pX ?_|refine qU rfl ?_|refine qJ ?_|refine nA rfl rfl rfl ?_|refine lG rfl rfl rfl ?_|refine fZ rfl (aZ rfl) rfl rfl ?_|refine fZ rfl (bM rfl) rfl rfl ?_|refine fZ rfl (bL rfl rfl (by first|exact wrap_i64 (by omega)|exact wrap_u64 (by omega)|exact wrap_u32 (by omega)|exact wrap_u8 (by omega))) rfl rfl ?_|refine fZ rfl (bK rfl rfl (by first|exact wrap_i64 (by omega)|exact wrap_u64 (by omega)|exact wrap_u32 (by omega)|exact wrap_u8 (by omega))) rfl rfl ?_|refine yU rfl (by omega) ?_|refine aGE rfl (by omega) ?_|refine wO rfl rfl (by omega) ?_|refine wQ rfl rfl (by omega) ?_|refine aAW rfl (fun h=>?_) (fun h=>?_)|refine jQ rfl ?_|refine jD rfl ?_|refine vO rfl rfl (fun h=>?_) (fun h=>?_))
   exact rF (.inl rfl) rfl rfl ⟨rfl,rfl⟩
theorem aLT (x:Int) (w:World):Ret Tryz.prog 156 [.int .u32 x] w (fun v w'=>w=w'∧v= .bool false):=by
 refine enter Tryz.func156 rfl Tryz.ntmps156 rfl ?_
 repeat (first|refine pV ?_|refine jA ?_|refine qE ?_|refine mQ ?_|refine kD ?_|refine kE ?_|refine mX ?_|refine mU ?_|refine kG ?_|refine jV ?_|refine qD ?_|refine qY ?_|refine pX ?_|refine qU rfl ?_|refine qJ ?_|refine nA rfl rfl rfl ?_|refine lG rfl rfl rfl ?_|refine fZ rfl (aZ rfl) rfl rfl ?_|refine fZ rfl (bM rfl) rfl rfl ?_|refine fZ rfl (bL rfl rfl (by first|exact wrap_i64 (by omega)|exact wrap_u64 (by omega)|exact wrap_u32 (by omega)|exact wrap_u8 (by omega))) rfl rfl ?_|refine fZ rfl (bK rfl rfl (by first|exact wrap_i64 (by omega)|exact wrap_u64 (by omega)|exact wrap_u32 (by omega)|exact wrap_u8 (by omega))) rfl rfl ?_)
 exact rF (.inl rfl) rfl rfl ⟨rfl,congrArg Value.bool (aW (by omega))⟩
theorem aSW (x y:Int) (w:World):Ret Tryz.prog 129 [.int .u32 x, .int .u32 y] w (fun v w'=>w=w'∧v= .int .i64 (dY x y)):=by
 refine enter Tryz.func129 rfl Tryz.ntmps129 rfl ?_
 repeat (first|refine pV ?_|refine jA ?_|refine qE ?_|refine mQ ?_|refine kD ?_|refine kE ?_|refine mX ?_|refine mU ?_|refine kG ?_|refine jV ?_|refine qD ?_|refine qY ?_|refine pX ?_|refine qU rfl ?_|refine qJ ?_|refine nA rfl rfl rfl ?_|refine lG rfl rfl rfl ?_|refine fZ rfl (aZ rfl) rfl rfl ?_|refine fZ rfl (bM rfl) rfl rfl ?_|refine fZ rfl (bL rfl rfl (by first|exact wrap_i64 (by omega)|exact wrap_u64 (by omega)|exact wrap_u32 (by omega)|exact wrap_u8 (by omega))) rfl rfl ?_|refine fZ rfl (bK rfl rfl (by first|exact wrap_i64 (by omega)|exact wrap_u64 (by omega)|exact wrap_u32 (by omega)|exact wrap_u8 (by omega))) rfl rfl ?_)
 (refine aMD rfl (sN rfl (aLT x w)) rfl rfl ?_;rintro _ w' ⟨rfl,rfl⟩)
 refine ⟨trivial,?_⟩
 repeat (first|refine pV ?_|refine jA ?_|refine qE ?_|refine mQ ?_|refine kD ?_|refine kE ?_|refine mX ?_|refine mU ?_|refine kG ?_|refine jV ?_|refine qD ?_|refine qY ?_|refine pX ?_|refine qU rfl ?_|refine qJ ?_|refine nA rfl rfl rfl ?_|refine lG rfl rfl rfl ?_|refine fZ rfl (aZ rfl) rfl rfl ?_|refine fZ rfl (bM rfl) rfl rfl ?_|refine fZ rfl (bL rfl rfl (by first|exact wrap_i64 (by omega)|exact wrap_u64 (by omega)|exact wrap_u32 (by omega)|exact wrap_u8 (by omega))) rfl rfl ?_|refine fZ rfl (bK rfl rfl (by first|exact wrap_i64 (by omega)|exact wrap_u64 (by omega)|exact wrap_u32 (by omega)|exact wrap_u8 (by omega))) rfl rfl ?_)
 (refine aMD rfl (sN rfl (aLT y w)) rfl rfl ?_;rintro _ w' ⟨rfl,rfl⟩)
 refine ⟨trivial,?_⟩
 unfold dY
 by_cases h1:x < y
 ·rw [if_pos h1]
  repeat' (first|refine pV ?_|refine jA ?_|refine qE ?_|refine mQ ?_|refine kD ?_|refine kE ?_|refine mX ?_|refine mU ?_|refine kG ?_|refine jV ?_|refine qD ?_|refine qY ?_|refine pX ?_|refine qU rfl ?_|refine qJ ?_|refine nA rfl rfl rfl ?_|refine lG rfl rfl rfl ?_|refine fZ rfl (aZ rfl) rfl rfl ?_|refine fZ rfl (bM rfl) rfl rfl ?_|refine fZ rfl (bL rfl rfl (by first|exact wrap_i64 (by omega)|exact wrap_u64 (by omega)|exact wrap_u32 (by omega)|exact wrap_u8 (by omega))) rfl rfl ?_|refine fZ rfl (bK rfl rfl (by first|exact wrap_i64 (by omega)|exact wrap_u64 (by omega)|exact wrap_u32 (by omega)|exact wrap_u8 (by omega))) rfl rfl ?_|refine yU rfl (by omega) ?_|refine aGE rfl (by omega) ?_|refine wO rfl rfl (by omega) ?_|refine wQ rfl rfl (by omega) ?_|refine aAW rfl (fun h=>?_) (fun h=>?_)|refine jQ rfl ?_|refine jD rfl ?_|refine vO rfl rfl (fun h=>?_) (fun h=>?_))
  exact rF (.inl rfl) rfl rfl ⟨rfl,rfl⟩
 ·rw [if_neg h1]
  by_cases h2:y < x
  ·rw [if_pos h2]
   repeat' (first|refine pV ?_|refine jA ?_|refine qE ?_|refine mQ ?_|refine kD ?_|refine kE ?_|refine mX ?_|refine mU ?_|refine kG ?_|refine jV ?_|refine qD ?_|refine qY ?_|refine pX ?_|refine qU rfl ?_|refine qJ ?_|refine nA rfl rfl rfl ?_|refine lG rfl rfl rfl ?_|refine fZ rfl (aZ rfl) rfl rfl ?_|refine fZ rfl (bM rfl) rfl rfl ?_|refine fZ rfl (bL rfl rfl (by first|exact wrap_i64 (by omega)|exact wrap_u64 (by omega)|exact wrap_u32 (by omega)|exact wrap_u8 (by omega))) rfl rfl ?_|refine fZ rfl (bK rfl rfl (by first|exact wrap_i64 (by omega)|exact wrap_u64 (by omega)|exact wrap_u32 (by omega)|exact wrap_u8 (by omega))) rfl rfl ?_|refine yU rfl (by omega) ?_|refine aGE rfl (by omega) ?_|refine wO rfl rfl (by omega) ?_|refine wQ rfl rfl (by omega) ?_|refine aAW rfl (fun h=>?_) (fun h=>?_)|refine jQ rfl ?_|refine jD rfl ?_|refine vO rfl rfl (fun h=>?_) (fun h=>?_))
   exact rF (.inl rfl) rfl rfl ⟨rfl,rfl⟩
  ·rw [if_neg h2]
   repeat' (first|refine pV ?_|refine jA ?_|refine qE ?_|refine mQ ?_|refine kD ?_|refine kE ?_|refine mX ?_|refine mU ?_|refine kG ?_|refine jV ?_|refine qD ?_|refine qY ?_|refine pX ?_|refine qU rfl ?_|refine qJ ?_|refine nA rfl rfl rfl ?_|refine lG rfl rfl rfl ?_|refine fZ rfl (aZ rfl) rfl rfl ?_|refine fZ rfl (bM rfl) rfl rfl ?_|refine fZ rfl (bL rfl rfl (by first|exact wrap_i64 (by omega)|exact wrap_u64 (by omega)|exact wrap_u32 (by omega)|exact wrap_u8 (by omega))) rfl rfl ?_|refine fZ rfl (bK rfl rfl (by first|exact wrap_i64 (by omega)|exact wrap_u64 (by omega)|exact wrap_u32 (by omega)|exact wrap_u8 (by omega))) rfl rfl ?_|refine yU rfl (by omega) ?_|refine aGE rfl (by omega) ?_|refine wO rfl rfl (by omega) ?_|refine wQ rfl rfl (by omega) ?_|refine aAW rfl (fun h=>?_) (fun h=>?_)|refine jQ rfl ?_|refine jD rfl ?_|refine vO rfl rfl (fun h=>?_) (fun h=>?_))
   exact rF (.inl rfl) rfl rfl ⟨rfl,rfl⟩
def aAJ (zs ys:List Int):Nat→Int
 |0=>0
 |k+1=>if zs[k]?.getD 0=ys[k]?.getD 0 then aAJ zs ys k else dY (zs[k]?.getD 0) (ys[k]?.getD 0)
def Eqs (zs ys:List Int) (pre:List (Dg zs)):Prop:=∀x∈pre,zs[x.1]?.getD 0=ys[x.1]?.getD 0
theorem yQ {zs ys:List Int}:∀k,k≤zs.length→Eqs zs ys (tV zs k)→aAJ zs ys zs.length=aAJ zs ys (zs.length - k)
 |0,_,_=>rfl
 |k+1,hk,h=>by
  rw [qX (by omega)] at h
  rw [yQ k (by omega) (fun x hx=>h x (List.mem_append.2 (.inl hx)))]
  have e:zs.length - k=zs.length - (k+1)+1:=by omega
  have h1:=h ⟨zs.length - 1 - k,by omega⟩ (by simp)
  have e2:zs.length - 1 - k=zs.length - (k+1):=by omega
  rw [e,aAJ,if_pos (by rw [←e2];exact h1)]
theorem aKT {zs ys:List Int} {pre0:List (Dg zs)} {x:Dg zs} (k:Nat) (hk:k≤zs.length) (hp:tV zs k=pre0++[x]) (hE:Eqs zs ys pre0) (hn:zs[x.1]?.getD 0≠ys[x.1]?.getD 0):
  aAJ zs ys zs.length=dY (zs[x.1]?.getD 0) (ys[x.1]?.getD 0):=by
 match k,hk,hp with
 |0,_,hp=>simp [tV] at hp
 |k+1,hk,hp=>
  rw [qX (by omega)] at hp
  obtain ⟨e1,e2⟩:=List.append_inj' hp rfl
  subst e1
  have e3:x.1=zs.length - 1 - k:=by rw [←(List.cons.inj e2).1]
  have e:zs.length - k=x.1+1:=by omega
  rw [yQ k (by omega) hE,e,aAJ,if_neg hn]
theorem aHG (a b:Option Addr) (cap cap2:Nat) (zs ys:List Int) (w:World) (hz:zs.length*4≤140737488351232) (hlen:ys.length=zs.length) (hI:Sl [] w a (recs eG zs)) (hJ:Sl [] w b (recs eG ys)):
  CallsIn Fence.wide 5 Tryz.prog 91 #[.slice a zs.length cap, .slice b zs.length cap2] w fun e w'=>e= .returned (.int .i64 (aAJ zs ys zs.length))∧Below w.heap.size w w':=by
 refine callsIn_of_wp_marks Tryz.func91 rfl trivial ?_ rfl
 simp only [Tryz.ntmps91,List.size_toArray,List.length_cons,List.length_nil,Nat.reduceAdd,Nat.reduceSub,Array.replicate_succ,Array.replicate_zero,List.push_toArray,List.append_toArray,List.nil_append,List.cons_append]
 gi_wp2_with (refine ⟨trivial,?_⟩;gi_at_call 128;refine (yG Fence.wide _ trivial rfl _ _ _ _).mono ?_;rintro e w' ⟨rfl,rfl⟩)
 have hs3:=mP w (.slice b zs.length cap2) 32
 have hs4:=mP (w.alloc (.cells #[.slice b zs.length cap2] 32)) (.int .i64 0) 3
 have hb:=mP ((w.alloc (.cells #[.slice b zs.length cap2] 32)).alloc (.cells #[.int .i64 0] 3)) (.slice a zs.length cap) 32
 simp only [World.size_alloc] at hb hs4
 have hBl:Below w.heap.size w (((w.alloc (.cells #[.slice b zs.length cap2] 32)).alloc (.cells #[.int .i64 0] 3)).alloc (.cells #[.slice a zs.length cap] 32)):=(((Below.refl _ w).alloc (Nat.le_refl _) _).alloc (by simp) _).alloc (by simp;omega) _
 have hI2:=Sl.mono hI (Ext.of_below hBl)
 refine wpIn_rangeFunc_ownG rfl (by decide) (gf:=155) (lb:=#[.pointer (some ⟨w.heap.size+1+1,0,none⟩)]) rfl trivial (enters_of Tryz.func155 (by kernel_rfl) rfl)
  (aAG Fence.wide (5 - 1) trivial rfl (by decide) (w.heap.size+1+1) w.heap.size a cap zs hz _ (by simp) (by simp;omega) hb.1 hI2 (aIM hI)) KpB.trans (aNV (by simp;omega)) (Below.refl _ _) (fun _=>rfl)
  (fun pre W=>((W.cell? ⟨w.heap.size,0,none⟩=some (.slice b zs.length cap2)∧W.frozen? ⟨w.heap.size,0,none⟩=false)∧(W.cell? ⟨w.heap.size+1,0,none⟩=some (.int .i64 0)∧W.frozen? ⟨w.heap.size+1,0,none⟩=false))∧(Eqs zs ys pre∧Below w.heap.size w W))
  (fun c pre W=>(c= .ret∧∃pre0 x,pre=pre0++[x]∧Eqs zs ys pre0∧zs[x.1]?.getD 0≠ys[x.1]?.getD 0∧W.cell? ⟨w.heap.size+1,0,none⟩=some (.int .i64 (dY (zs[x.1]?.getD 0) (ys[x.1]?.getD 0))))∧Below w.heap.size w W)
  ?hI ?hIx ⟨⟨⟨mI _ (mI _ hs3.1),mF _ (mI _ hs3.1) (mF _ hs3.1 hs3.2)⟩,⟨mI _ hs4.1,mF _ hs4.1 hs4.2⟩⟩,fun x h=>absurd h (by simp),hBl⟩ ?a1 ?assign ?body ?done ?stop
 case hI=>exact OwnFrom.and (Own.from (fun s A B row hs hg hr=>⟨⟨cell_kept hs.1.1 hg hr,(frozen_kept hs.1.1 hg hr).trans hs.1.2⟩,cell_kept hs.2.1 hg hr,(frozen_kept hs.2.1 hg hr).trans hs.2.2⟩) _) (OwnFrom.and (fun _ _ _ _ hs _ _=>hs) (ownFrom_below (Nat.le_refl _) (by simp;omega)))
 case hIx=>exact fun c=>OwnFrom.and (Own.from (fun s A B row hs hg hr=>let ⟨e,pre0,x,hp,hE,hn,hc⟩:=hs;⟨e,pre0,x,hp,hE,hn,cell_kept hc hg hr⟩) _) (ownFrom_below (Nat.le_refl _) (by simp;omega))
 case assign=>
  intro l x W K hK
  dsimp only [dgE]
  gi_wp2
  exact hK
 case body=>
  rintro l pre x W ⟨⟨⟨hc,hf⟩,hc4,hf4⟩,hE,hB⟩ hpl
  have hx:=x.2
  obtain ⟨b',off,rfl⟩:=(Sl.ok hJ (by rw [fH];omega)).cases
  have hcx:W.cell? ⟨b',off+x.1,none⟩=some (.int .u32 (ys[x.1]?.getD 0)):=(hB.cell (p:=⟨b',off+x.1,none⟩) (aIM hJ (by omega) b' rfl)).trans (uI hJ x.1 (by omega))
  gi_wp2_with (refine ⟨trivial,?_⟩;gi_at_call 129;refine (CallsIn.inRound l (callsIn_wide.2 (aSW _ _ _))).mono ?_;rintro e w' ⟨v,rfl,rfl,rfl⟩)
  ·rename_i hne
   have hne':zs[x.1]?.getD 0≠ys[x.1]?.getD 0:=by simpa [hx,show x.1 < ys.length by omega] using hne
   have ez:zs[x.1]=zs[x.1]?.getD 0:=by simp [hx]
   have ey:ys[x.1]'(by omega)=ys[x.1]?.getD 0:=by simp [show x.1 < ys.length by omega]
   refine ⟨(KeepsOthers.setCell _ _ _).from _,⟨rfl,pre,x,rfl,hE,hne',?_⟩,hB.setCell (p:=⟨w.heap.size+1,0,none⟩) (by simp) _⟩
   rw [ez,ey]
   exact World.cell?_setCell_same' _ _ _ (by rw [hc4];rfl)
  ·rename_i hne
   have he:zs[x.1]?.getD 0=ys[x.1]?.getD 0:=by simpa [hx,show x.1 < ys.length by omega] using hne
   refine ⟨KeepsFrom.refl _ _,KpB.refl _ _ _,⟨⟨⟨hc,hf⟩,hc4,hf4⟩,?_,hB⟩⟩
   intro y hy
   rcases List.mem_append.1 hy with hy|hy
   ·exact hE y hy
   ·rw [List.mem_singleton.1 hy];exact he
 case done=>
  rintro D xs W hD rfl ⟨⟨_,hc4,hf4⟩,hE,hB⟩ hK
  gi_wp2
  have hD':w.heap.size+1+1+1≤D:=by simpa using hD
  have hne:(⟨w.heap.size+1,0,none⟩:Addr).block≠D:=by simp;omega
  have hK':(W.setCell ⟨w.heap.size+1,0,none⟩ (.int .i64 0)).heap[D]?=some (.deferred (some [])):=(Below.heap_setCell W _ _ D (by simp;omega)).trans hK
  refine ⟨by simp, .inl ⟨_,_,rfl,run_takeDeferred hK',?_⟩⟩
  have hq:=World.cell?_setCell_same' W ⟨w.heap.size+1,0,none⟩ (.int .i64 0) (by rw [hc4];rfl)
  refine ⟨_,aAI rfl rfl (cell_kept hq (grownBy_putObj' _ D _) (fun r e=>by cases e;exact ⟨_,hK',rfl⟩)),?_,?_⟩
  ·rw [yQ zs.length (Nat.le_refl _) hE,Nat.sub_self];rfl
  ·exact (hB.setCell (p:=⟨w.heap.size+1,0,none⟩) (by simp) _).trans (belowK_b (w:=w) (Nat.le_refl _) _ D _ _ (by omega) hK' rfl rfl)
 case stop=>
  rintro D c pre W hD ⟨k,hk,rfl⟩ ⟨⟨rfl,pre0,x,hp,hE,hne,hc4⟩,hB⟩ hK
  gi_wp2
  have hD':w.heap.size+1+1+1≤D:=by simpa using hD
  refine ⟨by simp, .inl ⟨_,_,rfl,run_takeDeferred hK,?_⟩⟩
  refine ⟨_,aAI rfl rfl (cell_kept hc4 (grownBy_putObj' _ D _) (fun r e=>by cases e;exact ⟨_,hK,rfl⟩)),?_,?_⟩
  ·rw [aKT k hk hp hE hne]
  ·exact hB.trans (belowK_b (w:=w) (Nat.le_refl _) W D _ _ (by omega) hK rfl rfl)
end Go.Proofs.YthhldplegmeolaaGreat
namespace Go.Proofs.YthhldplegmeolaaGreat
open Go Go.Fx Go.RowKit Go.Shelf
attribute [local go_sem] Oper.semAt_some
theorem aEL:∀{zs ys:List Int} (k:Nat),Dig zs→Dig ys→aAJ zs ys k=dY (val (zs.take k)) (val (ys.take k))
 |_,_,0,_,_=>by simp [aAJ,dY,val]
 |zs,ys,k+1,hz,hy=>by
  have h1:=fO hz k
  have h2:=fO hy k
  have h3:=bB (hz.take k)
  have h4:=bB (hy.take k)
  have hp:=gL k
  rw [aAJ,bD,bD,aEL k hz hy]
  have ez:zs[k]?.getD 0=zs.getD k 0:=by simp
  have ey:ys[k]?.getD 0=ys.getD k 0:=by simp
  rw [ez,ey]
  generalize val (zs.take k)=A at*
  generalize val (ys.take k)=C at*
  generalize zs.getD k 0=x at*
  generalize ys.getD k 0=y at*
  generalize (1000000000:Int) ^ k=B at*
  have key:∀x y A C:Int,x < y→0≤A→A < B→0≤C→A+B*x < C+B*y:=fun x y A C h _ _ _=>by
   have:B*(x+1)≤B*y:=Int.mul_le_mul_of_nonneg_left (by omega) (by omega)
   rw [Int.mul_add] at this
   omega
  split
  ·rename_i e
   subst e
   unfold dY
   simp only [Int.add_lt_add_iff_right]
  ·rename_i e
   rcases Int.lt_or_gt_of_ne e with h|h
   ·have:=key x y A C h h3 h1 h4
    unfold dY
    rw [if_pos h,if_pos this]
   ·have:=key y x C A h h4 h2 h3
    unfold dY
    rw [if_neg (by omega),if_pos h,if_neg (by omega),if_pos this]
theorem aCV {s g:Int} (hs:0≤s∧s < 1000000000) (hg:0≤g∧g < 1000000000):wdS s g=s*1000000000+g:=by
 unfold wdS
 rw [wrap_u64 (n:=s*1000000000) (by omega),wrap_u64 (n:=g) (by omega),wrap_u64 (by omega)]
section
variable {X:List Nat} {w0:World} {M0:List Ent} {I0:List aN}
theorem uO {p q:Option Addr} {m n cp cq:Nat} (hm:(gr m).length≤100000000000) (hn:(gr n).length≤100000000000) (hp:aD p (recs eG (gr m))∈I0) (hq:aD q (recs eG (gr n))∈I0):
  CD Tryz.prog 91 [.slice p (gr m).length cp, .slice q (gr n).length cq] X w0 M0 I0 (fun v M I=>M0=M∧I0=I∧v= .int .i64 (dY m n)):=by
 by_cases hl:(gr n).length=(gr m).length
 ·rw [hl]
  refine CD.ext (fun w hw=>Calls.mono (callsIn_wide.1 (aHG p q cp cq (gr m) (gr n) w (by omega) hl ((hw.sl hp).less (by simp)) ((hw.sl hq).less (by simp)))) ?_)
  rintro e w' ⟨rfl,hB⟩
  refine ⟨_,rfl,Ext.of_below hB,?_⟩
  have e:=aEL (gr m).length (bC m) (bC n)
  rw [List.take_length,←hl,List.take_length,bH,bH] at e
  rw [hl] at e
  rw [e]
 ·have hc:dY ((gr m).length:Int) ((gr n).length:Int)=dY m n:=by
   have h1:∀a b:Nat,(gr a).length < (gr b).length→(a:Int) < b:=fun a b h=>by
    have:=aCL (sU a) (sU b) h
    rwa [bH,bH] at this
   rcases Nat.lt_or_gt_of_ne hl with h|h
   ·have:=h1 n m h
    unfold dY
    rw [if_neg (by omega),if_pos (by omega),if_neg (by omega),if_pos (by omega)]
   ·have:=h1 m n h
    unfold dY
    rw [if_pos (by omega),if_pos (by omega)]
  refine dF Tryz.func91 rfl Tryz.ntmps91 rfl ?_
  refine fG ?_
  refine tyX rfl (fun b=>?_)
  refine dG (fun s=>?_)
  repeat refine jK ?_
  (refine bA rfl (CD.same (fun w _=>aLZ _ _ _)) ?_;rintro _ _ _ ⟨rfl,rfl,rfl⟩;refine aU ?_)
  rw [hc]
  repeat refine jK ?_
  exact aOZ (.inl rfl) rfl rfl aQ _ _ bJ bI ⟨rfl,rfl,rfl⟩
theorem xV {q:Option Addr} {n c:Nat} (hn:(gr n).length≤100000000000) (hq:aD q (recs eG (gr n))∈I0):
  CD Tryz.prog 124 [.slice q (gr n).length c] X w0 M0 I0 (fun v M I=>M0=M∧I0=I∧v= .tuple #[.int .u64 (if (gr n).length≤2 then (n:Int) else 0), .bool (B ((gr n).length≤2))]):=by
 by_cases hl:(gr n).length≤2
 ·refine CD.ext (fun w hw=>Calls.mono (callsIn_wide.1 (aPY q c (gr n) w hl ((hw.sl hq).less (by simp)) (aIM ((hw.sl hq).less (by simp))))) ?_)
  rintro e w' ⟨rfl,hB⟩
  refine ⟨_,rfl,Ext.of_below hB,?_⟩
  rw [if_pos hl,bV hl]
  have hd:=bC n
  have hv:=bH n
  congr 4
  revert hl hd hv
  generalize gr n=zs
  intro hl hd hv
  rw [←hv]
  match zs,hl,hd with
  |[],_,_=>simp [tV,wdF,val]
  |[x],_,hd=>
   have:=hd x (by simp)
   have e:wdF [x] (tV [x] [x].length)=wdS 0 x:=rfl
   rw [e,aCV (by omega) this]
   simp [val]
  |[x,y],_,hd=>
   have h1:=hd x (by simp)
   have h2:=hd y (by simp)
   have e:wdF [x,y] (tV [x,y] [x,y].length)=wdS (wdS 0 y) x:=rfl
   rw [e,aCV (by omega) h2,aCV (by omega) h1]
   simp only [val]
   omega
 ·refine dF Tryz.func124 rfl Tryz.ntmps124 rfl ?_
  repeat refine jK ?_
  refine lH [2,3] (by first|exact .inl rfl|exact .inr rfl) rfl rfl rfl _ _ bJ bI (⟨rfl,rfl,by rw [if_neg hl,aW hl]⟩)
end
end Go.Proofs.YthhldplegmeolaaGreat
namespace Go.Fx
theorem gH {p g:Prop} (h:g) (w:BoxP g→p:=by (intro hh;(first|refine aF ?_|refine fJ ?_|refine lQ ?_|refine jI ?_|refine iB ?_|refine gM ?_|refine jJ ?_|refine iW ?_|refine gY ?_|refine gV ?_|refine lY ?_|refine lV ?_|refine mD ?_|refine lU rfl ?_|refine bG ?_|(refine iT ?_;first|refine iV rfl rfl rfl ?_|(refine iQ rfl rfl ?_;refine fV rfl rfl rfl okK ?_)|refine iI rfl rfl (by omega) ?_|refine iK rfl rfl (by omega) ?_)|(refine cK ?_;refine aB rfl (fun _=>dP rfl) rfl rfl ?_)|refine aB rfl (fun _=>aZ rfl) rfl rfl ?_|(refine iP ?_;first|refine aB rfl (fun _=>bL rfl rfl w_) rfl rfl ?_|refine aB rfl (fun _=>bK rfl rfl w_) rfl rfl ?_|refine aB rfl (fun _=>fD rfl rfl w_) rfl rfl ?_|refine aB rfl (fun _=>fE rfl rfl (by omega) q_) rfl rfl ?_|refine aB rfl (fun _=>fC rfl rfl (by omega) rfl) rfl rfl ?_|refine aB rfl (fun _=>dS rfl rfl) rfl rfl ?_|refine aB rfl (fun _=>eX rfl rfl) rfl rfl ?_|refine aB rfl (fun _=>fA rfl rfl) rfl rfl ?_)|(refine cK ?_;first|refine aB rfl (fun _=>eD rfl w_) rfl rfl ?_)|(refine iU ?_;first|refine aB rfl (fun _=>dI rfl w_) rfl rfl ?_)|(refine iX ?_;first|refine aB rfl (fun _=>bM rfl) rfl rfl ?_|refine aB rfl (fun _=>dV rfl rfl) rfl rfl ?_|refine aB rfl (fun _=>dW rfl rfl) rfl rfl ?_|refine aB rfl (fun _=>dX rfl rfl rfl) rfl rfl ?_)|(refine iM ?_;first|refine iN rfl (by decide) rfl rfl ?_|refine kR rfl (by decide) rfl rfl ?_)|(refine iJ ?_;first|refine aB rfl (fun _=>dH rfl) rfl rfl ?_)|(refine iO ?_;first|refine kL rfl rfl jE rfl rfl ?_|refine kM rC rfl rfl jE aQ kT rfl rfl ?_|refine kK rC rfl rfl jE aQ kT rfl rfl ?_|refine aB rfl (fun _=>bZ rfl rfl jE) rfl rfl ?_)|(refine gF ?_;first|refine kQ rC rfl aQ uB rfl rfl ?_|refine kS rC rfl aQ uB rfl rfl ?_|refine kP rC rfl aQ uB rfl rfl ?_|refine iL rC rfl aQ uB rfl rfl ?_|refine nU rC rfl aQ kX iE rfl rfl ?_|refine nV rC rfl aQ kX iE rfl rfl ?_|refine nT rC rfl aQ kX iE rfl rfl ?_|refine mK rC rfl aQ kX iE rfl rfl ?_)|(refine iR ?_;first|refine aB rfl (fun _=>bY rfl rfl) rfl rfl ?_|refine aB rfl (fun _=>bQ rfl) rfl rfl ?_)|(refine kZ ?_;first|refine nS rfl rfl rfl pQ stC rfl rfl ⟨okK,?_⟩|refine iG rfl rfl iE xN pQ xP rfl rfl ⟨okK,?_⟩)|(refine jL ?_;first|refine dJ rfl ?_|refine cO rfl ?_|refine lX rfl (by omega) ?_|refine pM rfl (by omega) ?_));(repeat (first|refine aF ?_|refine fJ ?_|refine lQ ?_|refine jI ?_|refine iB ?_|refine gM ?_|refine jJ ?_|refine iW ?_|refine gY ?_|refine gV ?_|refine lY ?_|refine lV ?_|refine mD ?_|refine lU rfl ?_|refine bG ?_|(refine iT ?_;first|refine iV rfl rfl rfl ?_|(refine iQ rfl rfl ?_;refine fV rfl rfl rfl okK ?_)|refine iI rfl rfl (by omega) ?_|refine iK rfl rfl (by omega) ?_)|(refine cK ?_;refine aB rfl (fun _=>dP rfl) rfl rfl ?_)|refine aB rfl (fun _=>aZ rfl) rfl rfl ?_|(refine iP ?_;first|refine aB rfl (fun _=>bL rfl rfl w_) rfl rfl ?_|refine aB rfl (fun _=>bK rfl rfl w_) rfl rfl ?_|refine aB rfl (fun _=>fD rfl rfl w_) rfl rfl ?_|refine aB rfl (fun _=>fE rfl rfl (by omega) q_) rfl rfl ?_|refine aB rfl (fun _=>fC rfl rfl (by omega) rfl) rfl rfl ?_|refine aB rfl (fun _=>dS rfl rfl) rfl rfl ?_|refine aB rfl (fun _=>eX rfl rfl) rfl rfl ?_|refine aB rfl (fun _=>fA rfl rfl) rfl rfl ?_)|(refine cK ?_;first|refine aB rfl (fun _=>eD rfl w_) rfl rfl ?_)|(refine iU ?_;first|refine aB rfl (fun _=>dI rfl w_) rfl rfl ?_)|(refine iX ?_;first|refine aB rfl (fun _=>bM rfl) rfl rfl ?_|refine aB rfl (fun _=>dV rfl rfl) rfl rfl ?_|refine aB rfl (fun _=>dW rfl rfl) rfl rfl ?_|refine aB rfl (fun _=>dX rfl rfl rfl) rfl rfl ?_)|(refine iM ?_;first|refine iN rfl (by decide) rfl rfl ?_|refine kR rfl (by decide) rfl rfl ?_)|(refine iJ ?_;first|refine aB rfl (fun _=>dH rfl) rfl rfl ?_)|(refine iO ?_;first|refine kL rfl rfl jE rfl rfl ?_|refine kM rC rfl rfl jE aQ kT rfl rfl ?_|refine kK rC rfl rfl jE aQ kT rfl rfl ?_|refine aB rfl (fun _=>bZ rfl rfl jE) rfl rfl ?_)|(refine gF ?_;first|refine kQ rC rfl aQ uB rfl rfl ?_|refine kS rC rfl aQ uB rfl rfl ?_|refine kP rC rfl aQ uB rfl rfl ?_|refine iL rC rfl aQ uB rfl rfl ?_|refine nU rC rfl aQ kX iE rfl rfl ?_|refine nV rC rfl aQ kX iE rfl rfl ?_|refine nT rC rfl aQ kX iE rfl rfl ?_|refine mK rC rfl aQ kX iE rfl rfl ?_)|(refine iR ?_;first|refine aB rfl (fun _=>bY rfl rfl) rfl rfl ?_|refine aB rfl (fun _=>bQ rfl) rfl rfl ?_)|(refine kZ ?_;first|refine nS rfl rfl rfl pQ stC rfl rfl ⟨okK,?_⟩|refine iG rfl rfl iE xN pQ xP rfl rfl ⟨okK,?_⟩)|(refine jL ?_;first|refine dJ rfl ?_|refine cO rfl ?_|refine lX rfl (by omega) ?_|refine pM rfl (by omega) ?_)));exact hh.out)):p:=w ⟨h⟩
end Go.Fx
