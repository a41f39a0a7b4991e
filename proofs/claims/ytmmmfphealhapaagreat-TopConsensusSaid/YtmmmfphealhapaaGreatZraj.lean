/- slices.Backward at slices of uint32: its contract, and the functions that range over it. -/
import Derived.RangeFuncNested
import Derived.RangeFuncBound
import Derived.RangeFuncCalls
import Derived.RangeFuncLeaves
import Derived.Shelf.Abstract
import Derived.WalkKit
import Derived.OwnWalkIn
import Derived.TacticsInMore
import Derived.LoopNIn
import Derived.LoopIn
import Derived.Test.YtmmmfphealhapaaGreatZrai
set_option linter.unusedSimpArgs false
set_option linter.unusedVariables false
set_option maxRecDepth 100000
set_option maxHeartbeats 4000000
namespace Go.Proofs.YtmmmfphealhapaaGreat
open Go Go.Fx Go.RowKit Go.Shelf
attribute [local go_sem] Oper.semAt_some
abbrev Dg (zs : List Int) := { j : Nat // j < zs.length }
def sP (zs : List Int) : Nat → List (Dg zs)
 | 0 => []
 | k + 1 => sP zs k ++ (if h : zs.length - 1 - k < zs.length then [⟨zs.length - 1 - k, h⟩] else [])
theorem qJ {zs : List Int} {k : Nat} (h : k < zs.length) : sP zs (k + 1) = sP zs k ++ [⟨zs.length - 1 - k, by omega⟩] := by rw [sP, dif_pos (by omega)]
theorem xU {zs : List Int} : ∀ {k : Nat}, k ≤ zs.length → (sP zs k).length = k
 | 0, _ => rfl
 | k + 1, h => by rw [qJ (by omega), List.length_append, xU (by omega)]; rfl
def dgE (zs : List Int) (x : Dg zs) : Array Value := #[.int .i64 (x.1 : Int), .int .u32 (zs[x.1]?.getD 0)]
structure KpB (n₀ Bs : Nat) (A B : World) : Prop where
 below : Below n₀ A B
 box : ∀ v, A.cell? ⟨Bs, 0, none⟩ = some v → B.cell? ⟨Bs, 0, none⟩ = some v
theorem KpB.refl (n₀ Bs : Nat) (A : World) : KpB n₀ Bs A A := ⟨Below.refl _ _, fun _ h => h⟩
theorem KpB.trans {n₀ Bs : Nat} {A B C : World} (h : KpB n₀ Bs A B) (k : KpB n₀ Bs B C) : KpB n₀ Bs A C := ⟨h.below.trans k.below, fun v hv => k.box v (h.box v hv)⟩
theorem aKR {n₀ Bs : Nat} {w : World} (hn : n₀ ≤ w.heap.size) (W : World) (l : Nat) (o o' : Obj) (hl : w.heap.size ≤ l) (h : W.heap[l]? = some o) (hc : o.isCells = false) (hw : o.isWalk = false) : KpB n₀ Bs W (W.putObj l o') :=
 ⟨belowK_b hn W l o o' hl h hc hw, fun _ hv => cell_kept hv (grownBy_putObj' W l o') (fun r e => by cases e; exact ⟨o, h, hc⟩)⟩
theorem zS {W : World} {B : Nat} {v : Value} {t : TypeId} (h : W.heap[B]? = some (.cells #[v] t (0, 0))) : W.cell? ⟨B, 0, none⟩ = some v ∧ W.frozen? ⟨B, 0, none⟩ = false := by
 constructor <;> simp [World.cell?, World.frozen?, h]
theorem mW (W : World) (v : Value) (t : TypeId) : (W.alloc (.cells #[v] t)).cell? ⟨W.heap.size, 0, none⟩ = some v ∧ (W.alloc (.cells #[v] t)).frozen? ⟨W.heap.size, 0, none⟩ = false :=
 zS (World.alloc_heap_new W _)
theorem mO {W : World} {a : Addr} {v : Value} (o : Obj) (h : W.cell? a = some v) : (W.alloc o).cell? a = some v := cell_kept h (World.grownBy_alloc W o none) (fun r e => by cases e)
theorem mF {W : World} {a : Addr} {v : Value} (o : Obj) (h : W.cell? a = some v) (hf : W.frozen? a = false) : (W.alloc o).frozen? a = false := (frozen_kept h (World.grownBy_alloc W o none) (fun r e => by cases e)).trans hf
theorem Ext.of_below {w w' : World} (h : Below w.heap.size w w') : Ext [] w w' := ⟨h.os, h.tape, h.output, h.size, fun k hk _ => h.block k hk⟩
theorem aMM (F : Fence) (n : Nat) (h : F.fn 279) (hro : F.round = none) (hn : 1 ≤ n) (l Bs n₀ b off cap : Nat) (zs : List Int) (hreach : zs.length * 4 ≤ 140737488351232) (hb : b < n₀) (J Jx : List (Dg zs) → World → Prop)
  (hY : ∀ pre x W, J pre W → pre.length < zs.length → YieldAt F (n - 1) Tryz.prog l (dgE zs x) W fun e W' =>
   (e = .returned (.bool true) ∧ J (pre ++ [x]) W' ∧ KpB n₀ Bs W W') ∨ (e = .returned (.bool false) ∧ Jx (pre ++ [x]) W'))
  (W : World) (hBs : W.cell? ⟨Bs, 0, none⟩ = some (.slice (some ⟨b, off, none⟩) zs.length cap)) (hc : ∀ j, j < zs.length → W.cell? ⟨b, off + j, none⟩ = some (.int .u32 (zs[j]?.getD 0))) (h0 : J [] W) :
  CallsIn F n Tryz.prog 279 #[.func (.yield l) #[] #[], .pointer (some ⟨Bs, 0, none⟩)] W fun e W' => (∃ v, e = .returned v) ∧
   ((∃ ys, ys = sP zs zs.length ∧ J ys W') ∨ (∃ pre, (∃ k, k ≤ zs.length ∧ pre = sP zs k) ∧ Jx pre W')) := by
 refine callsIn_of_wp Tryz.func279 rfl h ?_ hro
 simp only [Tryz.ntmps279, List.size_toArray, List.length_cons, List.length_nil, Nat.reduceAdd, Nat.reduceSub, Array.replicate_succ, Array.replicate_zero, List.push_toArray, List.append_toArray, List.nil_append, List.cons_append]
 gi_wp2
 gi_loopw [3] (fun i wr => ∃ k : Nat, k ≤ zs.length ∧ i = .int .i64 ((zs.length : Int) - 1 - k) ∧ J (sP zs k) wr ∧ KpB n₀ Bs W wr)
  (fun i _ => (intOf i + 1).toNat)
 case atStart => exact ⟨0, Nat.zero_le _, by simp, h0, KpB.refl _ _ _⟩
 case round =>
  obtain ⟨k, hk, rfl, hJs, hnx⟩ := hrel
  have hBs' : wr.cell? ⟨Bs, 0, none⟩ = some (.slice (some ⟨b, off, none⟩) zs.length cap) := hnx.box _ hBs
  have hcx : k < zs.length → wr.cell? ⟨b, off + (zs.length - 1 - k), none⟩ = some (.int .u32 (zs[zs.length - 1 - k]?.getD 0)) := fun h => (hnx.below.cell (p := ⟨b, off + (zs.length - 1 - k), none⟩) hb).trans (hc _ (by omega))
  by_cases hlt : k < zs.length
  ·obtain ⟨fn, tmps, assign, body, hy, hR⟩ := hY _ ⟨zs.length - 1 - k, by omega⟩ wr hJs (by rw [xU hk]; exact hlt)
   dsimp only [dgE] at hy
   have hcx' := hcx hlt
   have hidx : (zs.length : Int) - 1 - k = ((zs.length - 1 - k : Nat) : Int) := by omega
   rw [hidx]
   gi_wp2
   refine hR.mono ?_
   rintro e W3 (⟨rfl, hJ3, hk3⟩ | ⟨rfl, hJx3⟩)
   ·gi_wp2
    go_roundw
    case rel => exact ⟨k + 1, by omega, by simp; omega, by rw [qJ hlt]; exact hJ3, hnx.trans hk3⟩
    case measure => simp [intOf]
   ·gi_wp2
    refine bodyPost_ret (results_none rfl _ _ _) rfl ?_
    exact ⟨⟨_, rfl⟩, .inr ⟨_, ⟨k + 1, by omega, (qJ hlt).symm⟩, hJx3⟩⟩
  ·obtain rfl : k = zs.length := by omega
   gi_wp2
   go_end0
   exact ⟨⟨_, rfl⟩, .inl ⟨_, rfl, hJs⟩⟩
theorem aBX (F : Fence) (n : Nat) (h : F.fn 279) (hro : F.round = none) (l Bs c : Nat) {α : Type} (a : Option Addr) (J : List α → World → Prop) (W : World) (hBs : W.cell? ⟨Bs, 0, none⟩ = some (.slice a 0 c)) (h0 : J [] W) :
  CallsIn F n Tryz.prog 279 #[.func (.yield l) #[] #[], .pointer (some ⟨Bs, 0, none⟩)] W fun e W' => (∃ v, e = .returned v) ∧ J [] W' := by
 refine callsIn_of_wp Tryz.func279 rfl h ?_ hro
 simp only [Tryz.ntmps279, List.size_toArray, List.length_cons, List.length_nil, Nat.reduceAdd, Nat.reduceSub, Array.replicate_succ, Array.replicate_zero, List.push_toArray, List.append_toArray, List.nil_append, List.cons_append]
 gi_wp2
 gi_loopw [3] (fun i wr => i = .int .i64 (-1) ∧ J [] wr) (fun _ _ => 0)
 case atStart => exact ⟨rfl, h0⟩
 case round =>
  obtain ⟨rfl, hJs⟩ := hrel
  gi_wp2
  go_end0
  exact ⟨⟨_, rfl⟩, hJs⟩
theorem xM (F : Fence) (n : Nat) (h : F.fn 252) (hro : F.round = none) (a : Option Addr) (len cap : Nat) (w : World) :
  CallsIn F n Tryz.prog 252 #[.slice a len cap] w fun e w' => e = .returned (.func (.func 279) #[] #[.pointer (some ⟨w.heap.size, 0, none⟩)]) ∧ w' = w.alloc (.cells #[.slice a len cap] 40) := by
 refine callsIn_of_wp Tryz.func252 rfl h ?_ hro
 simp only [Tryz.ntmps252, List.size_toArray, List.length_cons, List.length_nil, Nat.reduceAdd, Nat.reduceSub, Array.replicate_succ, Array.replicate_zero, List.push_toArray, List.append_toArray, List.nil_append, List.cons_append]
 gi_wp2
 go_ret
 exact ⟨rfl, rfl⟩
theorem uE {w : World} {b off : Nat} {zs : List Int} (h : Sl [] w (some ⟨b, off, none⟩) (recs eG zs)) : ∀ j, j < zs.length → w.cell? ⟨b, off + j, none⟩ = some (.int .u32 (zs[j]?.getD 0)) := by
 intro j hj
 have h1 : (recs eG zs)[j]? = some (.int .u32 (zs[j]?.getD 0)) := by
  rw [nY, List.getElem?_map]
  simp [hj]
 exact (h j _ h1).2.2
theorem yU (F : Fence) (n : Nat) (h : F.fn 279) (hro : F.round = none) (hn : 1 ≤ n) (Bs n₀ : Nat) (a : Option Addr) (cap : Nat) (zs : List Int) (hreach : zs.length * 4 ≤ 140737488351232) (w : World) (hBs : Bs < w.heap.size) (hn₀ : n₀ ≤ w.heap.size)
  (hc : w.cell? ⟨Bs, 0, none⟩ = some (.slice a zs.length cap)) (hI : Sl [] w a (recs eG zs)) (hlt : 0 < zs.length → ∀ b, a.map (·.block) = some b → b < n₀) :
  SeqStopsK F n Tryz.prog 279 #[.pointer (some ⟨Bs, 0, none⟩)] (dgE zs) (KpB n₀ Bs) (fun ys => ys = sP zs zs.length) (fun pre => ∃ k, k ≤ zs.length ∧ pre = sP zs k) zs.length w := fun l J Jx W hW _ _ hY h0 => by
 have hc' := (hW.cell (p := ⟨Bs, 0, none⟩) (show Bs < w.heap.size from hBs)).trans hc
 by_cases hz : zs.length = 0
 ·rw [hz] at hc'
  exact (aBX F n h hro l Bs cap a J W hc' h0).mono fun e W' ⟨he, hj⟩ => ⟨he, .inl ⟨_, by rw [hz]; rfl, hj⟩⟩
 ·obtain ⟨b, off, rfl⟩ := (Sl.ok hI (by rw [iP]; omega)).cases
  have hb : b < n₀ := hlt (by omega) b rfl
  have hcs := uE hI
  refine (aMM F n h hro hn l Bs n₀ b off cap zs hreach hb J Jx hY W hc' (fun j hj => (hW.cell (p := ⟨b, off + j, none⟩) (show b < w.heap.size from Nat.lt_of_lt_of_le hb hn₀)).trans (hcs j hj)) h0).mono ?_
  rintro e W' ⟨he, ⟨ys, rfl, hj⟩ | ⟨pre, ⟨k, hk, rfl⟩, hj⟩⟩
  ·exact ⟨he, .inl ⟨_, rfl, hj⟩⟩
  ·exact ⟨he, .inr ⟨_, ⟨k, hk, rfl⟩, hj⟩⟩
def wdS (s g : Int) : Int := IntKind.u64.wrap (IntKind.u64.wrap (s * 1000000000) + IntKind.u64.wrap g)
def wdF (zs : List Int) (pre : List (Dg zs)) : Int := pre.foldl (fun s x => wdS s (zs[x.1]?.getD 0)) 0
theorem aLJ (zs : List Int) (pre : List (Dg zs)) (x : Dg zs) : wdF zs (pre ++ [x]) = wdS (wdF zs pre) (zs[x.1]?.getD 0) := by simp [wdF]
theorem aNZ (a : Option Addr) (cap : Nat) (zs : List Int) (w : World) (hz : zs.length ≤ 2) (hI : Sl [] w a (recs eG zs)) (hlt : 0 < zs.length → ∀ b, a.map (·.block) = some b → b < w.heap.size) :
  CallsIn Fence.wide 5 Tryz.prog 199 #[.slice a zs.length cap] w fun e w' => e = .returned (.tuple #[.int .u64 (wdF zs (sP zs zs.length)), .bool true]) ∧ Below w.heap.size w w' := by
 refine callsIn_of_wp_marks Tryz.func199 rfl trivial ?_ rfl
 simp only [Tryz.ntmps199, List.size_toArray, List.length_cons, List.length_nil, Nat.reduceAdd, Nat.reduceSub, Array.replicate_succ, Array.replicate_zero, List.push_toArray, List.append_toArray, List.nil_append, List.cons_append]
 have hz' : ¬ (2 < (zs.length : Int)) := by omega
 gi_wp2_with (refine ⟨trivial, ?_⟩; gi_at_call 252; refine (xM Fence.wide _ trivial rfl _ _ _ _).mono ?_; rintro e w' ⟨rfl, rfl⟩)
 have hs := mW w (.int .u64 0) 176
 have hb := mW (w.alloc (.cells #[.int .u64 0] 176)) (.slice a zs.length cap) 40
 rw [World.size_alloc] at hb
 have hBl : Below w.heap.size w ((w.alloc (.cells #[.int .u64 0] 176)).alloc (.cells #[.slice a zs.length cap] 40)) := ((Below.refl _ w).alloc (Nat.le_refl _) _).alloc (by simp) _
 have hI2 := Sl.mono hI (Ext.of_below hBl)
 refine wpIn_rangeFunc_ownG rfl (by decide) (gf := 279) (lb := #[.pointer (some ⟨w.heap.size + 1, 0, none⟩)]) rfl trivial (enters_of Tryz.func279 (by kernel_rfl) rfl)
  (yU Fence.wide (5 - 1) trivial rfl (by decide) (w.heap.size + 1) w.heap.size a cap zs (by omega) _ (by simp) (by simp; omega) hb.1 hI2 hlt) KpB.trans (aKR (by simp; omega)) (Below.refl _ _) (fun _ => rfl)
  (fun pre W => (W.cell? ⟨w.heap.size, 0, none⟩ = some (.int .u64 (wdF zs pre)) ∧ W.frozen? ⟨w.heap.size, 0, none⟩ = false) ∧ Below w.heap.size w W)
  (fun _ _ _ => False)
  (OwnFrom.and (Own.from (fun s A B row hs hg hr => ⟨cell_kept hs.1 hg hr, (frozen_kept hs.1 hg hr).trans hs.2⟩) _) (ownFrom_below (Nat.le_refl _) (by simp; omega)))
  (fun _ _ _ _ _ hs _ _ => hs) ⟨⟨mO _ hs.1, mF _ hs.1 hs.2⟩, hBl⟩ ?a1 ?assign ?body ?done ?stop
 case assign =>
  intro l x W K hK
  dsimp only [dgE]
  gi_wp2
  exact hK
 case body =>
  rintro l pre x W ⟨⟨hc, hf⟩, hB⟩ hpl
  gi_wp2
  refine ⟨(KeepsOthers.setCell _ _ _).from _, ⟨(Below.refl w.heap.size W).setCell (p := ⟨w.heap.size, 0, none⟩) (Nat.le_refl _) _, fun v hv => (World.cell?_setCell_other _ _ _ _ (by simp)).trans hv⟩, ⟨?_, by rw [World.frozen?_setCell]; exact hf⟩, hB.setCell (p := ⟨w.heap.size, 0, none⟩) (Nat.le_refl _) _⟩
  rw [aLJ]
  exact World.cell?_setCell_same' _ _ _ (by rw [hc]; rfl)
 case done =>
  rintro D ys W hD rfl ⟨⟨hc, hf⟩, hB⟩ hK
  gi_wp2
  refine ⟨by simp, .inl ⟨_, _, rfl, run_takeDeferred hK, ?_⟩⟩
  refine ⟨_, results_tmp2 rfl _ _ _, rfl, ?_⟩
  exact hB.trans (belowK_b (w := w) (Nat.le_refl _) W D _ _ (by simp at hD; omega) hK rfl rfl)
 case stop =>
  rintro D c pre W _ _ h _
  exact h.elim
theorem aGT {w : World} {a : Option Addr} {zs : List Int} (h : Sl [] w a (recs eG zs)) : 0 < zs.length → ∀ b, a.map (·.block) = some b → b < w.heap.size := by
 intro hz b hb
 obtain ⟨b', off, rfl⟩ := (Sl.ok h (by rw [iP]; omega)).cases
 have h1 := uE h 0 hz
 simp only [Option.map_some, Option.some.injEq] at hb
 subst hb
 by_cases hlt : b' < w.heap.size
 ·exact hlt
 ·exfalso
  unfold World.cell? at h1
  rw [Array.getElem?_eq_none (by simpa using hlt)] at h1
  simp at h1
theorem yS {P : Program} {fn : Func} {a : Tmp} {t : TypeId} {tmps : Array Value} {w : World} {b : Nat} {v : Value} [ht : ScalarTy P t] (h : fn.results = #[.cell a t]) (hb : tmps.getD a undef = .pointer (some ⟨b, 0, none⟩)) (hc : w.cell? ⟨b, 0, none⟩ = some v) :
  (results fn tmps).run P w = .ok v w := by
 have hb' : tmps[a]?.getD undef = .pointer (some ⟨b, 0, none⟩) := by simpa using hb
 simp [results, h, hb', asAddr, loadVar, lC, hc]
def fQ (x y : Int) : Int := if x < y then -1 else if y < x then 1 else 0
theorem aLN (x : Int) (w : World) : Ret Tryz.prog 251 [.int .i64 x] w (fun v w' => w = w' ∧ v = .bool false) := by
 refine enter Tryz.func251 rfl Tryz.ntmps251 rfl ?_
 repeat (first | refine qD ?_ | refine jT ?_ | refine qQ ?_ | refine mR ?_ | refine lI ?_ | refine lK ?_ | refine mU ?_ | refine mX ?_ | refine lJ ?_ | refine kZ ?_ | refine qA ?_ | refine qU ?_ | refine qP ?_ | refine pR rfl ?_ | refine pV ?_ | refine mY rfl rfl rfl ?_ | refine lV rfl rfl rfl ?_ | refine iO rfl (bH rfl) rfl rfl ?_ | refine iO rfl (bL rfl) rfl rfl ?_ | refine iO rfl (bK rfl rfl (by first | exact wrap_i64 (by omega) | exact wrap_u64 (by omega) | exact wrap_u32 (by omega) | exact wrap_u8 (by omega))) rfl rfl ?_ | refine iO rfl (bM rfl rfl (by first | exact wrap_i64 (by omega) | exact wrap_u64 (by omega) | exact wrap_u32 (by omega) | exact wrap_u8 (by omega))) rfl rfl ?_)
 exact rE (.inl rfl) rfl rfl ⟨rfl, congrArg Value.bool (dF (by omega))⟩
theorem aJX (x y : Int) (w : World) : Ret Tryz.prog 197 [.int .i64 x, .int .i64 y] w (fun v w' => w = w' ∧ v = .int .i64 (fQ x y)) := by
 refine enter Tryz.func197 rfl Tryz.ntmps197 rfl ?_
 repeat (first | refine qD ?_ | refine jT ?_ | refine qQ ?_ | refine mR ?_ | refine lI ?_ | refine lK ?_ | refine mU ?_ | refine mX ?_ | refine lJ ?_ | refine kZ ?_ | refine qA ?_ | refine qU ?_ | refine qP ?_ | refine pR rfl ?_ | refine pV ?_ | refine mY rfl rfl rfl ?_ | refine lV rfl rfl rfl ?_ | refine iO rfl (bH rfl) rfl rfl ?_ | refine iO rfl (bL rfl) rfl rfl ?_ | refine iO rfl (bK rfl rfl (by first | exact wrap_i64 (by omega) | exact wrap_u64 (by omega) | exact wrap_u32 (by omega) | exact wrap_u8 (by omega))) rfl rfl ?_ | refine iO rfl (bM rfl rfl (by first | exact wrap_i64 (by omega) | exact wrap_u64 (by omega) | exact wrap_u32 (by omega) | exact wrap_u8 (by omega))) rfl rfl ?_)
 (refine aLH rfl (rV rfl (aLN x w)) rfl rfl ?_; rintro _ w' ⟨rfl, rfl⟩)
 refine ⟨trivial, ?_⟩
 repeat (first | refine qD ?_ | refine jT ?_ | refine qQ ?_ | refine mR ?_ | refine lI ?_ | refine lK ?_ | refine mU ?_ | refine mX ?_ | refine lJ ?_ | refine kZ ?_ | refine qA ?_ | refine qU ?_ | refine qP ?_ | refine pR rfl ?_ | refine pV ?_ | refine mY rfl rfl rfl ?_ | refine lV rfl rfl rfl ?_ | refine iO rfl (bH rfl) rfl rfl ?_ | refine iO rfl (bL rfl) rfl rfl ?_ | refine iO rfl (bK rfl rfl (by first | exact wrap_i64 (by omega) | exact wrap_u64 (by omega) | exact wrap_u32 (by omega) | exact wrap_u8 (by omega))) rfl rfl ?_ | refine iO rfl (bM rfl rfl (by first | exact wrap_i64 (by omega) | exact wrap_u64 (by omega) | exact wrap_u32 (by omega) | exact wrap_u8 (by omega))) rfl rfl ?_)
 (refine aLH rfl (rV rfl (aLN y w)) rfl rfl ?_; rintro _ w' ⟨rfl, rfl⟩)
 refine ⟨trivial, ?_⟩
 unfold fQ
 by_cases h1 : x < y
 ·rw [if_pos h1]
  repeat' (first | refine qD ?_ | refine jT ?_ | refine qQ ?_ | refine mR ?_ | refine lI ?_ | refine lK ?_ | refine mU ?_ | refine mX ?_ | refine lJ ?_ | refine kZ ?_ | refine qA ?_ | refine qU ?_ | refine qP ?_ | refine pR rfl ?_ | refine pV ?_ | refine mY rfl rfl rfl ?_ | refine lV rfl rfl rfl ?_ | refine iO rfl (bH rfl) rfl rfl ?_ | refine iO rfl (bL rfl) rfl rfl ?_ | refine iO rfl (bK rfl rfl (by first | exact wrap_i64 (by omega) | exact wrap_u64 (by omega) | exact wrap_u32 (by omega) | exact wrap_u8 (by omega))) rfl rfl ?_ | refine iO rfl (bM rfl rfl (by first | exact wrap_i64 (by omega) | exact wrap_u64 (by omega) | exact wrap_u32 (by omega) | exact wrap_u8 (by omega))) rfl rfl ?_ | refine yB rfl (by omega) ?_ | refine aFY rfl (by omega) ?_ | refine wP rfl rfl (by omega) ?_ | refine wM rfl rfl (by omega) ?_ | refine yX rfl (fun h => ?_) (fun h => ?_) | refine kU rfl ?_ | refine kE rfl ?_ | refine vG rfl rfl (fun h => ?_) (fun h => ?_))
  exact rE (.inl rfl) rfl rfl ⟨rfl, rfl⟩
 ·rw [if_neg h1]
  by_cases h2 : y < x
  ·rw [if_pos h2]
   repeat' (first | refine qD ?_ | refine jT ?_ | refine qQ ?_ | refine mR ?_ | refine lI ?_ | refine lK ?_ | refine mU ?_ | refine mX ?_ | refine lJ ?_ | refine kZ ?_ | refine qA ?_ | refine qU ?_ | refine qP ?_ | refine pR rfl ?_ | refine pV ?_ | refine mY rfl rfl rfl ?_ | refine lV rfl rfl rfl ?_ | refine iO rfl (bH rfl) rfl rfl ?_ | refine iO rfl (bL rfl) rfl rfl ?_ | refine iO rfl (bK rfl rfl (by first | exact wrap_i64 (by omega) | exact wrap_u64 (by omega) | exact wrap_u32 (by omega) | exact wrap_u8 (by omega))) rfl rfl ?_ | refine iO rfl (bM rfl rfl (by first | exact wrap_i64 (by omega) | exact wrap_u64 (by omega) | exact wrap_u32 (by omega) | exact wrap_u8 (by omega))) rfl rfl ?_ | refine yB rfl (by omega) ?_ | refine aFY rfl (by omega) ?_ | refine wP rfl rfl (by omega) ?_ | refine wM rfl rfl (by omega) ?_ | refine yX rfl (fun h => ?_) (fun h => ?_) | refine kU rfl ?_ | refine kE rfl ?_ | refine vG rfl rfl (fun h => ?_) (fun h => ?_))
   exact rE (.inl rfl) rfl rfl ⟨rfl, rfl⟩
  ·rw [if_neg h2]
   repeat' (first | refine qD ?_ | refine jT ?_ | refine qQ ?_ | refine mR ?_ | refine lI ?_ | refine lK ?_ | refine mU ?_ | refine mX ?_ | refine lJ ?_ | refine kZ ?_ | refine qA ?_ | refine qU ?_ | refine qP ?_ | refine pR rfl ?_ | refine pV ?_ | refine mY rfl rfl rfl ?_ | refine lV rfl rfl rfl ?_ | refine iO rfl (bH rfl) rfl rfl ?_ | refine iO rfl (bL rfl) rfl rfl ?_ | refine iO rfl (bK rfl rfl (by first | exact wrap_i64 (by omega) | exact wrap_u64 (by omega) | exact wrap_u32 (by omega) | exact wrap_u8 (by omega))) rfl rfl ?_ | refine iO rfl (bM rfl rfl (by first | exact wrap_i64 (by omega) | exact wrap_u64 (by omega) | exact wrap_u32 (by omega) | exact wrap_u8 (by omega))) rfl rfl ?_ | refine yB rfl (by omega) ?_ | refine aFY rfl (by omega) ?_ | refine wP rfl rfl (by omega) ?_ | refine wM rfl rfl (by omega) ?_ | refine yX rfl (fun h => ?_) (fun h => ?_) | refine kU rfl ?_ | refine kE rfl ?_ | refine vG rfl rfl (fun h => ?_) (fun h => ?_))
   exact rE (.inl rfl) rfl rfl ⟨rfl, rfl⟩
theorem aLE (x : Int) (w : World) : Ret Tryz.prog 280 [.int .u32 x] w (fun v w' => w = w' ∧ v = .bool false) := by
 refine enter Tryz.func280 rfl Tryz.ntmps280 rfl ?_
 repeat (first | refine qD ?_ | refine jT ?_ | refine qQ ?_ | refine mR ?_ | refine lI ?_ | refine lK ?_ | refine mU ?_ | refine mX ?_ | refine lJ ?_ | refine kZ ?_ | refine qA ?_ | refine qU ?_ | refine qP ?_ | refine pR rfl ?_ | refine pV ?_ | refine mY rfl rfl rfl ?_ | refine lV rfl rfl rfl ?_ | refine iO rfl (bH rfl) rfl rfl ?_ | refine iO rfl (bL rfl) rfl rfl ?_ | refine iO rfl (bK rfl rfl (by first | exact wrap_i64 (by omega) | exact wrap_u64 (by omega) | exact wrap_u32 (by omega) | exact wrap_u8 (by omega))) rfl rfl ?_ | refine iO rfl (bM rfl rfl (by first | exact wrap_i64 (by omega) | exact wrap_u64 (by omega) | exact wrap_u32 (by omega) | exact wrap_u8 (by omega))) rfl rfl ?_)
 exact rE (.inl rfl) rfl rfl ⟨rfl, congrArg Value.bool (dF (by omega))⟩
theorem aPV (x y : Int) (w : World) : Ret Tryz.prog 253 [.int .u32 x, .int .u32 y] w (fun v w' => w = w' ∧ v = .int .i64 (fQ x y)) := by
 refine enter Tryz.func253 rfl Tryz.ntmps253 rfl ?_
 repeat (first | refine qD ?_ | refine jT ?_ | refine qQ ?_ | refine mR ?_ | refine lI ?_ | refine lK ?_ | refine mU ?_ | refine mX ?_ | refine lJ ?_ | refine kZ ?_ | refine qA ?_ | refine qU ?_ | refine qP ?_ | refine pR rfl ?_ | refine pV ?_ | refine mY rfl rfl rfl ?_ | refine lV rfl rfl rfl ?_ | refine iO rfl (bH rfl) rfl rfl ?_ | refine iO rfl (bL rfl) rfl rfl ?_ | refine iO rfl (bK rfl rfl (by first | exact wrap_i64 (by omega) | exact wrap_u64 (by omega) | exact wrap_u32 (by omega) | exact wrap_u8 (by omega))) rfl rfl ?_ | refine iO rfl (bM rfl rfl (by first | exact wrap_i64 (by omega) | exact wrap_u64 (by omega) | exact wrap_u32 (by omega) | exact wrap_u8 (by omega))) rfl rfl ?_)
 (refine aLH rfl (rV rfl (aLE x w)) rfl rfl ?_; rintro _ w' ⟨rfl, rfl⟩)
 refine ⟨trivial, ?_⟩
 repeat (first | refine qD ?_ | refine jT ?_ | refine qQ ?_ | refine mR ?_ | refine lI ?_ | refine lK ?_ | refine mU ?_ | refine mX ?_ | refine lJ ?_ | refine kZ ?_ | refine qA ?_ | refine qU ?_ | refine qP ?_ | refine pR rfl ?_ | refine pV ?_ | refine mY rfl rfl rfl ?_ | refine lV rfl rfl rfl ?_ | refine iO rfl (bH rfl) rfl rfl ?_ | refine iO rfl (bL rfl) rfl rfl ?_ | refine iO rfl (bK rfl rfl (by first | exact wrap_i64 (by omega) | exact wrap_u64 (by omega) | exact wrap_u32 (by omega) | exact wrap_u8 (by omega))) rfl rfl ?_ | refine iO rfl (bM rfl rfl (by first | exact wrap_i64 (by omega) | exact wrap_u64 (by omega) | exact wrap_u32 (by omega) | exact wrap_u8 (by omega))) rfl rfl ?_)
 (refine aLH rfl (rV rfl (aLE y w)) rfl rfl ?_; rintro _ w' ⟨rfl, rfl⟩)
 refine ⟨trivial, ?_⟩
 unfold fQ
 by_cases h1 : x < y
 ·rw [if_pos h1]
  repeat' (first | refine qD ?_ | refine jT ?_ | refine qQ ?_ | refine mR ?_ | refine lI ?_ | refine lK ?_ | refine mU ?_ | refine mX ?_ | refine lJ ?_ | refine kZ ?_ | refine qA ?_ | refine qU ?_ | refine qP ?_ | refine pR rfl ?_ | refine pV ?_ | refine mY rfl rfl rfl ?_ | refine lV rfl rfl rfl ?_ | refine iO rfl (bH rfl) rfl rfl ?_ | refine iO rfl (bL rfl) rfl rfl ?_ | refine iO rfl (bK rfl rfl (by first | exact wrap_i64 (by omega) | exact wrap_u64 (by omega) | exact wrap_u32 (by omega) | exact wrap_u8 (by omega))) rfl rfl ?_ | refine iO rfl (bM rfl rfl (by first | exact wrap_i64 (by omega) | exact wrap_u64 (by omega) | exact wrap_u32 (by omega) | exact wrap_u8 (by omega))) rfl rfl ?_ | refine yB rfl (by omega) ?_ | refine aFY rfl (by omega) ?_ | refine wP rfl rfl (by omega) ?_ | refine wM rfl rfl (by omega) ?_ | refine yX rfl (fun h => ?_) (fun h => ?_) | refine kU rfl ?_ | refine kE rfl ?_ | refine vG rfl rfl (fun h => ?_) (fun h => ?_))
  exact rE (.inl rfl) rfl rfl ⟨rfl, rfl⟩
 ·rw [if_neg h1]
  by_cases h2 : y < x
  ·rw [if_pos h2]
   repeat' (first | refine qD ?_ | refine jT ?_ | refine qQ ?_ | refine mR ?_ | refine lI ?_ | refine lK ?_ | refine mU ?_ | refine mX ?_ | refine lJ ?_ | refine kZ ?_ | refine qA ?_ | refine qU ?_ | refine qP ?_ | refine pR rfl ?_ | refine pV ?_ | refine mY rfl rfl rfl ?_ | refine lV rfl rfl rfl ?_ | refine iO rfl (bH rfl) rfl rfl ?_ | refine iO rfl (bL rfl) rfl rfl ?_ | refine iO rfl (bK rfl rfl (by first | exact wrap_i64 (by omega) | exact wrap_u64 (by omega) | exact wrap_u32 (by omega) | exact wrap_u8 (by omega))) rfl rfl ?_ | refine iO rfl (bM rfl rfl (by first | exact wrap_i64 (by omega) | exact wrap_u64 (by omega) | exact wrap_u32 (by omega) | exact wrap_u8 (by omega))) rfl rfl ?_ | refine yB rfl (by omega) ?_ | refine aFY rfl (by omega) ?_ | refine wP rfl rfl (by omega) ?_ | refine wM rfl rfl (by omega) ?_ | refine yX rfl (fun h => ?_) (fun h => ?_) | refine kU rfl ?_ | refine kE rfl ?_ | refine vG rfl rfl (fun h => ?_) (fun h => ?_))
   exact rE (.inl rfl) rfl rfl ⟨rfl, rfl⟩
  ·rw [if_neg h2]
   repeat' (first | refine qD ?_ | refine jT ?_ | refine qQ ?_ | refine mR ?_ | refine lI ?_ | refine lK ?_ | refine mU ?_ | refine mX ?_ | refine lJ ?_ | refine kZ ?_ | refine qA ?_ | refine qU ?_ | refine qP ?_ | refine pR rfl ?_ | refine pV ?_ | refine mY rfl rfl rfl ?_ | refine lV rfl rfl rfl ?_ | refine iO rfl (bH rfl) rfl rfl ?_ | refine iO rfl (bL rfl) rfl rfl ?_ | refine iO rfl (bK rfl rfl (by first | exact wrap_i64 (by omega) | exact wrap_u64 (by omega) | exact wrap_u32 (by omega) | exact wrap_u8 (by omega))) rfl rfl ?_ | refine iO rfl (bM rfl rfl (by first | exact wrap_i64 (by omega) | exact wrap_u64 (by omega) | exact wrap_u32 (by omega) | exact wrap_u8 (by omega))) rfl rfl ?_ | refine yB rfl (by omega) ?_ | refine aFY rfl (by omega) ?_ | refine wP rfl rfl (by omega) ?_ | refine wM rfl rfl (by omega) ?_ | refine yX rfl (fun h => ?_) (fun h => ?_) | refine kU rfl ?_ | refine kE rfl ?_ | refine vG rfl rfl (fun h => ?_) (fun h => ?_))
   exact rE (.inl rfl) rfl rfl ⟨rfl, rfl⟩
def zP (zs ys : List Int) : Nat → Int
 | 0 => 0
 | k + 1 => if zs[k]?.getD 0 = ys[k]?.getD 0 then zP zs ys k else fQ (zs[k]?.getD 0) (ys[k]?.getD 0)
def Eqs (zs ys : List Int) (pre : List (Dg zs)) : Prop := ∀ x ∈ pre, zs[x.1]?.getD 0 = ys[x.1]?.getD 0
theorem zC {zs ys : List Int} : ∀ k, k ≤ zs.length → Eqs zs ys (sP zs k) → zP zs ys zs.length = zP zs ys (zs.length - k)
 | 0, _, _ => rfl
 | k + 1, hk, h => by
  rw [qJ (by omega)] at h
  rw [zC k (by omega) (fun x hx => h x (List.mem_append.2 (.inl hx)))]
  have e : zs.length - k = zs.length - (k + 1) + 1 := by omega
  have h1 := h ⟨zs.length - 1 - k, by omega⟩ (by simp)
  have e2 : zs.length - 1 - k = zs.length - (k + 1) := by omega
  rw [e, zP, if_pos (by rw [← e2]; exact h1)]
theorem aJH {zs ys : List Int} {pre0 : List (Dg zs)} {x : Dg zs} (k : Nat) (hk : k ≤ zs.length) (hp : sP zs k = pre0 ++ [x]) (hE : Eqs zs ys pre0) (hn : zs[x.1]?.getD 0 ≠ ys[x.1]?.getD 0) :
  zP zs ys zs.length = fQ (zs[x.1]?.getD 0) (ys[x.1]?.getD 0) := by
 match k, hk, hp with
 | 0, _, hp => simp [sP] at hp
 | k + 1, hk, hp =>
  rw [qJ (by omega)] at hp
  obtain ⟨e1, e2⟩ := List.append_inj' hp rfl
  subst e1
  have e3 : x.1 = zs.length - 1 - k := by rw [← (List.cons.inj e2).1]
  have e : zs.length - k = x.1 + 1 := by omega
  rw [zC k (by omega) hE, e, zP, if_neg hn]
theorem aEX (a b : Option Addr) (cap cap2 : Nat) (zs ys : List Int) (w : World) (hz : zs.length * 4 ≤ 140737488351232) (hlen : ys.length = zs.length) (hI : Sl [] w a (recs eG zs)) (hJ : Sl [] w b (recs eG ys)) :
  CallsIn Fence.wide 5 Tryz.prog 198 #[.slice a zs.length cap, .slice b zs.length cap2] w fun e w' => e = .returned (.int .i64 (zP zs ys zs.length)) ∧ Below w.heap.size w w' := by
 refine callsIn_of_wp_marks Tryz.func198 rfl trivial ?_ rfl
 simp only [Tryz.ntmps198, List.size_toArray, List.length_cons, List.length_nil, Nat.reduceAdd, Nat.reduceSub, Array.replicate_succ, Array.replicate_zero, List.push_toArray, List.append_toArray, List.nil_append, List.cons_append]
 gi_wp2_with (refine ⟨trivial, ?_⟩; gi_at_call 252; refine (xM Fence.wide _ trivial rfl _ _ _ _).mono ?_; rintro e w' ⟨rfl, rfl⟩)
 have hs3 := mW w (.slice b zs.length cap2) 40
 have hs4 := mW (w.alloc (.cells #[.slice b zs.length cap2] 40)) (.int .i64 0) 3
 have hb := mW ((w.alloc (.cells #[.slice b zs.length cap2] 40)).alloc (.cells #[.int .i64 0] 3)) (.slice a zs.length cap) 40
 simp only [World.size_alloc] at hb hs4
 have hBl : Below w.heap.size w (((w.alloc (.cells #[.slice b zs.length cap2] 40)).alloc (.cells #[.int .i64 0] 3)).alloc (.cells #[.slice a zs.length cap] 40)) := (((Below.refl _ w).alloc (Nat.le_refl _) _).alloc (by simp) _).alloc (by simp; omega) _
 have hI2 := Sl.mono hI (Ext.of_below hBl)
 refine wpIn_rangeFunc_ownG rfl (by decide) (gf := 279) (lb := #[.pointer (some ⟨w.heap.size + 1 + 1, 0, none⟩)]) rfl trivial (enters_of Tryz.func279 (by kernel_rfl) rfl)
  (yU Fence.wide (5 - 1) trivial rfl (by decide) (w.heap.size + 1 + 1) w.heap.size a cap zs hz _ (by simp) (by simp; omega) hb.1 hI2 (aGT hI)) KpB.trans (aKR (by simp; omega)) (Below.refl _ _) (fun _ => rfl)
  (fun pre W => ((W.cell? ⟨w.heap.size, 0, none⟩ = some (.slice b zs.length cap2) ∧ W.frozen? ⟨w.heap.size, 0, none⟩ = false) ∧ (W.cell? ⟨w.heap.size + 1, 0, none⟩ = some (.int .i64 0) ∧ W.frozen? ⟨w.heap.size + 1, 0, none⟩ = false)) ∧ (Eqs zs ys pre ∧ Below w.heap.size w W))
  (fun c pre W => (c = .ret ∧ ∃ pre0 x, pre = pre0 ++ [x] ∧ Eqs zs ys pre0 ∧ zs[x.1]?.getD 0 ≠ ys[x.1]?.getD 0 ∧ W.cell? ⟨w.heap.size + 1, 0, none⟩ = some (.int .i64 (fQ (zs[x.1]?.getD 0) (ys[x.1]?.getD 0)))) ∧ Below w.heap.size w W)
  ?hI ?hIx ⟨⟨⟨mO _ (mO _ hs3.1), mF _ (mO _ hs3.1) (mF _ hs3.1 hs3.2)⟩, ⟨mO _ hs4.1, mF _ hs4.1 hs4.2⟩⟩, fun x h => absurd h (by simp), hBl⟩ ?a1 ?assign ?body ?done ?stop
 case hI => exact OwnFrom.and (Own.from (fun s A B row hs hg hr => ⟨⟨cell_kept hs.1.1 hg hr, (frozen_kept hs.1.1 hg hr).trans hs.1.2⟩, cell_kept hs.2.1 hg hr, (frozen_kept hs.2.1 hg hr).trans hs.2.2⟩) _) (OwnFrom.and (fun _ _ _ _ hs _ _ => hs) (ownFrom_below (Nat.le_refl _) (by simp; omega)))
 case hIx => exact fun c => OwnFrom.and (Own.from (fun s A B row hs hg hr => let ⟨e, pre0, x, hp, hE, hn, hc⟩ := hs; ⟨e, pre0, x, hp, hE, hn, cell_kept hc hg hr⟩) _) (ownFrom_below (Nat.le_refl _) (by simp; omega))
 case assign =>
  intro l x W K hK
  dsimp only [dgE]
  gi_wp2
  exact hK
 case body =>
  rintro l pre x W ⟨⟨⟨hc, hf⟩, hc4, hf4⟩, hE, hB⟩ hpl
  have hx := x.2
  obtain ⟨b', off, rfl⟩ := (Sl.ok hJ (by rw [iP]; omega)).cases
  have hcx : W.cell? ⟨b', off + x.1, none⟩ = some (.int .u32 (ys[x.1]?.getD 0)) := (hB.cell (p := ⟨b', off + x.1, none⟩) (aGT hJ (by omega) b' rfl)).trans (uE hJ x.1 (by omega))
  gi_wp2_with (refine ⟨trivial, ?_⟩; gi_at_call 253; refine (CallsIn.inRound l (callsIn_wide.2 (aPV _ _ _))).mono ?_; rintro e w' ⟨v, rfl, rfl, rfl⟩)
  ·rename_i hne
   have hne' : zs[x.1]?.getD 0 ≠ ys[x.1]?.getD 0 := by simpa [hx, show x.1 < ys.length by omega] using hne
   have ez : zs[x.1] = zs[x.1]?.getD 0 := by simp [hx]
   have ey : ys[x.1]'(by omega) = ys[x.1]?.getD 0 := by simp [show x.1 < ys.length by omega]
   refine ⟨(KeepsOthers.setCell _ _ _).from _, ⟨rfl, pre, x, rfl, hE, hne', ?_⟩, hB.setCell (p := ⟨w.heap.size + 1, 0, none⟩) (by simp) _⟩
   rw [ez, ey]
   exact World.cell?_setCell_same' _ _ _ (by rw [hc4]; rfl)
  ·rename_i hne
   have he : zs[x.1]?.getD 0 = ys[x.1]?.getD 0 := by simpa [hx, show x.1 < ys.length by omega] using hne
   refine ⟨KeepsFrom.refl _ _, KpB.refl _ _ _, ⟨⟨⟨hc, hf⟩, hc4, hf4⟩, ?_, hB⟩⟩
   intro y hy
   rcases List.mem_append.1 hy with hy | hy
   ·exact hE y hy
   ·rw [List.mem_singleton.1 hy]; exact he
 case done =>
  rintro D xs W hD rfl ⟨⟨_, hc4, hf4⟩, hE, hB⟩ hK
  gi_wp2
  have hD' : w.heap.size + 1 + 1 + 1 ≤ D := by simpa using hD
  have hne : (⟨w.heap.size + 1, 0, none⟩ : Addr).block ≠ D := by simp; omega
  have hK' : (W.setCell ⟨w.heap.size + 1, 0, none⟩ (.int .i64 0)).heap[D]? = some (.deferred (some [])) := (Below.heap_setCell W _ _ D (by simp; omega)).trans hK
  refine ⟨by simp, .inl ⟨_, _, rfl, run_takeDeferred hK', ?_⟩⟩
  have hq := World.cell?_setCell_same' W ⟨w.heap.size + 1, 0, none⟩ (.int .i64 0) (by rw [hc4]; rfl)
  refine ⟨_, yS rfl rfl (cell_kept hq (grownBy_putObj' _ D _) (fun r e => by cases e; exact ⟨_, hK', rfl⟩)), ?_, ?_⟩
  ·rw [zC zs.length (Nat.le_refl _) hE, Nat.sub_self]; rfl
  ·exact (hB.setCell (p := ⟨w.heap.size + 1, 0, none⟩) (by simp) _).trans (belowK_b (w := w) (Nat.le_refl _) _ D _ _ (by omega) hK' rfl rfl)
 case stop =>
  rintro D c pre W hD ⟨k, hk, rfl⟩ ⟨⟨rfl, pre0, x, hp, hE, hne, hc4⟩, hB⟩ hK
  gi_wp2
  have hD' : w.heap.size + 1 + 1 + 1 ≤ D := by simpa using hD
  refine ⟨by simp, .inl ⟨_, _, rfl, run_takeDeferred hK, ?_⟩⟩
  refine ⟨_, yS rfl rfl (cell_kept hc4 (grownBy_putObj' _ D _) (fun r e => by cases e; exact ⟨_, hK, rfl⟩)), ?_, ?_⟩
  ·rw [aJH k hk hp hE hne]
  ·exact hB.trans (belowK_b (w := w) (Nat.le_refl _) W D _ _ (by omega) hK rfl rfl)
end Go.Proofs.YtmmmfphealhapaaGreat
