/- slices.Backward at slices of uint32: its contract, and the functions that range over it. -/
import Derived.RangeFuncNested
import Derived.RangeFuncBound
import Derived.RangeFuncCalls
import Derived.RangeFuncLeaves
import Derived.Shelf.Abstract
import Derived.WalkKit
import Derived.OwnWalkIn
import Derived.TacticsInMore
import Derived.LoopNIn
import Derived.LoopIn
import Derived.Test.YtllaoaobnnondaaGreatRZiai
set_option linter.unusedSimpArgs false
set_option linter.unusedVariables false
namespace Go.Proofs.YtllaoaobnnondaaGreatR
open Go Go.Fx Go.RowKit Go.Shelf
attribute [local go_sem] Oper.semAt_some

/-- a place of a list -/
abbrev Dg (zs : List Int) := { j : Nat // j < zs.length }
/-- what comes from behind -/
def bwL (zs : List Int) : Nat → List (Dg zs)
  | 0 => []
  | k + 1 => bwL zs k ++ (if h : zs.length - 1 - k < zs.length then [⟨zs.length - 1 - k, h⟩] else [])
theorem bwL_succ {zs : List Int} {k : Nat} (h : k < zs.length) : bwL zs (k + 1) = bwL zs k ++ [⟨zs.length - 1 - k, by omega⟩] := by rw [bwL, dif_pos (by omega)]
theorem bwL_length {zs : List Int} : ∀ {k : Nat}, k ≤ zs.length → (bwL zs k).length = k
  | 0, _ => rfl
  | k + 1, h => by rw [bwL_succ (by omega), List.length_append, bwL_length (by omega)]; rfl
def dgE (zs : List Int) (x : Dg zs) : Array Value := #[.int .i64 (x.1 : Int), .int .u32 (zs[x.1]?.getD 0)]

/-- what a round must keep: what lay below n₀, and the box of the slice -/
structure KpB (n₀ Bs : Nat) (A B : World) : Prop where
  below : Below n₀ A B
  box : ∀ v, A.cell? ⟨Bs, 0, none⟩ = some v → B.cell? ⟨Bs, 0, none⟩ = some v
theorem KpB.refl (n₀ Bs : Nat) (A : World) : KpB n₀ Bs A A := ⟨Below.refl _ _, fun _ h => h⟩
theorem KpB.trans {n₀ Bs : Nat} {A B C : World} (h : KpB n₀ Bs A B) (k : KpB n₀ Bs B C) : KpB n₀ Bs A C := ⟨h.below.trans k.below, fun v hv => k.box v (h.box v hv)⟩
theorem kpB_b {n₀ Bs : Nat} {w : World} (hn : n₀ ≤ w.heap.size) (W : World) (l : Nat) (o o' : Obj) (hl : w.heap.size ≤ l) (h : W.heap[l]? = some o) (hc : o.isCells = false) (hw : o.isWalk = false) : KpB n₀ Bs W (W.putObj l o') :=
  ⟨belowK_b hn W l o o' hl h hc hw, fun _ hv => cell_kept hv (grownBy_putObj' W l o') (fun r e => by cases e; exact ⟨o, h, hc⟩)⟩
theorem cell_of_box_b {W : World} {B : Nat} {v : Value} {t : TypeId} (h : W.heap[B]? = some (.cells #[v] t (0, 0))) : W.cell? ⟨B, 0, none⟩ = some v ∧ W.frozen? ⟨B, 0, none⟩ = false := by
  constructor <;> simp [World.cell?, World.frozen?, h]
theorem cell_new_b (W : World) (v : Value) (t : TypeId) : (W.alloc (.cells #[v] t)).cell? ⟨W.heap.size, 0, none⟩ = some v ∧ (W.alloc (.cells #[v] t)).frozen? ⟨W.heap.size, 0, none⟩ = false :=
  cell_of_box_b (World.alloc_heap_new W _)
theorem cell_alloc_b {W : World} {a : Addr} {v : Value} (o : Obj) (h : W.cell? a = some v) : (W.alloc o).cell? a = some v := cell_kept h (World.grownBy_alloc W o none) (fun r e => by cases e)
theorem frozen_alloc_b {W : World} {a : Addr} {v : Value} (o : Obj) (h : W.cell? a = some v) (hf : W.frozen? a = false) : (W.alloc o).frozen? a = false := (frozen_kept h (World.grownBy_alloc W o none) (fun r e => by cases e)).trans hf
theorem Ext.of_below {w w' : World} (h : Below w.heap.size w w') : Ext [] w w' := ⟨h.os, h.tape, h.output, h.size, fun k hk _ => h.block k hk⟩

set_option maxRecDepth 100000 in
set_option maxHeartbeats 2000000 in
theorem back1_in (F : Fence) (n : Nat) (h : F.fn 260) (hro : F.round = none) (hn : 1 ≤ n) (l Bs n₀ b off cap : Nat) (zs : List Int) (hreach : zs.length * 4 ≤ 140737488351232) (hb : b < n₀) (J Jx : List (Dg zs) → World → Prop)
    (hY : ∀ pre x W, J pre W → pre.length < zs.length → YieldAt F (n - 1) Tryz.prog l (dgE zs x) W fun e W' =>
      (e = .returned (.bool true) ∧ J (pre ++ [x]) W' ∧ KpB n₀ Bs W W') ∨ (e = .returned (.bool false) ∧ Jx (pre ++ [x]) W'))
    (W : World) (hBs : W.cell? ⟨Bs, 0, none⟩ = some (.slice (some ⟨b, off, none⟩) zs.length cap)) (hc : ∀ j, j < zs.length → W.cell? ⟨b, off + j, none⟩ = some (.int .u32 (zs[j]?.getD 0))) (h0 : J [] W) :
    CallsIn F n Tryz.prog 260 #[.func (.yield l) #[] #[], .pointer (some ⟨Bs, 0, none⟩)] W fun e W' => (∃ v, e = .returned v) ∧
      ((∃ ys, ys = bwL zs zs.length ∧ J ys W') ∨ (∃ pre, (∃ k, k ≤ zs.length ∧ pre = bwL zs k) ∧ Jx pre W')) := by
  refine callsIn_of_wp Tryz.func260 rfl h ?_ hro
  simp only [Tryz.ntmps260, List.size_toArray, List.length_cons, List.length_nil, Nat.reduceAdd, Nat.reduceSub, Array.replicate_succ, Array.replicate_zero, List.push_toArray, List.append_toArray, List.nil_append, List.cons_append]
  gi_wp2
  gi_loopw [3] (fun i wr => ∃ k : Nat, k ≤ zs.length ∧ i = .int .i64 ((zs.length : Int) - 1 - k) ∧ J (bwL zs k) wr ∧ KpB n₀ Bs W wr)
    (fun i _ => (intOf i + 1).toNat)
  case atStart => exact ⟨0, Nat.zero_le _, by simp, h0, KpB.refl _ _ _⟩
  case round =>
    obtain ⟨k, hk, rfl, hJs, hnx⟩ := hrel
    have hBs' : wr.cell? ⟨Bs, 0, none⟩ = some (.slice (some ⟨b, off, none⟩) zs.length cap) := hnx.box _ hBs
    have hcx : k < zs.length → wr.cell? ⟨b, off + (zs.length - 1 - k), none⟩ = some (.int .u32 (zs[zs.length - 1 - k]?.getD 0)) := fun h => (hnx.below.cell (p := ⟨b, off + (zs.length - 1 - k), none⟩) hb).trans (hc _ (by omega))
    by_cases hlt : k < zs.length
    · obtain ⟨fn, tmps, assign, body, hy, hR⟩ := hY _ ⟨zs.length - 1 - k, by omega⟩ wr hJs (by rw [bwL_length hk]; exact hlt)
      dsimp only [dgE] at hy
      have hcx' := hcx hlt
      have hidx : (zs.length : Int) - 1 - k = ((zs.length - 1 - k : Nat) : Int) := by omega
      rw [hidx]
      gi_wp2
      refine hR.mono ?_
      rintro e W3 (⟨rfl, hJ3, hk3⟩ | ⟨rfl, hJx3⟩)
      · gi_wp2
        go_roundw
        case rel => exact ⟨k + 1, by omega, by simp; omega, by rw [bwL_succ hlt]; exact hJ3, hnx.trans hk3⟩
        case measure => simp [intOf]
      · gi_wp2
        refine bodyPost_ret (results_none rfl _ _ _) rfl ?_
        exact ⟨⟨_, rfl⟩, .inr ⟨_, ⟨k + 1, by omega, (bwL_succ hlt).symm⟩, hJx3⟩⟩
    · obtain rfl : k = zs.length := by omega
      gi_wp2
      go_end0
      exact ⟨⟨_, rfl⟩, .inl ⟨_, rfl, hJs⟩⟩
set_option maxHeartbeats 1000000 in
theorem back1_nil_in (F : Fence) (n : Nat) (h : F.fn 260) (hro : F.round = none) (l Bs c : Nat) {α : Type} (a : Option Addr) (J : List α → World → Prop) (W : World) (hBs : W.cell? ⟨Bs, 0, none⟩ = some (.slice a 0 c)) (h0 : J [] W) :
    CallsIn F n Tryz.prog 260 #[.func (.yield l) #[] #[], .pointer (some ⟨Bs, 0, none⟩)] W fun e W' => (∃ v, e = .returned v) ∧ J [] W' := by
  refine callsIn_of_wp Tryz.func260 rfl h ?_ hro
  simp only [Tryz.ntmps260, List.size_toArray, List.length_cons, List.length_nil, Nat.reduceAdd, Nat.reduceSub, Array.replicate_succ, Array.replicate_zero, List.push_toArray, List.append_toArray, List.nil_append, List.cons_append]
  gi_wp2
  gi_loopw [3] (fun i wr => i = .int .i64 (-1) ∧ J [] wr) (fun _ _ => 0)
  case atStart => exact ⟨rfl, h0⟩
  case round =>
    obtain ⟨rfl, hJs⟩ := hrel
    gi_wp2
    go_end0
    exact ⟨⟨_, rfl⟩, hJs⟩
set_option maxHeartbeats 1000000 in
theorem back_in (F : Fence) (n : Nat) (h : F.fn 253) (hro : F.round = none) (a : Option Addr) (len cap : Nat) (w : World) :
    CallsIn F n Tryz.prog 253 #[.slice a len cap] w fun e w' => e = .returned (.func (.func 260) #[] #[.pointer (some ⟨w.heap.size, 0, none⟩)]) ∧ w' = w.alloc (.cells #[.slice a len cap] 22) := by
  refine callsIn_of_wp Tryz.func253 rfl h ?_ hro
  simp only [Tryz.ntmps253, List.size_toArray, List.length_cons, List.length_nil, Nat.reduceAdd, Nat.reduceSub, Array.replicate_succ, Array.replicate_zero, List.push_toArray, List.append_toArray, List.nil_append, List.cons_append]
  gi_wp2
  go_ret
  exact ⟨rfl, rfl⟩
/-- the slice's cells, as the library says it -/
theorem cell_of_sl {w : World} {b off : Nat} {zs : List Int} (h : Sl [] w (some ⟨b, off, none⟩) (recs eG zs)) : ∀ j, j < zs.length → w.cell? ⟨b, off + j, none⟩ = some (.int .u32 (zs[j]?.getD 0)) := by
  intro j hj
  have h1 : (recs eG zs)[j]? = some (.int .u32 (zs[j]?.getD 0)) := by
    rw [recs_ints, List.getElem?_map]
    simp [hj]
  exact (h j _ h1).2.2
theorem bw_stops (F : Fence) (n : Nat) (h : F.fn 260) (hro : F.round = none) (hn : 1 ≤ n) (Bs n₀ : Nat) (a : Option Addr) (cap : Nat) (zs : List Int) (hreach : zs.length * 4 ≤ 140737488351232) (w : World) (hBs : Bs < w.heap.size) (hn₀ : n₀ ≤ w.heap.size)
    (hc : w.cell? ⟨Bs, 0, none⟩ = some (.slice a zs.length cap)) (hI : Sl [] w a (recs eG zs)) (hlt : 0 < zs.length → ∀ b, a.map (·.block) = some b → b < n₀) :
    SeqStopsK F n Tryz.prog 260 #[.pointer (some ⟨Bs, 0, none⟩)] (dgE zs) (KpB n₀ Bs) (fun ys => ys = bwL zs zs.length) (fun pre => ∃ k, k ≤ zs.length ∧ pre = bwL zs k) zs.length w := fun l J Jx W hW _ _ hY h0 => by
  have hc' := (hW.cell (p := ⟨Bs, 0, none⟩) (show Bs < w.heap.size from hBs)).trans hc
  by_cases hz : zs.length = 0
  · rw [hz] at hc'
    exact (back1_nil_in F n h hro l Bs cap a J W hc' h0).mono fun e W' ⟨he, hj⟩ => ⟨he, .inl ⟨_, by rw [hz]; rfl, hj⟩⟩
  · obtain ⟨b, off, rfl⟩ := (Sl.ok hI (by rw [recs_len]; omega)).cases
    have hb : b < n₀ := hlt (by omega) b rfl
    have hcs := cell_of_sl hI
    refine (back1_in F n h hro hn l Bs n₀ b off cap zs hreach hb J Jx hY W hc' (fun j hj => (hW.cell (p := ⟨b, off + j, none⟩) (show b < w.heap.size from Nat.lt_of_lt_of_le hb hn₀)).trans (hcs j hj)) h0).mono ?_
    rintro e W' ⟨he, ⟨ys, rfl, hj⟩ | ⟨pre, ⟨k, hk, rfl⟩, hj⟩⟩
    · exact ⟨he, .inl ⟨_, rfl, hj⟩⟩
    · exact ⟨he, .inr ⟨_, ⟨k, hk, rfl⟩, hj⟩⟩
/-- word's step -/
def wdS (s g : Int) : Int := IntKind.u64.wrap (IntKind.u64.wrap (s * 1000000000) + IntKind.u64.wrap g)
def wdF (zs : List Int) (pre : List (Dg zs)) : Int := pre.foldl (fun s x => wdS s (zs[x.1]?.getD 0)) 0
theorem wdF_snoc (zs : List Int) (pre : List (Dg zs)) (x : Dg zs) : wdF zs (pre ++ [x]) = wdS (wdF zs pre) (zs[x.1]?.getD 0) := by simp [wdF]
set_option maxRecDepth 100000 in
set_option maxHeartbeats 2000000 in
theorem word_in (a : Option Addr) (cap : Nat) (zs : List Int) (w : World) (hz : zs.length ≤ 2) (hI : Sl [] w a (recs eG zs)) (hlt : 0 < zs.length → ∀ b, a.map (·.block) = some b → b < w.heap.size) :
    CallsIn Fence.wide 5 Tryz.prog 239 #[.slice a zs.length cap] w fun e w' => e = .returned (.tuple #[.int .u64 (wdF zs (bwL zs zs.length)), .bool true]) ∧ Below w.heap.size w w' := by
  refine callsIn_of_wp_marks Tryz.func239 rfl trivial ?_ rfl
  simp only [Tryz.ntmps239, List.size_toArray, List.length_cons, List.length_nil, Nat.reduceAdd, Nat.reduceSub, Array.replicate_succ, Array.replicate_zero, List.push_toArray, List.append_toArray, List.nil_append, List.cons_append]
  have hz' : ¬ (2 < (zs.length : Int)) := by omega
  gi_wp2_with (refine ⟨trivial, ?_⟩; gi_at_call 253; refine (back_in Fence.wide _ trivial rfl _ _ _ _).mono ?_; rintro e w' ⟨rfl, rfl⟩)
  have hs := cell_new_b w (.int .u64 0) 171
  have hb := cell_new_b (w.alloc (.cells #[.int .u64 0] 171)) (.slice a zs.length cap) 22
  rw [World.size_alloc] at hb
  have hBl : Below w.heap.size w ((w.alloc (.cells #[.int .u64 0] 171)).alloc (.cells #[.slice a zs.length cap] 22)) := ((Below.refl _ w).alloc (Nat.le_refl _) _).alloc (by simp) _
  have hI2 := Sl.mono hI (Ext.of_below hBl)
  refine wpIn_rangeFunc_ownG rfl (by decide) (gf := 260) (lb := #[.pointer (some ⟨w.heap.size + 1, 0, none⟩)]) rfl trivial (enters_of Tryz.func260 (by kernel_rfl) rfl)
    (bw_stops Fence.wide (5 - 1) trivial rfl (by decide) (w.heap.size + 1) w.heap.size a cap zs (by omega) _ (by simp) (by simp; omega) hb.1 hI2 hlt) KpB.trans (kpB_b (by simp; omega)) (Below.refl _ _) (fun _ => rfl)
    (fun pre W => (W.cell? ⟨w.heap.size, 0, none⟩ = some (.int .u64 (wdF zs pre)) ∧ W.frozen? ⟨w.heap.size, 0, none⟩ = false) ∧ Below w.heap.size w W)
    (fun _ _ _ => False)
    (OwnFrom.and (Own.from (fun s A B row hs hg hr => ⟨cell_kept hs.1 hg hr, (frozen_kept hs.1 hg hr).trans hs.2⟩) _) (ownFrom_below (Nat.le_refl _) (by simp; omega)))
    (fun _ _ _ _ _ hs _ _ => hs) ⟨⟨cell_alloc_b _ hs.1, frozen_alloc_b _ hs.1 hs.2⟩, hBl⟩ ?a1 ?assign ?body ?done ?stop
  case assign =>
    intro l x W K hK
    dsimp only [dgE]
    gi_wp2
    exact hK
  case body =>
    rintro l pre x W ⟨⟨hc, hf⟩, hB⟩ hpl
    gi_wp2
    refine ⟨(KeepsOthers.setCell _ _ _).from _, ⟨(Below.refl w.heap.size W).setCell (p := ⟨w.heap.size, 0, none⟩) (Nat.le_refl _) _, fun v hv => (World.cell?_setCell_other _ _ _ _ (by simp)).trans hv⟩, ⟨?_, by rw [World.frozen?_setCell]; exact hf⟩, hB.setCell (p := ⟨w.heap.size, 0, none⟩) (Nat.le_refl _) _⟩
    rw [wdF_snoc]
    exact World.cell?_setCell_same' _ _ _ (by rw [hc]; rfl)
  case done =>
    rintro D ys W hD rfl ⟨⟨hc, hf⟩, hB⟩ hK
    gi_wp2
    refine ⟨by simp, .inl ⟨_, _, rfl, run_takeDeferred hK, ?_⟩⟩
    refine ⟨_, results_tmp2 rfl _ _ _, rfl, ?_⟩
    exact hB.trans (belowK_b (w := w) (Nat.le_refl _) W D _ _ (by simp at hD; omega) hK rfl rfl)
  case stop =>
    rintro D c pre W _ _ h _
    exact h.elim
theorem sl_lt {w : World} {a : Option Addr} {zs : List Int} (h : Sl [] w a (recs eG zs)) : 0 < zs.length → ∀ b, a.map (·.block) = some b → b < w.heap.size := by
  intro hz b hb
  obtain ⟨b', off, rfl⟩ := (Sl.ok h (by rw [recs_len]; omega)).cases
  have h1 := cell_of_sl h 0 hz
  simp only [Option.map_some, Option.some.injEq] at hb
  subst hb
  by_cases hlt : b' < w.heap.size
  · exact hlt
  · exfalso
    unfold World.cell? at h1
    rw [Array.getElem?_eq_none (by simpa using hlt)] at h1
    simp at h1
theorem results_c1 {P : Program} {fn : Func} {a : Tmp} {t : TypeId} {tmps : Array Value} {w : World} {b : Nat} {v : Value} [ht : ScalarTy P t] (h : fn.results = #[.cell a t]) (hb : tmps.getD a undef = .pointer (some ⟨b, 0, none⟩)) (hc : w.cell? ⟨b, 0, none⟩ = some v) :
    (results fn tmps).run P w = .ok v w := by
  have hb' : tmps[a]?.getD undef = .pointer (some ⟨b, 0, none⟩) := by simpa using hb
  simp [results, h, hb', asAddr, loadVar, run_isAgg_no, hc]
def cmpV (x y : Int) : Int := if x < y then -1 else if y < x then 1 else 0
theorem nanI_w (x : Int) (w : World) : Ret Tryz.prog 252 [.int .i64 x] w (fun v w' => w = w' ∧ v = .bool false) := by
  refine enter Tryz.func252 rfl Tryz.ntmps252 rfl ?_
  repeat (first | refine T_seq ?_ | refine T_region ?_ | refine T_ret ?_ | refine T_skip ?_ | refine T_label ?_ | refine T_block ?_ | refine T_exit ?_ | refine N_then ?_ | refine N_thenR ?_ | refine N_thenE ?_ | refine N_inN ?_ | refine N_inR ?_ | refine N_inE ?_ | refine N_inO rfl ?_ | refine R_nil ?_ | refine R_skip rfl rfl rfl ?_ | refine R_skipS rfl rfl rfl ?_ | refine R_do rfl (Const_pure rfl) rfl rfl ?_ | refine R_do rfl (Const_len rfl) rfl rfl ?_ | refine R_do rfl (Const_add rfl rfl (by first | exact wrap_i64 (by omega) | exact wrap_u64 (by omega) | exact wrap_u32 (by omega) | exact wrap_u8 (by omega))) rfl rfl ?_ | refine R_do rfl (Const_sub rfl rfl (by first | exact wrap_i64 (by omega) | exact wrap_u64 (by omega) | exact wrap_u32 (by omega) | exact wrap_u8 (by omega))) rfl rfl ?_)
  exact N_ret1 (.inl rfl) rfl rfl ⟨rfl, congrArg Value.bool (B_false (by omega))⟩
theorem cmpI_w (x y : Int) (w : World) : Ret Tryz.prog 237 [.int .i64 x, .int .i64 y] w (fun v w' => w = w' ∧ v = .int .i64 (cmpV x y)) := by
  refine enter Tryz.func237 rfl Tryz.ntmps237 rfl ?_
  repeat (first | refine T_seq ?_ | refine T_region ?_ | refine T_ret ?_ | refine T_skip ?_ | refine T_label ?_ | refine T_block ?_ | refine T_exit ?_ | refine N_then ?_ | refine N_thenR ?_ | refine N_thenE ?_ | refine N_inN ?_ | refine N_inR ?_ | refine N_inE ?_ | refine N_inO rfl ?_ | refine R_nil ?_ | refine R_skip rfl rfl rfl ?_ | refine R_skipS rfl rfl rfl ?_ | refine R_do rfl (Const_pure rfl) rfl rfl ?_ | refine R_do rfl (Const_len rfl) rfl rfl ?_ | refine R_do rfl (Const_add rfl rfl (by first | exact wrap_i64 (by omega) | exact wrap_u64 (by omega) | exact wrap_u32 (by omega) | exact wrap_u8 (by omega))) rfl rfl ?_ | refine R_do rfl (Const_sub rfl rfl (by first | exact wrap_i64 (by omega) | exact wrap_u64 (by omega) | exact wrap_u32 (by omega) | exact wrap_u8 (by omega))) rfl rfl ?_)
  (refine R_ef rfl (Eff_call rfl (nanI_w x w)) rfl rfl ?_; rintro _ w' ⟨rfl, rfl⟩)
  refine ⟨trivial, ?_⟩
  repeat (first | refine T_seq ?_ | refine T_region ?_ | refine T_ret ?_ | refine T_skip ?_ | refine T_label ?_ | refine T_block ?_ | refine T_exit ?_ | refine N_then ?_ | refine N_thenR ?_ | refine N_thenE ?_ | refine N_inN ?_ | refine N_inR ?_ | refine N_inE ?_ | refine N_inO rfl ?_ | refine R_nil ?_ | refine R_skip rfl rfl rfl ?_ | refine R_skipS rfl rfl rfl ?_ | refine R_do rfl (Const_pure rfl) rfl rfl ?_ | refine R_do rfl (Const_len rfl) rfl rfl ?_ | refine R_do rfl (Const_add rfl rfl (by first | exact wrap_i64 (by omega) | exact wrap_u64 (by omega) | exact wrap_u32 (by omega) | exact wrap_u8 (by omega))) rfl rfl ?_ | refine R_do rfl (Const_sub rfl rfl (by first | exact wrap_i64 (by omega) | exact wrap_u64 (by omega) | exact wrap_u32 (by omega) | exact wrap_u8 (by omega))) rfl rfl ?_)
  (refine R_ef rfl (Eff_call rfl (nanI_w y w)) rfl rfl ?_; rintro _ w' ⟨rfl, rfl⟩)
  refine ⟨trivial, ?_⟩
  unfold cmpV
  by_cases h1 : x < y
  · rw [if_pos h1]
    repeat' (first | refine T_seq ?_ | refine T_region ?_ | refine T_ret ?_ | refine T_skip ?_ | refine T_label ?_ | refine T_block ?_ | refine T_exit ?_ | refine N_then ?_ | refine N_thenR ?_ | refine N_thenE ?_ | refine N_inN ?_ | refine N_inR ?_ | refine N_inE ?_ | refine N_inO rfl ?_ | refine R_nil ?_ | refine R_skip rfl rfl rfl ?_ | refine R_skipS rfl rfl rfl ?_ | refine R_do rfl (Const_pure rfl) rfl rfl ?_ | refine R_do rfl (Const_len rfl) rfl rfl ?_ | refine R_do rfl (Const_add rfl rfl (by first | exact wrap_i64 (by omega) | exact wrap_u64 (by omega) | exact wrap_u32 (by omega) | exact wrap_u8 (by omega))) rfl rfl ?_ | refine R_do rfl (Const_sub rfl rfl (by first | exact wrap_i64 (by omega) | exact wrap_u64 (by omega) | exact wrap_u32 (by omega) | exact wrap_u8 (by omega))) rfl rfl ?_ | refine T_yes rfl (by omega) ?_ | refine T_no rfl (by omega) ?_ | refine R_grdY rfl rfl (by omega) ?_ | refine R_grdN rfl rfl (by omega) ?_ | refine T_dec rfl (fun h => ?_) (fun h => ?_) | refine T_cond_true rfl ?_ | refine T_cond_false rfl ?_ | refine R_grd rfl rfl (fun h => ?_) (fun h => ?_))
    exact N_ret1 (.inl rfl) rfl rfl ⟨rfl, rfl⟩
  · rw [if_neg h1]
    by_cases h2 : y < x
    · rw [if_pos h2]
      repeat' (first | refine T_seq ?_ | refine T_region ?_ | refine T_ret ?_ | refine T_skip ?_ | refine T_label ?_ | refine T_block ?_ | refine T_exit ?_ | refine N_then ?_ | refine N_thenR ?_ | refine N_thenE ?_ | refine N_inN ?_ | refine N_inR ?_ | refine N_inE ?_ | refine N_inO rfl ?_ | refine R_nil ?_ | refine R_skip rfl rfl rfl ?_ | refine R_skipS rfl rfl rfl ?_ | refine R_do rfl (Const_pure rfl) rfl rfl ?_ | refine R_do rfl (Const_len rfl) rfl rfl ?_ | refine R_do rfl (Const_add rfl rfl (by first | exact wrap_i64 (by omega) | exact wrap_u64 (by omega) | exact wrap_u32 (by omega) | exact wrap_u8 (by omega))) rfl rfl ?_ | refine R_do rfl (Const_sub rfl rfl (by first | exact wrap_i64 (by omega) | exact wrap_u64 (by omega) | exact wrap_u32 (by omega) | exact wrap_u8 (by omega))) rfl rfl ?_ | refine T_yes rfl (by omega) ?_ | refine T_no rfl (by omega) ?_ | refine R_grdY rfl rfl (by omega) ?_ | refine R_grdN rfl rfl (by omega) ?_ | refine T_dec rfl (fun h => ?_) (fun h => ?_) | refine T_cond_true rfl ?_ | refine T_cond_false rfl ?_ | refine R_grd rfl rfl (fun h => ?_) (fun h => ?_))
      exact N_ret1 (.inl rfl) rfl rfl ⟨rfl, rfl⟩
    · rw [if_neg h2]
      repeat' (first | refine T_seq ?_ | refine T_region ?_ | refine T_ret ?_ | refine T_skip ?_ | refine T_label ?_ | refine T_block ?_ | refine T_exit ?_ | refine N_then ?_ | refine N_thenR ?_ | refine N_thenE ?_ | refine N_inN ?_ | refine N_inR ?_ | refine N_inE ?_ | refine N_inO rfl ?_ | refine R_nil ?_ | refine R_skip rfl rfl rfl ?_ | refine R_skipS rfl rfl rfl ?_ | refine R_do rfl (Const_pure rfl) rfl rfl ?_ | refine R_do rfl (Const_len rfl) rfl rfl ?_ | refine R_do rfl (Const_add rfl rfl (by first | exact wrap_i64 (by omega) | exact wrap_u64 (by omega) | exact wrap_u32 (by omega) | exact wrap_u8 (by omega))) rfl rfl ?_ | refine R_do rfl (Const_sub rfl rfl (by first | exact wrap_i64 (by omega) | exact wrap_u64 (by omega) | exact wrap_u32 (by omega) | exact wrap_u8 (by omega))) rfl rfl ?_ | refine T_yes rfl (by omega) ?_ | refine T_no rfl (by omega) ?_ | refine R_grdY rfl rfl (by omega) ?_ | refine R_grdN rfl rfl (by omega) ?_ | refine T_dec rfl (fun h => ?_) (fun h => ?_) | refine T_cond_true rfl ?_ | refine T_cond_false rfl ?_ | refine R_grd rfl rfl (fun h => ?_) (fun h => ?_))
      exact N_ret1 (.inl rfl) rfl rfl ⟨rfl, rfl⟩

theorem nanU_w (x : Int) (w : World) : Ret Tryz.prog 261 [.int .u32 x] w (fun v w' => w = w' ∧ v = .bool false) := by
  refine enter Tryz.func261 rfl Tryz.ntmps261 rfl ?_
  repeat (first | refine T_seq ?_ | refine T_region ?_ | refine T_ret ?_ | refine T_skip ?_ | refine T_label ?_ | refine T_block ?_ | refine T_exit ?_ | refine N_then ?_ | refine N_thenR ?_ | refine N_thenE ?_ | refine N_inN ?_ | refine N_inR ?_ | refine N_inE ?_ | refine N_inO rfl ?_ | refine R_nil ?_ | refine R_skip rfl rfl rfl ?_ | refine R_skipS rfl rfl rfl ?_ | refine R_do rfl (Const_pure rfl) rfl rfl ?_ | refine R_do rfl (Const_len rfl) rfl rfl ?_ | refine R_do rfl (Const_add rfl rfl (by first | exact wrap_i64 (by omega) | exact wrap_u64 (by omega) | exact wrap_u32 (by omega) | exact wrap_u8 (by omega))) rfl rfl ?_ | refine R_do rfl (Const_sub rfl rfl (by first | exact wrap_i64 (by omega) | exact wrap_u64 (by omega) | exact wrap_u32 (by omega) | exact wrap_u8 (by omega))) rfl rfl ?_)
  exact N_ret1 (.inl rfl) rfl rfl ⟨rfl, congrArg Value.bool (B_false (by omega))⟩
theorem cmpU_w (x y : Int) (w : World) : Ret Tryz.prog 254 [.int .u32 x, .int .u32 y] w (fun v w' => w = w' ∧ v = .int .i64 (cmpV x y)) := by
  refine enter Tryz.func254 rfl Tryz.ntmps254 rfl ?_
  repeat (first | refine T_seq ?_ | refine T_region ?_ | refine T_ret ?_ | refine T_skip ?_ | refine T_label ?_ | refine T_block ?_ | refine T_exit ?_ | refine N_then ?_ | refine N_thenR ?_ | refine N_thenE ?_ | refine N_inN ?_ | refine N_inR ?_ | refine N_inE ?_ | refine N_inO rfl ?_ | refine R_nil ?_ | refine R_skip rfl rfl rfl ?_ | refine R_skipS rfl rfl rfl ?_ | refine R_do rfl (Const_pure rfl) rfl rfl ?_ | refine R_do rfl (Const_len rfl) rfl rfl ?_ | refine R_do rfl (Const_add rfl rfl (by first | exact wrap_i64 (by omega) | exact wrap_u64 (by omega) | exact wrap_u32 (by omega) | exact wrap_u8 (by omega))) rfl rfl ?_ | refine R_do rfl (Const_sub rfl rfl (by first | exact wrap_i64 (by omega) | exact wrap_u64 (by omega) | exact wrap_u32 (by omega) | exact wrap_u8 (by omega))) rfl rfl ?_)
  (refine R_ef rfl (Eff_call rfl (nanU_w x w)) rfl rfl ?_; rintro _ w' ⟨rfl, rfl⟩)
  refine ⟨trivial, ?_⟩
  repeat (first | refine T_seq ?_ | refine T_region ?_ | refine T_ret ?_ | refine T_skip ?_ | refine T_label ?_ | refine T_block ?_ | refine T_exit ?_ | refine N_then ?_ | refine N_thenR ?_ | refine N_thenE ?_ | refine N_inN ?_ | refine N_inR ?_ | refine N_inE ?_ | refine N_inO rfl ?_ | refine R_nil ?_ | refine R_skip rfl rfl rfl ?_ | refine R_skipS rfl rfl rfl ?_ | refine R_do rfl (Const_pure rfl) rfl rfl ?_ | refine R_do rfl (Const_len rfl) rfl rfl ?_ | refine R_do rfl (Const_add rfl rfl (by first | exact wrap_i64 (by omega) | exact wrap_u64 (by omega) | exact wrap_u32 (by omega) | exact wrap_u8 (by omega))) rfl rfl ?_ | refine R_do rfl (Const_sub rfl rfl (by first | exact wrap_i64 (by omega) | exact wrap_u64 (by omega) | exact wrap_u32 (by omega) | exact wrap_u8 (by omega))) rfl rfl ?_)
  (refine R_ef rfl (Eff_call rfl (nanU_w y w)) rfl rfl ?_; rintro _ w' ⟨rfl, rfl⟩)
  refine ⟨trivial, ?_⟩
  unfold cmpV
  by_cases h1 : x < y
  · rw [if_pos h1]
    repeat' (first | refine T_seq ?_ | refine T_region ?_ | refine T_ret ?_ | refine T_skip ?_ | refine T_label ?_ | refine T_block ?_ | refine T_exit ?_ | refine N_then ?_ | refine N_thenR ?_ | refine N_thenE ?_ | refine N_inN ?_ | refine N_inR ?_ | refine N_inE ?_ | refine N_inO rfl ?_ | refine R_nil ?_ | refine R_skip rfl rfl rfl ?_ | refine R_skipS rfl rfl rfl ?_ | refine R_do rfl (Const_pure rfl) rfl rfl ?_ | refine R_do rfl (Const_len rfl) rfl rfl ?_ | refine R_do rfl (Const_add rfl rfl (by first | exact wrap_i64 (by omega) | exact wrap_u64 (by omega) | exact wrap_u32 (by omega) | exact wrap_u8 (by omega))) rfl rfl ?_ | refine R_do rfl (Const_sub rfl rfl (by first | exact wrap_i64 (by omega) | exact wrap_u64 (by omega) | exact wrap_u32 (by omega) | exact wrap_u8 (by omega))) rfl rfl ?_ | refine T_yes rfl (by omega) ?_ | refine T_no rfl (by omega) ?_ | refine R_grdY rfl rfl (by omega) ?_ | refine R_grdN rfl rfl (by omega) ?_ | refine T_dec rfl (fun h => ?_) (fun h => ?_) | refine T_cond_true rfl ?_ | refine T_cond_false rfl ?_ | refine R_grd rfl rfl (fun h => ?_) (fun h => ?_))
    exact N_ret1 (.inl rfl) rfl rfl ⟨rfl, rfl⟩
  · rw [if_neg h1]
    by_cases h2 : y < x
    · rw [if_pos h2]
      repeat' (first | refine T_seq ?_ | refine T_region ?_ | refine T_ret ?_ | refine T_skip ?_ | refine T_label ?_ | refine T_block ?_ | refine T_exit ?_ | refine N_then ?_ | refine N_thenR ?_ | refine N_thenE ?_ | refine N_inN ?_ | refine N_inR ?_ | refine N_inE ?_ | refine N_inO rfl ?_ | refine R_nil ?_ | refine R_skip rfl rfl rfl ?_ | refine R_skipS rfl rfl rfl ?_ | refine R_do rfl (Const_pure rfl) rfl rfl ?_ | refine R_do rfl (Const_len rfl) rfl rfl ?_ | refine R_do rfl (Const_add rfl rfl (by first | exact wrap_i64 (by omega) | exact wrap_u64 (by omega) | exact wrap_u32 (by omega) | exact wrap_u8 (by omega))) rfl rfl ?_ | refine R_do rfl (Const_sub rfl rfl (by first | exact wrap_i64 (by omega) | exact wrap_u64 (by omega) | exact wrap_u32 (by omega) | exact wrap_u8 (by omega))) rfl rfl ?_ | refine T_yes rfl (by omega) ?_ | refine T_no rfl (by omega) ?_ | refine R_grdY rfl rfl (by omega) ?_ | refine R_grdN rfl rfl (by omega) ?_ | refine T_dec rfl (fun h => ?_) (fun h => ?_) | refine T_cond_true rfl ?_ | refine T_cond_false rfl ?_ | refine R_grd rfl rfl (fun h => ?_) (fun h => ?_))
      exact N_ret1 (.inl rfl) rfl rfl ⟨rfl, rfl⟩
    · rw [if_neg h2]
      repeat' (first | refine T_seq ?_ | refine T_region ?_ | refine T_ret ?_ | refine T_skip ?_ | refine T_label ?_ | refine T_block ?_ | refine T_exit ?_ | refine N_then ?_ | refine N_thenR ?_ | refine N_thenE ?_ | refine N_inN ?_ | refine N_inR ?_ | refine N_inE ?_ | refine N_inO rfl ?_ | refine R_nil ?_ | refine R_skip rfl rfl rfl ?_ | refine R_skipS rfl rfl rfl ?_ | refine R_do rfl (Const_pure rfl) rfl rfl ?_ | refine R_do rfl (Const_len rfl) rfl rfl ?_ | refine R_do rfl (Const_add rfl rfl (by first | exact wrap_i64 (by omega) | exact wrap_u64 (by omega) | exact wrap_u32 (by omega) | exact wrap_u8 (by omega))) rfl rfl ?_ | refine R_do rfl (Const_sub rfl rfl (by first | exact wrap_i64 (by omega) | exact wrap_u64 (by omega) | exact wrap_u32 (by omega) | exact wrap_u8 (by omega))) rfl rfl ?_ | refine T_yes rfl (by omega) ?_ | refine T_no rfl (by omega) ?_ | refine R_grdY rfl rfl (by omega) ?_ | refine R_grdN rfl rfl (by omega) ?_ | refine T_dec rfl (fun h => ?_) (fun h => ?_) | refine T_cond_true rfl ?_ | refine T_cond_false rfl ?_ | refine R_grd rfl rfl (fun h => ?_) (fun h => ?_))
      exact N_ret1 (.inl rfl) rfl rfl ⟨rfl, rfl⟩

def cmpB (zs ys : List Int) : Nat → Int
  | 0 => 0
  | k + 1 => if zs[k]?.getD 0 = ys[k]?.getD 0 then cmpB zs ys k else cmpV (zs[k]?.getD 0) (ys[k]?.getD 0)
def Eqs (zs ys : List Int) (pre : List (Dg zs)) : Prop := ∀ x ∈ pre, zs[x.1]?.getD 0 = ys[x.1]?.getD 0
theorem cmpB_eqs {zs ys : List Int} : ∀ k, k ≤ zs.length → Eqs zs ys (bwL zs k) → cmpB zs ys zs.length = cmpB zs ys (zs.length - k)
  | 0, _, _ => rfl
  | k + 1, hk, h => by
    rw [bwL_succ (by omega)] at h
    rw [cmpB_eqs k (by omega) (fun x hx => h x (List.mem_append.2 (.inl hx)))]
    have e : zs.length - k = zs.length - (k + 1) + 1 := by omega
    have h1 := h ⟨zs.length - 1 - k, by omega⟩ (by simp)
    have e2 : zs.length - 1 - k = zs.length - (k + 1) := by omega
    rw [e, cmpB, if_pos (by rw [← e2]; exact h1)]
theorem cmpB_stop {zs ys : List Int} {pre0 : List (Dg zs)} {x : Dg zs} (k : Nat) (hk : k ≤ zs.length) (hp : bwL zs k = pre0 ++ [x]) (hE : Eqs zs ys pre0) (hn : zs[x.1]?.getD 0 ≠ ys[x.1]?.getD 0) :
    cmpB zs ys zs.length = cmpV (zs[x.1]?.getD 0) (ys[x.1]?.getD 0) := by
  match k, hk, hp with
  | 0, _, hp => simp [bwL] at hp
  | k + 1, hk, hp =>
    rw [bwL_succ (by omega)] at hp
    obtain ⟨e1, e2⟩ := List.append_inj' hp rfl
    subst e1
    have e3 : x.1 = zs.length - 1 - k := by rw [← (List.cons.inj e2).1]
    have e : zs.length - k = x.1 + 1 := by omega
    rw [cmpB_eqs k (by omega) hE, e, cmpB, if_neg hn]
set_option maxRecDepth 100000 in
set_option maxHeartbeats 2000000 in
theorem compare_in (a b : Option Addr) (cap cap2 : Nat) (zs ys : List Int) (w : World) (hz : zs.length * 4 ≤ 140737488351232) (hlen : ys.length = zs.length) (hI : Sl [] w a (recs eG zs)) (hJ : Sl [] w b (recs eG ys)) :
    CallsIn Fence.wide 5 Tryz.prog 238 #[.slice a zs.length cap, .slice b zs.length cap2] w fun e w' => e = .returned (.int .i64 (cmpB zs ys zs.length)) ∧ Below w.heap.size w w' := by
  refine callsIn_of_wp_marks Tryz.func238 rfl trivial ?_ rfl
  simp only [Tryz.ntmps238, List.size_toArray, List.length_cons, List.length_nil, Nat.reduceAdd, Nat.reduceSub, Array.replicate_succ, Array.replicate_zero, List.push_toArray, List.append_toArray, List.nil_append, List.cons_append]
  gi_wp2_with (refine ⟨trivial, ?_⟩; gi_at_call 253; refine (back_in Fence.wide _ trivial rfl _ _ _ _).mono ?_; rintro e w' ⟨rfl, rfl⟩)
  have hs3 := cell_new_b w (.slice b zs.length cap2) 22
  have hs4 := cell_new_b (w.alloc (.cells #[.slice b zs.length cap2] 22)) (.int .i64 0) 3
  have hb := cell_new_b ((w.alloc (.cells #[.slice b zs.length cap2] 22)).alloc (.cells #[.int .i64 0] 3)) (.slice a zs.length cap) 22
  simp only [World.size_alloc] at hb hs4
  have hBl : Below w.heap.size w (((w.alloc (.cells #[.slice b zs.length cap2] 22)).alloc (.cells #[.int .i64 0] 3)).alloc (.cells #[.slice a zs.length cap] 22)) := (((Below.refl _ w).alloc (Nat.le_refl _) _).alloc (by simp) _).alloc (by simp; omega) _
  have hI2 := Sl.mono hI (Ext.of_below hBl)
  refine wpIn_rangeFunc_ownG rfl (by decide) (gf := 260) (lb := #[.pointer (some ⟨w.heap.size + 1 + 1, 0, none⟩)]) rfl trivial (enters_of Tryz.func260 (by kernel_rfl) rfl)
    (bw_stops Fence.wide (5 - 1) trivial rfl (by decide) (w.heap.size + 1 + 1) w.heap.size a cap zs hz _ (by simp) (by simp; omega) hb.1 hI2 (sl_lt hI)) KpB.trans (kpB_b (by simp; omega)) (Below.refl _ _) (fun _ => rfl)
    (fun pre W => ((W.cell? ⟨w.heap.size, 0, none⟩ = some (.slice b zs.length cap2) ∧ W.frozen? ⟨w.heap.size, 0, none⟩ = false) ∧ (W.cell? ⟨w.heap.size + 1, 0, none⟩ = some (.int .i64 0) ∧ W.frozen? ⟨w.heap.size + 1, 0, none⟩ = false)) ∧ (Eqs zs ys pre ∧ Below w.heap.size w W))
    (fun c pre W => (c = .ret ∧ ∃ pre0 x, pre = pre0 ++ [x] ∧ Eqs zs ys pre0 ∧ zs[x.1]?.getD 0 ≠ ys[x.1]?.getD 0 ∧ W.cell? ⟨w.heap.size + 1, 0, none⟩ = some (.int .i64 (cmpV (zs[x.1]?.getD 0) (ys[x.1]?.getD 0)))) ∧ Below w.heap.size w W)
    ?hI ?hIx ⟨⟨⟨cell_alloc_b _ (cell_alloc_b _ hs3.1), frozen_alloc_b _ (cell_alloc_b _ hs3.1) (frozen_alloc_b _ hs3.1 hs3.2)⟩, ⟨cell_alloc_b _ hs4.1, frozen_alloc_b _ hs4.1 hs4.2⟩⟩, fun x h => absurd h (by simp), hBl⟩ ?a1 ?assign ?body ?done ?stop
  case hI => exact OwnFrom.and (Own.from (fun s A B row hs hg hr => ⟨⟨cell_kept hs.1.1 hg hr, (frozen_kept hs.1.1 hg hr).trans hs.1.2⟩, cell_kept hs.2.1 hg hr, (frozen_kept hs.2.1 hg hr).trans hs.2.2⟩) _) (OwnFrom.and (fun _ _ _ _ hs _ _ => hs) (ownFrom_below (Nat.le_refl _) (by simp; omega)))
  case hIx => exact fun c => OwnFrom.and (Own.from (fun s A B row hs hg hr => let ⟨e, pre0, x, hp, hE, hn, hc⟩ := hs; ⟨e, pre0, x, hp, hE, hn, cell_kept hc hg hr⟩) _) (ownFrom_below (Nat.le_refl _) (by simp; omega))
  case assign =>
    intro l x W K hK
    dsimp only [dgE]
    gi_wp2
    exact hK
  case body =>
    rintro l pre x W ⟨⟨⟨hc, hf⟩, hc4, hf4⟩, hE, hB⟩ hpl
    have hx := x.2
    obtain ⟨b', off, rfl⟩ := (Sl.ok hJ (by rw [recs_len]; omega)).cases
    have hcx : W.cell? ⟨b', off + x.1, none⟩ = some (.int .u32 (ys[x.1]?.getD 0)) := (hB.cell (p := ⟨b', off + x.1, none⟩) (sl_lt hJ (by omega) b' rfl)).trans (cell_of_sl hJ x.1 (by omega))
    gi_wp2_with (refine ⟨trivial, ?_⟩; gi_at_call 254; refine (CallsIn.inRound l (callsIn_wide.2 (cmpU_w _ _ _))).mono ?_; rintro e w' ⟨v, rfl, rfl, rfl⟩)
    · rename_i hne
      have hne' : zs[x.1]?.getD 0 ≠ ys[x.1]?.getD 0 := by simpa [hx, show x.1 < ys.length by omega] using hne
      have ez : zs[x.1] = zs[x.1]?.getD 0 := by simp [hx]
      have ey : ys[x.1]'(by omega) = ys[x.1]?.getD 0 := by simp [show x.1 < ys.length by omega]
      refine ⟨(KeepsOthers.setCell _ _ _).from _, ⟨rfl, pre, x, rfl, hE, hne', ?_⟩, hB.setCell (p := ⟨w.heap.size + 1, 0, none⟩) (by simp) _⟩
      rw [ez, ey]
      exact World.cell?_setCell_same' _ _ _ (by rw [hc4]; rfl)
    · rename_i hne
      have he : zs[x.1]?.getD 0 = ys[x.1]?.getD 0 := by simpa [hx, show x.1 < ys.length by omega] using hne
      refine ⟨KeepsFrom.refl _ _, KpB.refl _ _ _, ⟨⟨⟨hc, hf⟩, hc4, hf4⟩, ?_, hB⟩⟩
      intro y hy
      rcases List.mem_append.1 hy with hy | hy
      · exact hE y hy
      · rw [List.mem_singleton.1 hy]; exact he
  case done =>
    rintro D xs W hD rfl ⟨⟨_, hc4, hf4⟩, hE, hB⟩ hK
    gi_wp2
    have hD' : w.heap.size + 1 + 1 + 1 ≤ D := by simpa using hD
    have hne : (⟨w.heap.size + 1, 0, none⟩ : Addr).block ≠ D := by simp; omega
    have hK' : (W.setCell ⟨w.heap.size + 1, 0, none⟩ (.int .i64 0)).heap[D]? = some (.deferred (some [])) := (Below.heap_setCell W _ _ D (by simp; omega)).trans hK
    refine ⟨by simp, .inl ⟨_, _, rfl, run_takeDeferred hK', ?_⟩⟩
    have hq := World.cell?_setCell_same' W ⟨w.heap.size + 1, 0, none⟩ (.int .i64 0) (by rw [hc4]; rfl)
    refine ⟨_, results_c1 rfl rfl (cell_kept hq (grownBy_putObj' _ D _) (fun r e => by cases e; exact ⟨_, hK', rfl⟩)), ?_, ?_⟩
    · rw [cmpB_eqs zs.length (Nat.le_refl _) hE, Nat.sub_self]; rfl
    · exact (hB.setCell (p := ⟨w.heap.size + 1, 0, none⟩) (by simp) _).trans (belowK_b (w := w) (Nat.le_refl _) _ D _ _ (by omega) hK' rfl rfl)
  case stop =>
    rintro D c pre W hD ⟨k, hk, rfl⟩ ⟨⟨rfl, pre0, x, hp, hE, hne, hc4⟩, hB⟩ hK
    gi_wp2
    have hD' : w.heap.size + 1 + 1 + 1 ≤ D := by simpa using hD
    refine ⟨by simp, .inl ⟨_, _, rfl, run_takeDeferred hK, ?_⟩⟩
    refine ⟨_, results_c1 rfl rfl (cell_kept hc4 (grownBy_putObj' _ D _) (fun r e => by cases e; exact ⟨_, hK, rfl⟩)), ?_, ?_⟩
    · rw [cmpB_stop k hk hp hE hne]
    · exact hB.trans (belowK_b (w := w) (Nat.le_refl _) W D _ _ (by omega) hK rfl rfl)
end Go.Proofs.YtllaoaobnnondaaGreatR
