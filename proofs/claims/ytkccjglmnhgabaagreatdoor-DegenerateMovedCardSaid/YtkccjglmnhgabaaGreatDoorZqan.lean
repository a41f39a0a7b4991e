/- slices.Values, AppendSeq, Collect, Sorted at ints. Quotients rounded down, fractions in lowest terms, division group by group from below. Plain. integer: times, whose result is owned -/
import Derived.RangeFuncBox
import Derived.Maps.AppendAt
import Derived.Test.YtkccjglmnhgabaaGreatDoorZqak
import Derived.Test.YtkccjglmnhgabaaGreatDoorZqam
import Derived.Test.YtkccjglmnhgabaaGreatDoorZqaf
import Derived.Test.YtkccjglmnhgabaaGreatDoorZqag
set_option linter.unusedSimpArgs false
set_option linter.unusedVariables false
set_option maxRecDepth 100000
set_option maxHeartbeats 4000000
namespace Go.Proofs.YtkccjglmnhgabaaGreatDoor
open Go Go.Fx Go.RowKit Go.Shelf
attribute [local go_sem] Oper.semAt_some
theorem aNS (F : Fence) (n : Nat) (h : F.fn 70) (hro : F.round = none) (hn : 1 ≤ n) (l Bs n₀ b off cap : Nat) (zs : List Int) (hreach : zs.length * 8 ≤ 140737488351232) (hb : b < n₀) (J Jx : List Int → World → Prop)
  (hY : ∀ pre x W, J pre W → pre.length < zs.length → YieldAt F (n - 1) Tryz.prog l #[.int .i64 x] W fun e W' =>
   (e = .returned (.bool true) ∧ J (pre ++ [x]) W' ∧ Below n₀ W W') ∨ (e = .returned (.bool false) ∧ Jx (pre ++ [x]) W'))
  (W : World) (hBs : W.cell? ⟨Bs, 0, none⟩ = some (.slice (some ⟨b, off, none⟩) zs.length cap)) (hc : ∀ j, j < zs.length → W.cell? ⟨b, off + j, none⟩ = some (.int .i64 (zs[j]?.getD 0))) (h0 : J [] W) :
  CallsIn F n Tryz.prog 70 #[.func (.yield l) #[] #[], .pointer (some ⟨Bs, 0, none⟩)] W fun e W' => (∃ v, e = .returned v) ∧
   ((∃ ys, ys = zs ∧ J ys W') ∨ (∃ pre, pre <+: zs ∧ Jx pre W')) := by
 refine callsIn_of_wp Tryz.func70 rfl h ?_ hro
 simp only [Tryz.ntmps70, List.size_toArray, List.length_cons, List.length_nil, Nat.reduceAdd, Nat.reduceSub, Array.replicate_succ, Array.replicate_zero, List.push_toArray, List.append_toArray, List.nil_append, List.cons_append]
 gi_wp2
 gi_loopw [7] (fun i wr => ∃ k : Nat, k ≤ zs.length ∧ i = .int .i64 k ∧ J (zs.take k) wr ∧ Below n₀ W wr)
  (fun i _ => zs.length - (intOf i).toNat)
 case atStart => exact ⟨0, Nat.zero_le _, rfl, h0, Below.refl _ _⟩
 case round =>
  obtain ⟨k, hk, rfl, hJs, hnx⟩ := hrel
  have hcx : k < zs.length → wr.cell? ⟨b, off + k, none⟩ = some (.int .i64 (zs[k]?.getD 0)) := fun h => (hnx.cell (p := ⟨b, off + k, none⟩) hb).trans (hc k h)
  by_cases hlt : k < zs.length
  ·obtain ⟨fn, tmps, assign, body, hy, hR⟩ := hY _ (zs[k]?.getD 0) wr hJs (by rw [List.length_take]; omega)
   have hcx' := hcx hlt
   clear hcx
   have hts : zs.take (k + 1) = zs.take k ++ [zs[k]?.getD 0] := by
    rw [List.take_add_one]; congr 1
    simp [hlt]
   obtain ⟨g, hg⟩ : ∃ g, zs[k]?.getD 0 = g := ⟨_, rfl⟩
   rw [hg] at hy hR hcx' hts
   gi_wp2
   refine hR.mono ?_
   rintro e W3 (⟨rfl, hJ3, hk3⟩ | ⟨rfl, hJx3⟩)
   ·gi_wp2
    go_roundw
    case rel => exact ⟨k + 1, by omega, by simp, by rw [hts]; exact hJ3, hnx.trans hk3⟩
    case measure => simp [intOf]; omega
   ·gi_wp2
    refine bodyPost_ret (results_none rfl _ _ _) rfl ?_
    exact ⟨⟨_, rfl⟩, .inr ⟨_, by rw [← hts]; exact List.take_prefix _ _, hJx3⟩⟩
  ·obtain rfl : k = zs.length := by omega
   rw [List.take_length] at hJs
   gi_wp2
   go_end0
   exact ⟨⟨_, rfl⟩, .inl ⟨_, rfl, hJs⟩⟩
theorem aEN (F : Fence) (n : Nat) (h : F.fn 70) (hro : F.round = none) (l Bs c : Nat) (a : Option Addr) (J : List Int → World → Prop) (W : World) (hBs : W.cell? ⟨Bs, 0, none⟩ = some (.slice a 0 c)) (h0 : J [] W) :
  CallsIn F n Tryz.prog 70 #[.func (.yield l) #[] #[], .pointer (some ⟨Bs, 0, none⟩)] W fun e W' => (∃ v, e = .returned v) ∧ J [] W' := by
 refine callsIn_of_wp Tryz.func70 rfl h ?_ hro
 simp only [Tryz.ntmps70, List.size_toArray, List.length_cons, List.length_nil, Nat.reduceAdd, Nat.reduceSub, Array.replicate_succ, Array.replicate_zero, List.push_toArray, List.append_toArray, List.nil_append, List.cons_append]
 gi_wp2
 gi_loopw [7] (fun i wr => i = .int .i64 0 ∧ J [] wr) (fun _ _ => 0)
 case atStart => exact ⟨rfl, h0⟩
 case round =>
  obtain ⟨rfl, hJs⟩ := hrel
  gi_wp2
  go_end0
  exact ⟨⟨_, rfl⟩, hJs⟩
theorem yM {w : World} {b off : Nat} {zs : List Int} (h : Sl [] w (some ⟨b, off, none⟩) (recs (eI .i64) zs)) : ∀ j, j < zs.length → w.cell? ⟨b, off + j, none⟩ = some (.int .i64 (zs[j]?.getD 0)) := by
 intro j hj
 have h1 : (recs (eI .i64) zs)[j]? = some (.int .i64 (zs[j]?.getD 0)) := by
  rw [mP, List.getElem?_map]
  simp [hj]
 exact (h j _ h1).2.2
theorem aIJ (F : Fence) (n : Nat) (h : F.fn 70) (hro : F.round = none) (hn : 1 ≤ n) (Bs n₀ : Nat) (a : Option Addr) (cap : Nat) (zs : List Int) (hreach : zs.length * 8 ≤ 140737488351232) (w : World) (hBs : Bs < w.heap.size) (hn₀ : n₀ ≤ w.heap.size)
  (hc : w.cell? ⟨Bs, 0, none⟩ = some (.slice a zs.length cap)) (hI : Sl [] w a (recs (eI .i64) zs)) (hlt : 0 < zs.length → ∀ b, a.map (·.block) = some b → b < n₀) :
  SeqStopsK F n Tryz.prog 70 #[.pointer (some ⟨Bs, 0, none⟩)] (fun x : Int => #[Value.int .i64 x]) (Below n₀) (fun ys => ys = zs) (fun pre => pre <+: zs) zs.length w := fun l J Jx W hW _ _ hY h0 => by
 have hc' := (hW.cell (p := ⟨Bs, 0, none⟩) (show Bs < w.heap.size from hBs)).trans hc
 by_cases hz : zs.length = 0
 ·have hnil : zs = [] := List.length_eq_zero_iff.1 hz
  rw [hz] at hc'
  exact (aEN F n h hro l Bs cap a J W hc' h0).mono fun e W' ⟨he, hj⟩ => ⟨he, .inl ⟨_, by rw [hnil], hj⟩⟩
 ·obtain ⟨b, off, rfl⟩ := (Sl.ok hI (by rw [jQ]; omega)).cases
  have hb : b < n₀ := hlt (by omega) b rfl
  have hcs := yM hI
  exact aNS F n h hro hn l Bs n₀ b off cap zs hreach hb J Jx hY W hc' (fun j hj => (hW.cell (p := ⟨b, off + j, none⟩) (show b < w.heap.size from Nat.lt_of_lt_of_le hb hn₀)).trans (hcs j hj)) h0
theorem aNN : (Tryz.prog.info? 3).map (fun i => (i.zero, i.size, i.bytes)) = some (some (.int .i64 0), 1, 8) := by kernel_rfl
theorem aTL (a : Option Addr) (cap Bs : Nat) (zs : List Int) (w : World) (hlen : zs.length ≤ 1000000) (hBs : Bs < w.heap.size) (hc : w.cell? ⟨Bs, 0, none⟩ = some (.slice a zs.length cap)) (hI : Sl [] w a (recs (eI .i64) zs)) (hlt : 0 < zs.length → ∀ b, a.map (·.block) = some b → b < w.heap.size) :
  CallsIn Fence.wide 5 Tryz.prog 100 #[.slice none 0 0, .func (.func 70) #[] #[.pointer (some ⟨Bs, 0, none⟩)]] w fun e w' => ∃ v, e = .returned v ∧ w'.ownsRow w.heap.size 3 1 v zs.length (zs.map (Value.int .i64)) ∧ Below w.heap.size w w' := by
 obtain ⟨i0, hi, hz0, hz1, hz2⟩ := info_parts aNN
 refine callsIn_of_wp_marks Tryz.func100 rfl trivial ?_ rfl
 simp only [Tryz.ntmps100, List.size_toArray, List.length_cons, List.length_nil, Nat.reduceAdd, Nat.reduceSub, Array.replicate_succ, Array.replicate_zero, List.push_toArray, List.append_toArray, List.nil_append, List.cons_append]
 gi_wp2
 have bO := Boxed.new w 51 (.slice none 0 0)
 have hB0 : Below w.heap.size w (w.alloc (.cells #[.slice none 0 0] 51)) := (Below.refl _ w).alloc (Nat.le_refl _) _
 refine wpIn_rangeFunc_ownG rfl (by decide) (gf := 70) (lb := #[.pointer (some ⟨Bs, 0, none⟩)]) rfl trivial (enters_of Tryz.func70 (by kernel_rfl) rfl)
  (aIJ Fence.wide (5 - 1) trivial rfl (by decide) Bs w.heap.size a cap zs (by omega) _ (by simp; omega) (by simp) ((hB0.cell (p := ⟨Bs, 0, none⟩) hBs).trans hc) (Sl.mono hI (Ext.of_below hB0)) hlt) belowK_t (belowK_b (by simp)) (Below.refl _ _) (fun _ => rfl)
  (fun pre W => (∃ v, Boxed W w.heap.size 51 v ∧ W.ownsRow w.heap.size 3 1 v pre.length (pre.map (Value.int .i64)) ∧ True) ∧ Below w.heap.size w W)
  (fun _ _ _ => False)
  (OwnFrom.and (Own.from (holdsRow_own w.heap.size w.heap.size 51 3 1 (fun pre : List Int => pre.length) (fun pre => pre.map (Value.int .i64)) (fun _ _ => True)) _) (ownFrom_below (Nat.le_refl _) (by simp)))
  (fun _ _ _ _ _ hs _ _ => hs)
  ⟨⟨_, bO, World.ownsRow_nil _ _ _ _, trivial⟩, hB0⟩ ?a1 ?assign ?body ?done ?stop
 case assign =>
  intro l x W K hK
  gi_wp2
  exact hK
 case body =>
  rintro l pre x W ⟨⟨v, hv, hrow, _⟩, hB⟩ hlt
  have hc := hv.cell
  have hml : zs.length ≤ maxLen := by have : maxLen = 9223372036854775807 := by decide
                                      omega
  gi_wp2_with (gi_at_builtin; refine wpListIn_append_own _ rfl _ _ 51 rfl w.heap.size 3 i0 (.int .i64 0) 1 8 Tryz.underlying51 hi hz0 hz1 hz2 rfl (by decide) _ _ _ rfl (hrow.alloc _) ⟨W.heap.size, 0, none⟩ 1 1 [.int .i64 x] rfl rfl (cell_one_new _ _ _) (by simp [Value.oneCell']) (by omega) (by omega) (by have := hB.size; simp; omega) ?_; intro v' w1 hown' hgrow _; obtain ⟨g', cap', rfl⟩ := ownsRow_succ hown'; obtain ⟨hv1, hv2, hr2, hk2, hb2⟩ := hv.appended (by decide) hrow hB.size (Nat.le_refl _) hown' hgrow; have hc1 := hv1.cell; have hf1 := hv1.frozen)
  exact ⟨hk2.from _, hb2, ⟨_, hv2, by simpa using hr2, trivial⟩, hB.trans hb2⟩
 case done =>
  rintro D ys W hD rfl ⟨⟨v, hv, hrow, _⟩, hB⟩ hK
  have hc := hv.cell
  gi_wp2
  refine ⟨by simp, .inl ⟨_, _, rfl, run_takeDeferred hK, ?_⟩⟩
  exact ⟨_, results_tmp rfl _ _ _, v, rfl, ownsRow_putObj hrow _ hK rfl, hB.trans (belowK_b (w := w) (Nat.le_refl _) W D _ _ (by simp at hD; omega) hK rfl rfl)⟩
 case stop =>
  rintro D c pre W _ _ h _
  exact h.elim
theorem aVQ {w : World} {a : Option Addr} {zs : List Int} (h : Sl [] w a (recs (eI .i64) zs)) : 0 < zs.length → ∀ b, a.map (·.block) = some b → b < w.heap.size := by
 intro hp b hb
 obtain ⟨b', off, rfl⟩ := (Sl.ok h (by rw [jQ]; omega)).cases
 simp at hb; subst hb
 have h3 := yM h 0 hp
 exact Classical.byContradiction (fun hlt => by
  unfold World.cell? at h3
  rw [Array.getElem?_eq_none (by simpa using hlt)] at h3
  simp at h3)
section
variable {X : List Nat} {w0 : World} {M0 : List Ent} {I0 : List bB}
theorem aSW {q : Option Addr} {zs : List Int} {c Bs : Nat} (hn : zs.length ≤ 1000000) (hb : aW (some ⟨Bs, 0, none⟩) [.slice q zs.length c] ∈ I0) (hq : aW q (recs (eI .i64) zs) ∈ I0) :
  CD Tryz.prog 100 [.slice none 0 0, .func (.func 70) #[] #[.pointer (some ⟨Bs, 0, none⟩)]] X w0 M0 I0 (fun v M I => I0 = I ∧ ∃ q' c', v = .slice q' zs.length c' ∧ M = .row q' zs.length c' (recs (eI .i64) zs) 3 1 :: M0) := by
 refine ⟨fun w hw => ?_⟩
 have hS := (hw.sl hb).less (Y := []) (by simp)
 have h3 : w.cell? ⟨Bs, 0, none⟩ = some (.slice q zs.length c) := (hS 0 _ rfl).2.2
 have hsq := (hw.sl hq).less (Y := []) (by simp)
 have hBs : Bs < w.heap.size := Classical.byContradiction (fun hlt => by
  unfold World.cell? at h3
  rw [Array.getElem?_eq_none (by simpa using hlt)] at h3
  simp at h3)
 refine Calls.mono (callsIn_wide.1 (aTL q c Bs zs w hn hBs h3 hsq (aVQ hsq))) ?_
 rintro e w' ⟨v, rfl, hO, hB⟩
 obtain ⟨a', c', rfl, _, hle, _⟩ := aBH hO
 refine ⟨_, rfl, _, _, ⟨rfl, a', c', rfl, rfl⟩, ?_⟩
 rw [mP]
 refine hw.push (Ext.of_below hB) ?_ ?_ (aOC hO (Nat.zero_le _))
 ·intro b hb
  cases a' with
  | none => simp [Ent.blocks] at hb
  | some a' =>
   simp [Ent.blocks] at hb; subst hb
   exact (aRC hO _ rfl).1
 ·cases a' <;> simp [Ent.blocks]
end
end Go.Proofs.YtkccjglmnhgabaaGreatDoor
namespace Go.Proofs.YtkccjglmnhgabaaGreatDoor
open Go Go.Fx
theorem nL {y z q r : Int} (h : y = z * q + r) (hr : (0 ≤ r ∧ r < z) ∨ (z < r ∧ r ≤ 0)) : y.fdiv z = q ∧ y.fmod z = r := by
 have pos : ∀ {y z q r : Int}, y = z * q + r → 0 ≤ r → r < z → y.fdiv z = q ∧ y.fmod z = r := by
  intro y z q r h h0 h1
  have := (Int.ediv_emod_unique (a := y) (b := z) (r := r) (q := q) (by omega)).2 ⟨by omega, h0, h1⟩
  rw [Int.fdiv_eq_ediv_of_nonneg _ (by omega), Int.fmod_eq_emod_of_nonneg _ (by omega)]
  exact this
 rcases hr with ⟨h0, h1⟩ | ⟨h0, h1⟩
 ·exact pos h h0 h1
 ·have h2 := pos (y := -y) (z := -z) (q := q) (r := -r) (by rw [Int.neg_mul]; omega) (by omega) (by omega)
  rw [Int.neg_fdiv_neg, Int.neg_fmod_neg] at h2
  exact ⟨h2.1, by omega⟩
theorem wE {y z : Int} (hz : z ≠ 0) :
  (¬ (y < 0 ↔ z < 0) → y.natAbs % z.natAbs ≠ 0 → y.fdiv z = -((y.natAbs / z.natAbs + 1 : Nat) : Int) ∧ y.fmod z = if z < 0 then -((z.natAbs - y.natAbs % z.natAbs : Nat) : Int) else ((z.natAbs - y.natAbs % z.natAbs : Nat) : Int)) ∧
  (((y < 0 ↔ z < 0) ∨ y.natAbs % z.natAbs = 0) → y.fdiv z = (if ¬ (y < 0 ↔ z < 0) then -((y.natAbs / z.natAbs : Nat) : Int) else ((y.natAbs / z.natAbs : Nat) : Int)) ∧ y.fmod z = if z < 0 then -((y.natAbs % z.natAbs : Nat) : Int) else ((y.natAbs % z.natAbs : Nat) : Int)) := by
 have hlt := Nat.mod_lt y.natAbs (show z.natAbs > 0 by omega)
 have hab : (y.natAbs : Int) = (z.natAbs : Int) * ((y.natAbs / z.natAbs : Nat) : Int) + ((y.natAbs % z.natAbs : Nat) : Int) := by
  rw [← Int.natCast_mul, ← Int.natCast_add, Nat.div_add_mod]
 generalize hQ : y.natAbs / z.natAbs = Q at *
 generalize hR : y.natAbs % z.natAbs = R at *
 generalize hb : z.natAbs = b at *
 generalize hp : (b : Int) * (Q : Int) = p at *
 constructor
 ·intro hs hR0
  by_cases hz0 : z < 0
  ·have hy : ¬ y < 0 := fun h => hs ⟨fun _ => hz0, fun _ => h⟩
   have e : z = -(b : Int) := by omega
   rw [if_pos hz0]
   refine nL ?_ (.inr ⟨by omega, by omega⟩)
   rw [e, Int.neg_mul, Int.mul_neg, Int.neg_neg, Int.natCast_add, Int.mul_add, hp]; omega
  ·have hy : y < 0 := by rcases Classical.em (y < 0) with h | h; exact h; exact absurd ⟨fun h' => absurd h' h, fun h' => absurd h' hz0⟩ hs
   have e : z = (b : Int) := by omega
   rw [if_neg hz0]
   refine nL ?_ (.inl ⟨by omega, by omega⟩)
   rw [e, Int.mul_neg, Int.natCast_add, Int.mul_add, hp]; omega
 ·intro hs
  by_cases hd : (y < 0 ↔ z < 0)
  ·rw [if_neg (fun h => h hd)]
   by_cases hz0 : z < 0
   ·have hy := hd.2 hz0
    have e : z = -(b : Int) := by omega
    rw [if_pos hz0]
    refine nL ?_ (.inr ⟨by omega, by omega⟩)
    rw [e, Int.neg_mul, hp]; omega
   ·have hy : ¬ y < 0 := fun h => hz0 (hd.1 h)
    have e : z = (b : Int) := by omega
    rw [if_neg hz0]
    refine nL ?_ (.inl ⟨by omega, by omega⟩)
    rw [e, hp]; omega
  ·have hR0 := hs.resolve_left hd
   rw [if_pos hd]
   by_cases hz0 : z < 0
   ·have hy : ¬ y < 0 := fun h => hd ⟨fun _ => hz0, fun _ => h⟩
    have e : z = -(b : Int) := by omega
    rw [if_pos hz0]
    refine nL ?_ (.inr ⟨by omega, by omega⟩)
    rw [e, Int.neg_mul, Int.mul_neg, Int.neg_neg, hp]; omega
   ·have hy : y < 0 := by rcases Classical.em (y < 0) with h | h; exact h; exact absurd ⟨fun h' => absurd h' h, fun h' => absurd h' hz0⟩ hd
    have e : z = (b : Int) := by omega
    rw [if_neg hz0]
    refine nL ?_ (.inl ⟨by omega, by omega⟩)
    rw [e, Int.mul_neg, hp]; omega
theorem aBO {n d : Int} (hd : d ≠ 0) : ∃ m : Int, m ≠ 0 ∧ n = (Rat.divInt n d).num * m ∧ d = (Rat.divInt n d).den * m ∧ (Int.gcd n d : Int) = (m.natAbs : Int) ∧ (m < 0 ↔ d < 0) := by
 obtain ⟨m, hm, h1, h2⟩ := Rat.divInt_num_den (n := n) (d := d) (n' := (Rat.divInt n d).num) (d' := (Rat.divInt n d).den) (z' := (Rat.divInt n d).den_nz) (c := (Rat.divInt n d).reduced) hd rfl
 refine ⟨m, hm, h1, h2, ?_, ?_⟩
 ·have hc := (Rat.divInt n d).reduced
  have key : ∀ (a : Int) (b : Nat), Nat.gcd a.natAbs b = 1 → Int.gcd (a * m) ((b : Int) * m) = m.natAbs := by
   intro a b h
   rw [Int.gcd_eq_natAbs_gcd_natAbs, Int.natAbs_mul, Int.natAbs_mul, Int.natAbs_natCast, Nat.gcd_mul_right, h, Nat.one_mul]
  have h3 := key _ _ hc
  rw [← h1, ← h2] at h3
  have this := h3
  rw [this]
 ·have hp : (0 : Int) < (Rat.divInt n d).den := by have := (Rat.divInt n d).den_nz; omega
  constructor
  ·intro h; rw [h2]; exact Int.mul_neg_of_pos_of_neg hp h
  ·intro h
   rcases Int.lt_trichotomy m 0 with h' | h' | h'
   ·exact h'
   ·exact absurd h' hm
   ·have := Int.mul_pos hp h'; omega
theorem aGG {q m : Int} (hm : m ≠ 0) : (q * m).fdiv m = q := by
 refine (nL (y := q * m) (z := m) (q := q) (r := 0) (by rw [Int.mul_comm]; omega) ?_).1
 omega
theorem aLC {n d g : Int} (hd : d ≠ 0) (hg : g = if d < 0 then -(Int.gcd n d : Int) else (Int.gcd n d : Int)) : n.fdiv g = (Rat.divInt n d).num ∧ d.fdiv g = ((Rat.divInt n d).den : Int) ∧ g ≠ 0 := by
 obtain ⟨m, hm, h1, h2, h3, h4⟩ := aBO (n := n) hd
 have e : g = m := by
  rw [hg, h3]
  by_cases h : d < 0
  ·rw [if_pos h]; have := h4.2 h; omega
  ·rw [if_neg h]; have : ¬ m < 0 := fun h' => h (h4.1 h'); omega
 rw [e]
 refine ⟨?_, ?_, hm⟩
 ·exact (congrArg (fun x => Int.fdiv x m) h1).trans (aGG hm)
 ·exact (congrArg (fun x => Int.fdiv x m) h2).trans (aGG hm)
theorem aBK {n d : Int} : Rat.divInt (-n) (-d) = Rat.divInt n d := Rat.neg_divInt_neg n d
theorem aKF (q : Rat) : Int.gcd q.num q.den = 1 := by
 rw [Int.gcd_eq_natAbs_gcd_natAbs, Int.natAbs_natCast]
 exact q.reduced
theorem aVE (p q : Rat) : p = q ↔ p.num * q.den = q.num * p.den := by
 constructor
 ·rintro rfl; rfl
 ·intro h
  rw [← Rat.num_divInt_den p, ← Rat.num_divInt_den q]
  refine (Rat.divInt_eq_divInt_iff (by have := p.den_nz; omega) (by have := q.den_nz; omega)).2 h
theorem aLE {R b g top low P b1 bl : Nat} (hR : R = top * P + low) (hb : b = b1 * P + bl) (hl : low < P) (hbl : bl < P) (hg : g = top / (b1 + 1)) : g * b ≤ R := by
 have h1 : g * (b1 + 1) ≤ top := by rw [hg]; exact Nat.div_mul_le_self _ _
 have h2 : b ≤ (b1 + 1) * P := by rw [hb, Nat.add_mul]; omega
 have h3 : g * b ≤ g * ((b1 + 1) * P) := Nat.mul_le_mul_left _ h2
 have h4 : g * ((b1 + 1) * P) ≤ top * P := by rw [← Nat.mul_assoc]; exact Nat.mul_le_mul_right _ h1
 omega
end Go.Proofs.YtkccjglmnhgabaaGreatDoor
namespace Go.Proofs.YtkccjglmnhgabaaGreatDoor
open Go Go.Fx
theorem aRB {w : World} {base b : Nat} {e : TypeId} {sz m c : Nat} {cs : List Value} (h : Blk w b cs e) (hb : base ≤ b) (hl : cs.length = c * sz) (hmc : m ≤ c) (hm : c ≤ 9223372036854775807) : w.ownsRow base e sz (.slice (some ⟨b, 0, none⟩) m c) m (cs.take (m * sz)) :=
 ⟨by rw [List.length_take, hl, Nat.min_eq_left (Nat.mul_le_mul_right _ hmc)], .inr ⟨b, c, cs.toArray, rfl, hb, h, hmc, by simpa [maxLen] using hm, by simpa using hl, by simp⟩⟩
theorem _root_.Go.Fx.Mem.toRowT {X : List Nat} {w0 w : World} {M M' : List Ent} {I : List bB} {b m c : Nat} {cs : List Value} {e : TypeId} (sz : Nat) (h : Mem X w0 M I w) (hr : Rep (.blk b cs e) (.row (some ⟨b, 0, none⟩) m c (cs.take (m * sz)) e sz) M M') (hl : cs.length = c * sz) (hmc : m ≤ c) (hm : c ≤ 9223372036854775807) : Mem X w0 M' I w := by
 have hb : Blk w b cs e := h.ent _ hr.mem
 exact h.upd hr (Ext.refl _ _) (fun b hb => .inl hb) (by simp [Ent.blocks]) (aRB hb (Nat.zero_le _) hl hmc hm)
theorem _root_.Go.Fx.Mem.imm0 {X : List Nat} {w0 w : World} {M : List Ent} {I : List bB} (h : Mem X w0 M I w) : Mem [] w [] [] w := ⟨Ext.refl _ _, fun _ h => absurd h (by simp [muts]), by simp [muts], fun _ h => absurd h (by simp), fun _ h => absurd h (by simp)⟩
theorem aAF (l : List Int) (k : Nat) : (recs eG l).take k = recs eG (l.take k) := by
 rw [mP, mP, List.map_take]
section
variable {X : List Nat} {w0 : World} {M0 : List Ent} {I0 : List bB}
theorem aCY {p q : Option Addr} {m n cp cq : Nat} (hm : (gr m).length ≤ 100000000000) (hn : (gr n).length ≤ 100000000000) (hp : aW p (recs eG (gr m)) ∈ I0) (hq : aW q (recs eG (gr n)) ∈ I0) :
  CD Tryz.prog 121 [.slice p (gr m).length cp, .slice q (gr n).length cq] X w0 M0 I0 (fun v M I => ∃ b c, v = .slice (some ⟨b, 0, none⟩) (gr (m * n)).length c ∧ (gr (m * n)).length ≤ c ∧ M = .row (some ⟨b, 0, none⟩) (gr (m * n)).length c (recs eG (gr (m * n))) 116 1 :: M0 ∧ I0 = I) := by
 have da := cO m
 have db := cO n
 have va := dG m
 have vb := dG n
 generalize ha : gr m = a at *
 generalize hb : gr n = b at *
 refine eD Tryz.func121 rfl Tryz.ntmps121 rfl ?_
 repeat (refine lD ?_)
 (refine lJ (a.length + b.length) rfl rfl (by omega) (by omega) (by omega) (by omega) (nE _ _) rfl rfl ?_; intro bo; refine ⟨nJ, ?_⟩)
 repeat (refine lD ?_)
 refine aT [1, 5, 18, 19] rfl (fun k G M I => ∃ (i : Nat) (o : List Int), i ≤ a.length ∧ k = a.length - i ∧ o.length = a.length + b.length ∧ Dig o ∧ val o = val (a.take i) * val b ∧ (∀ j : Nat, i + b.length ≤ j → o.getD j 0 = 0) ∧ G = [(20, .int .i64 i)] ∧ M = .blk bo (recs eG o) 116 :: M0 ∧ I0 = I) (a.length) _ _ _ aQ bX bT (⟨0, _, by omega, by omega, by simp, Dig.zeros _, by rw [xM]; simp [val], fun j _ => by simp [List.getD, List.getElem?_replicate]; split <;> rfl, rfl, rfl, rfl⟩) ?_
 rintro k G M I ⟨i, o, hi, rfl, ho, hd, hv, hz, rfl, rfl, rfl⟩
 repeat' (first | refine lD ?_ | refine aS rfl (fun h => ?_) (fun h => ?_) | refine aR rfl rfl (fun h => ?_) (fun h => ?_) | fail)
 ·have hia : i < a.length := by omega
  have d1 := da.gt i
  refine aT [1, 5, 6, 7, 18, 19, 20, 25, 26] rfl (fun k G M I => ∃ (j : Nat) (u : List Int) (c : Int), j ≤ b.length ∧ k = b.length - j ∧ u.length = a.length + b.length ∧ Dig u ∧ (0 ≤ c ∧ c < 1000000000) ∧ val u + 1000000000 ^ (i + j) * c = val (a.take i) * val b + 1000000000 ^ i * (gt a i * val (b.take j)) ∧ (∀ j : Nat, i + b.length ≤ j → u.getD j 0 = 0) ∧ G = [(8, .int .u64 c), (27, .int .i64 j)] ∧ M = .blk bo (recs eG u) 116 :: M0 ∧ I0 = I) (b.length) _ _ _ aQ bX bT (⟨0, o, 0, by omega, by omega, ho, hd, by omega, by simp [val, hv], hz, rfl, rfl, rfl⟩) ?_
  rintro k G M I ⟨j, u, c, hj, rfl, hu, hdu, hc, hvu, hzu, rfl, rfl, rfl⟩
  have d2 := db.gt j
  have d3 := hdu.gt ((i : Int) + j)
  have d4 := rA d1 d2 d3 hc
  have e1 : (gt u ((i : Int) + j) + gt a i * gt b j + c).tmod 1000000000 = (gt u ((i : Int) + j) + gt a i * gt b j + c) % 1000000000 := Int.tmod_eq_emod_of_nonneg d4.2.1.1
  have e2 : (gt u ((i : Int) + j) + gt a i * gt b j + c).tdiv 1000000000 = (gt u ((i : Int) + j) + gt a i * gt b j + c) / 1000000000 := Int.tdiv_eq_ediv_of_nonneg d4.2.1.1
  repeat' (first | refine lD ?_ | refine aS rfl (fun h => ?_) (fun h => ?_) | refine aR rfl rfl (fun h => ?_) (fun h => ?_) | fail)
  ·have hst := aHG (o := u) (b := b) (j := j) hvu (by omega)
   rw [e1, e2]
   refine aG (b.length - (j + 1)) _ _ _ (by first | omega | (simp only [List.length_append, List.length_cons, List.length_nil]; omega)) aQ bX bT (⟨j + 1, _, _, by omega, rfl, by rw [eF]; exact hu, ?_, d4.2.2, ?_, ?_, rfl, rfl, rfl⟩)
   ·rw [iI]; exact hdu.set _ (by omega)
   ·rw [iI, xV, uU, uU]
    rw [uU] at hst
    exact hst
   ·intro t ht
    rw [iI, lN _ (by omega)]
    exact hzu t ht
  ·have hjb : j = b.length := by omega
   subst hjb
   have hst := aDU (o := u) (b := b) hvu (by omega) (hzu _ (Nat.le_refl _))
   repeat (refine lD ?_)
   refine aG (a.length - (i + 1)) _ _ _ (by first | omega | (simp only [List.length_append, List.length_cons, List.length_nil]; omega)) aQ bX bT (⟨i + 1, _, by omega, rfl, by rw [eF]; exact hu, ?_, ?_, ?_, rfl, rfl, rfl⟩)
   ·rw [iI]; exact hdu.set _ hc
   ·rw [iI, hst, dB, uU]
    rw [Int.add_mul, Int.mul_assoc]
   ·intro t ht
    rw [iI, lN _ (by omega)]
    exact hzu t (by omega)
 ·have hiN : i = a.length := by omega
  subst hiN
  rw [List.take_length, va, vb] at hv
  have hg : gP o = gr (m * n) := mZ hd (by rw [hv, Int.natCast_mul])
  (refine aV rfl (CD.lend [aW (some ⟨bo, 0, none⟩) (recs eG o)] (fun w hw => Mem.lendB (b := bo) (e := 116) aU hw hw.imm0) (fun W => (qC (X := []) (w0 := W) (M0 := []) (I0 := [aW (some ⟨bo, 0, none⟩) (recs eG o)]) (l := o) (c := a.length + b.length) ho.symm (by omega) (by omega) aU).mono (fun _ _ _ h => h.2.2))) rfl rfl ?_; rintro _ _ _ ⟨rfl, rfl, rfl⟩; refine ⟨nJ, ?_⟩)
  repeat (refine lD ?_)
  have hle2 := vW (o := o)
  obtain ⟨kk, hk1, hk2, _⟩ := uH o
  have hlk : (gr (m * n)).length = kk := by rw [← hg, hk2, List.length_take]; omega
  rw [hg] at hle2 ⊢
  refine yI (I' := I0) (M' := .row (some ⟨bo, 0, none⟩) (gr (m * n)).length (a.length + b.length) (recs eG (gr (m * n))) 116 1 :: M0) (fun w hw => ?_) ?_
  ·refine hw.toRowT (b := bo) (e := 116) (cs := recs eG o) (c := a.length + b.length) (m := (gr (m * n)).length) 1 ?_ (by rw [mP, List.length_map]; omega) (by omega) (by omega)
   have e : (recs eG o).take ((gr (m * n)).length * 1) = recs eG (gr (m * n)) := by rw [hlk, Nat.mul_one, ← hg, hk2, aAF]
   rw [e]
   exact mO
  ·refine aH (by first | exact .inl rfl | exact .inr rfl) rfl rfl _ _ bX bT (⟨_, _, rfl, by omega, rfl, rfl⟩)
end
end Go.Proofs.YtkccjglmnhgabaaGreatDoor
