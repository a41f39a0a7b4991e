/- slices.Values, AppendSeq, Collect, Sorted at ints. slices.Sorted of slices.Values at ints. slices.Sorted of slices.Values at ints: a list of its own. The densest shift of integers, plain: which candidate is the best, and that no shift of fractions has more. -/
import Derived.RangeFuncBox
import Derived.Maps.AppendAt
import Derived.Test.YtjbhdfpjnjedhaaGreatZqal
import Derived.Test.YtjbhdfpjnjedhaaGreatZqbl
import Derived.Test.YtjbhdfpjnjedhaaGreatZqbb
import Derived.Test.YtjbhdfpjnjedhaaGreatZqau
import Derived.Test.YtjbhdfpjnjedhaaGreatZqad
set_option linter.unusedSimpArgs false
set_option linter.unusedVariables false
set_option maxRecDepth 100000
set_option maxHeartbeats 4000000
namespace Go.Proofs.YtjbhdfpjnjedhaaGreat
open Go Go.Fx Go.RowKit Go.Shelf
attribute [local go_sem] Oper.semAt_some
theorem aSC (F : Fence) (n : Nat) (h : F.fn 108) (hro : F.round = none) (hn : 1 ≤ n) (l Bs n₀ b off cap : Nat) (zs : List Int) (hreach : zs.length * 8 ≤ 140737488351232) (hb : b < n₀) (J Jx : List Int → World → Prop)
  (hY : ∀ pre x W, J pre W → pre.length < zs.length → YieldAt F (n - 1) Tryz.prog l #[.int .i64 x] W fun e W' =>
   (e = .returned (.bool true) ∧ J (pre ++ [x]) W' ∧ Below n₀ W W') ∨ (e = .returned (.bool false) ∧ Jx (pre ++ [x]) W'))
  (W : World) (hBs : W.cell? ⟨Bs, 0, none⟩ = some (.slice (some ⟨b, off, none⟩) zs.length cap)) (hc : ∀ j, j < zs.length → W.cell? ⟨b, off + j, none⟩ = some (.int .i64 (zs[j]?.getD 0))) (h0 : J [] W) :
  CallsIn F n Tryz.prog 108 #[.func (.yield l) #[] #[], .pointer (some ⟨Bs, 0, none⟩)] W fun e W' => (∃ v, e = .returned v) ∧
   ((∃ ys, ys = zs ∧ J ys W') ∨ (∃ pre, pre <+: zs ∧ Jx pre W')) := by
 refine callsIn_of_wp Tryz.func108 rfl h ?_ hro
 simp only [Tryz.ntmps108, List.size_toArray, List.length_cons, List.length_nil, Nat.reduceAdd, Nat.reduceSub, Array.replicate_succ, Array.replicate_zero, List.push_toArray, List.append_toArray, List.nil_append, List.cons_append]
 gi_wp2
 gi_loopw [7] (fun i wr => ∃ k : Nat, k ≤ zs.length ∧ i = .int .i64 k ∧ J (zs.take k) wr ∧ Below n₀ W wr)
  (fun i _ => zs.length - (intOf i).toNat)
 case atStart => exact ⟨0, Nat.zero_le _, rfl, h0, Below.refl _ _⟩
 case round =>
  obtain ⟨k, hk, rfl, hJs, hnx⟩ := hrel
  have hcx : k < zs.length → wr.cell? ⟨b, off + k, none⟩ = some (.int .i64 (zs[k]?.getD 0)) := fun h => (hnx.cell (p := ⟨b, off + k, none⟩) hb).trans (hc k h)
  by_cases hlt : k < zs.length
  ·obtain ⟨fn, tmps, assign, body, hy, hR⟩ := hY _ (zs[k]?.getD 0) wr hJs (by rw [List.length_take]; omega)
   have hcx' := hcx hlt
   clear hcx
   have hts : zs.take (k + 1) = zs.take k ++ [zs[k]?.getD 0] := by
    rw [List.take_add_one]; congr 1
    simp [hlt]
   obtain ⟨g, hg⟩ : ∃ g, zs[k]?.getD 0 = g := ⟨_, rfl⟩
   rw [hg] at hy hR hcx' hts
   gi_wp2
   refine hR.mono ?_
   rintro e W3 (⟨rfl, hJ3, hk3⟩ | ⟨rfl, hJx3⟩)
   ·gi_wp2
    go_roundw
    case rel => exact ⟨k + 1, by omega, by simp, by rw [hts]; exact hJ3, hnx.trans hk3⟩
    case measure => simp [intOf]; omega
   ·gi_wp2
    refine bodyPost_ret (results_none rfl _ _ _) rfl ?_
    exact ⟨⟨_, rfl⟩, .inr ⟨_, by rw [← hts]; exact List.take_prefix _ _, hJx3⟩⟩
  ·obtain rfl : k = zs.length := by omega
   rw [List.take_length] at hJs
   gi_wp2
   go_end0
   exact ⟨⟨_, rfl⟩, .inl ⟨_, rfl, hJs⟩⟩
theorem aES (F : Fence) (n : Nat) (h : F.fn 108) (hro : F.round = none) (l Bs c : Nat) (a : Option Addr) (J : List Int → World → Prop) (W : World) (hBs : W.cell? ⟨Bs, 0, none⟩ = some (.slice a 0 c)) (h0 : J [] W) :
  CallsIn F n Tryz.prog 108 #[.func (.yield l) #[] #[], .pointer (some ⟨Bs, 0, none⟩)] W fun e W' => (∃ v, e = .returned v) ∧ J [] W' := by
 refine callsIn_of_wp Tryz.func108 rfl h ?_ hro
 simp only [Tryz.ntmps108, List.size_toArray, List.length_cons, List.length_nil, Nat.reduceAdd, Nat.reduceSub, Array.replicate_succ, Array.replicate_zero, List.push_toArray, List.append_toArray, List.nil_append, List.cons_append]
 gi_wp2
 gi_loopw [7] (fun i wr => i = .int .i64 0 ∧ J [] wr) (fun _ _ => 0)
 case atStart => exact ⟨rfl, h0⟩
 case round =>
  obtain ⟨rfl, hJs⟩ := hrel
  gi_wp2
  go_end0
  exact ⟨⟨_, rfl⟩, hJs⟩
theorem yI {w : World} {b off : Nat} {zs : List Int} (h : Sl [] w (some ⟨b, off, none⟩) (recs (eI .i64) zs)) : ∀ j, j < zs.length → w.cell? ⟨b, off + j, none⟩ = some (.int .i64 (zs[j]?.getD 0)) := by
 intro j hj
 have h1 : (recs (eI .i64) zs)[j]? = some (.int .i64 (zs[j]?.getD 0)) := by
  rw [kV, List.getElem?_map]
  simp [hj]
 exact (h j _ h1).2.2
theorem aIK (F : Fence) (n : Nat) (h : F.fn 108) (hro : F.round = none) (hn : 1 ≤ n) (Bs n₀ : Nat) (a : Option Addr) (cap : Nat) (zs : List Int) (hreach : zs.length * 8 ≤ 140737488351232) (w : World) (hBs : Bs < w.heap.size) (hn₀ : n₀ ≤ w.heap.size)
  (hc : w.cell? ⟨Bs, 0, none⟩ = some (.slice a zs.length cap)) (hI : Sl [] w a (recs (eI .i64) zs)) (hlt : 0 < zs.length → ∀ b, a.map (·.block) = some b → b < n₀) :
  SeqStopsK F n Tryz.prog 108 #[.pointer (some ⟨Bs, 0, none⟩)] (fun x : Int => #[Value.int .i64 x]) (Below n₀) (fun ys => ys = zs) (fun pre => pre <+: zs) zs.length w := fun l J Jx W hW _ _ hY h0 => by
 have hc' := (hW.cell (p := ⟨Bs, 0, none⟩) (show Bs < w.heap.size from hBs)).trans hc
 by_cases hz : zs.length = 0
 ·have hnil : zs = [] := List.length_eq_zero_iff.1 hz
  rw [hz] at hc'
  exact (aES F n h hro l Bs cap a J W hc' h0).mono fun e W' ⟨he, hj⟩ => ⟨he, .inl ⟨_, by rw [hnil], hj⟩⟩
 ·obtain ⟨b, off, rfl⟩ := (Sl.ok hI (by rw [iE]; omega)).cases
  have hb : b < n₀ := hlt (by omega) b rfl
  have hcs := yI hI
  exact aSC F n h hro hn l Bs n₀ b off cap zs hreach hb J Jx hY W hc' (fun j hj => (hW.cell (p := ⟨b, off + j, none⟩) (show b < w.heap.size from Nat.lt_of_lt_of_le hb hn₀)).trans (hcs j hj)) h0
theorem aQC : (Tryz.prog.info? 3).map (fun i => (i.zero, i.size, i.bytes)) = some (some (.int .i64 0), 1, 8) := by kernel_rfl
theorem aVJ (a : Option Addr) (cap Bs : Nat) (zs : List Int) (w : World) (hlen : zs.length ≤ 1000000) (hBs : Bs < w.heap.size) (hc : w.cell? ⟨Bs, 0, none⟩ = some (.slice a zs.length cap)) (hI : Sl [] w a (recs (eI .i64) zs)) (hlt : 0 < zs.length → ∀ b, a.map (·.block) = some b → b < w.heap.size) :
  CallsIn Fence.wide 5 Tryz.prog 153 #[.slice none 0 0, .func (.func 108) #[] #[.pointer (some ⟨Bs, 0, none⟩)]] w fun e w' => ∃ v, e = .returned v ∧ w'.ownsRow w.heap.size 3 1 v zs.length (zs.map (Value.int .i64)) ∧ Below w.heap.size w w' := by
 obtain ⟨i0, hi, hz0, hz1, hz2⟩ := info_parts aQC
 refine callsIn_of_wp_marks Tryz.func153 rfl trivial ?_ rfl
 simp only [Tryz.ntmps153, List.size_toArray, List.length_cons, List.length_nil, Nat.reduceAdd, Nat.reduceSub, Array.replicate_succ, Array.replicate_zero, List.push_toArray, List.append_toArray, List.nil_append, List.cons_append]
 gi_wp2
 have bO := Boxed.new w 32 (.slice none 0 0)
 have hB0 : Below w.heap.size w (w.alloc (.cells #[.slice none 0 0] 32)) := (Below.refl _ w).alloc (Nat.le_refl _) _
 refine wpIn_rangeFunc_ownG rfl (by decide) (gf := 108) (lb := #[.pointer (some ⟨Bs, 0, none⟩)]) rfl trivial (enters_of Tryz.func108 (by kernel_rfl) rfl)
  (aIK Fence.wide (5 - 1) trivial rfl (by decide) Bs w.heap.size a cap zs (by omega) _ (by simp; omega) (by simp) ((hB0.cell (p := ⟨Bs, 0, none⟩) hBs).trans hc) (Sl.mono hI (Ext.of_below hB0)) hlt) belowK_t (belowK_b (by simp)) (Below.refl _ _) (fun _ => rfl)
  (fun pre W => (∃ v, Boxed W w.heap.size 32 v ∧ W.ownsRow w.heap.size 3 1 v pre.length (pre.map (Value.int .i64)) ∧ True) ∧ Below w.heap.size w W)
  (fun _ _ _ => False)
  (OwnFrom.and (Own.from (holdsRow_own w.heap.size w.heap.size 32 3 1 (fun pre : List Int => pre.length) (fun pre => pre.map (Value.int .i64)) (fun _ _ => True)) _) (ownFrom_below (Nat.le_refl _) (by simp)))
  (fun _ _ _ _ _ hs _ _ => hs)
  ⟨⟨_, bO, World.ownsRow_nil _ _ _ _, trivial⟩, hB0⟩ ?a1 ?assign ?body ?done ?stop
 case assign =>
  intro l x W K hK
  gi_wp2
  exact hK
 case body =>
  rintro l pre x W ⟨⟨v, hv, hrow, _⟩, hB⟩ hlt
  have hc := hv.cell
  have hml : zs.length ≤ maxLen := by have : maxLen = 9223372036854775807 := by decide
                                      omega
  gi_wp2_with (gi_at_builtin; refine wpListIn_append_own _ rfl _ _ 32 rfl w.heap.size 3 i0 (.int .i64 0) 1 8 Tryz.underlying32 hi hz0 hz1 hz2 rfl (by decide) _ _ _ rfl (hrow.alloc _) ⟨W.heap.size, 0, none⟩ 1 1 [.int .i64 x] rfl rfl (cell_one_new _ _ _) (by simp [Value.oneCell']) (by omega) (by omega) (by have := hB.size; simp; omega) ?_; intro v' w1 hown' hgrow _; obtain ⟨g', cap', rfl⟩ := ownsRow_succ hown'; obtain ⟨hv1, hv2, hr2, hk2, hb2⟩ := hv.appended (by decide) hrow hB.size (Nat.le_refl _) hown' hgrow; have hc1 := hv1.cell; have hf1 := hv1.frozen)
  exact ⟨hk2.from _, hb2, ⟨_, hv2, by simpa using hr2, trivial⟩, hB.trans hb2⟩
 case done =>
  rintro D ys W hD rfl ⟨⟨v, hv, hrow, _⟩, hB⟩ hK
  have hc := hv.cell
  gi_wp2
  refine ⟨by simp, .inl ⟨_, _, rfl, run_takeDeferred hK, ?_⟩⟩
  exact ⟨_, results_tmp rfl _ _ _, v, rfl, ownsRow_putObj hrow _ hK rfl, hB.trans (belowK_b (w := w) (Nat.le_refl _) W D _ _ (by simp at hD; omega) hK rfl rfl)⟩
 case stop =>
  rintro D c pre W _ _ h _
  exact h.elim
theorem aYK {w : World} {a : Option Addr} {zs : List Int} (h : Sl [] w a (recs (eI .i64) zs)) : 0 < zs.length → ∀ b, a.map (·.block) = some b → b < w.heap.size := by
 intro hp b hb
 obtain ⟨b', off, rfl⟩ := (Sl.ok h (by rw [iE]; omega)).cases
 simp at hb; subst hb
 have h3 := yI h 0 hp
 exact Classical.byContradiction (fun hlt => by
  unfold World.cell? at h3
  rw [Array.getElem?_eq_none (by simpa using hlt)] at h3
  simp at h3)
section
variable {X : List Nat} {w0 : World} {M0 : List Ent} {I0 : List aT}
theorem aUG {q : Option Addr} {zs : List Int} {c Bs : Nat} (hn : zs.length ≤ 1000000) (hb : aR (some ⟨Bs, 0, none⟩) [.slice q zs.length c] ∈ I0) (hq : aR q (recs (eI .i64) zs) ∈ I0) :
  CD Tryz.prog 153 [.slice none 0 0, .func (.func 108) #[] #[.pointer (some ⟨Bs, 0, none⟩)]] X w0 M0 I0 (fun v M I => I0 = I ∧ ∃ q' c', v = .slice q' zs.length c' ∧ M = .row q' zs.length c' (recs (eI .i64) zs) 3 1 :: M0) := by
 refine ⟨fun w hw => ?_⟩
 have hS := (hw.sl hb).less (Y := []) (by simp)
 have h3 : w.cell? ⟨Bs, 0, none⟩ = some (.slice q zs.length c) := (hS 0 _ rfl).2.2
 have hsq := (hw.sl hq).less (Y := []) (by simp)
 have hBs : Bs < w.heap.size := Classical.byContradiction (fun hlt => by
  unfold World.cell? at h3
  rw [Array.getElem?_eq_none (by simpa using hlt)] at h3
  simp at h3)
 refine Calls.mono (callsIn_wide.1 (aVJ q c Bs zs w hn hBs h3 hsq (aYK hsq))) ?_
 rintro e w' ⟨v, rfl, hO, hB⟩
 obtain ⟨a', c', rfl, _, hle, _⟩ := aBI hO
 refine ⟨_, rfl, _, _, ⟨rfl, a', c', rfl, rfl⟩, ?_⟩
 rw [kV]
 refine hw.push (Ext.of_below hB) ?_ ?_ (aRC hO (Nat.zero_le _))
 ·intro b hb
  cases a' with
  | none => simp [Ent.blocks] at hb
  | some a' =>
   simp [Ent.blocks] at hb; subst hb
   exact (aQN hO _ rfl).1
 ·cases a' <;> simp [Ent.blocks]
end
end Go.Proofs.YtjbhdfpjnjedhaaGreat
namespace Go.Proofs.YtjbhdfpjnjedhaaGreat
open Go Go.Fx
section
variable {X : List Nat} {w0 : World} {M0 : List Ent} {I0 : List aT}
theorem aEH {q : Option Addr} {n c : Nat} : CD Tryz.prog 64 [.slice q n c] X w0 M0 I0 (fun v M I => M0 = M ∧ ∃ b, v = .func (.func 108) #[] #[.pointer (some ⟨b, 0, none⟩)] ∧ I = aR (some ⟨b, 0, none⟩) [.slice q n c] :: I0) := by
 refine bN Tryz.func64 rfl Tryz.ntmps64 rfl ?_
 refine aH ?_
 refine aI ?_
 (refine oJ rfl rfl rfl ?_; intro b1; refine ⟨okF, ?_⟩)
 repeat (refine aJ ?_)
 refine aM (by first | exact .inl rfl | exact .inr rfl) rfl rfl _ _ aG aD (⟨rfl, b1, rfl, rfl⟩)
end
end Go.Proofs.YtjbhdfpjnjedhaaGreat
namespace Go.Proofs.YtjbhdfpjnjedhaaGreat
open Go Go.Fx
section
variable {X : List Nat} {w0 : World} {M0 : List Ent} {I0 : List aT}
theorem aBO {q : Option Addr} {zs : List Int} {c b n : Nat} (hl : zs.length = n) (hn : 1 ≤ n ∧ n ≤ 12) (hb : aR (some ⟨b, 0, none⟩) [.slice q n c] ∈ I0) (hq : aR q (recs eZ zs) ∈ I0) :
  CD Tryz.prog 63 [.func (.func 108) #[] #[.pointer (some ⟨b, 0, none⟩)]] X w0 M0 I0 (fun v M I => I0 = I ∧ ∃ (b2 c2 : Nat) (tl : List Value), v = .slice (some ⟨b2, 0, none⟩) n c2 ∧ n ≤ c2 ∧ M = .blk b2 (recs eZ (yO id zs) ++ tl) 3 :: M0) := by
 subst hl
 have hA := fun M0 I0 hb hq => aUG (X := X) (w0 := w0) (M0 := M0) (I0 := I0) (q := q) (zs := zs) (c := c) (Bs := b) (by omega) hb hq
 have hC : ∀ M0 I0, aR (some ⟨b, 0, none⟩) [.slice q zs.length c] ∈ I0 → aR q (recs eZ zs) ∈ I0 → CD Tryz.prog 106 [.func (.func 108) #[] #[.pointer (some ⟨b, 0, none⟩)]] X w0 M0 I0 (fun v M I => I0 = I ∧ ∃ q' c', v = .slice q' zs.length c' ∧ M = .row q' zs.length c' (recs eZ zs) 3 1 :: M0) := fun M0 I0 h1 h2 => by
  refine bN Tryz.func106 rfl Tryz.ntmps106 rfl ?_
  repeat (refine aJ ?_)
  (refine aA rfl (hA _ _ aB aB) rfl rfl ?_; rintro _ _ _ ⟨rfl, q', c', rfl, rfl⟩; refine ⟨okF, ?_⟩)
  repeat (refine aJ ?_)
  refine aM (by first | exact .inl rfl | exact .inr rfl) rfl rfl _ _ aG aD (⟨rfl, q', c', rfl, rfl⟩)
 refine bN Tryz.func63 rfl Tryz.ntmps63 rfl ?_
 repeat (refine aJ ?_)
 (refine aA rfl (hC _ _ aB aB) rfl rfl ?_; rintro _ _ _ ⟨rfl, q1, c1, rfl, rfl⟩; refine ⟨okF, ?_⟩)
 refine aMT (fun h1 h2 h3 => ?_) (fun bq tl e hle => ?_)
 ·omega
 ·subst e
  repeat (refine aJ ?_)
  (refine aA rfl (aUH (b := bq) (tl := tl) (D := zs) rfl hn.2) rfl rfl ?_; rintro _ _ _ ⟨rfl, rfl⟩; refine ⟨okF, ?_⟩)
  repeat (refine aJ ?_)
  refine aM (by first | exact .inl rfl | exact .inr rfl) rfl rfl _ _ aG aD (⟨rfl, bq, c1, tl, rfl, hle, rfl⟩)
end
end Go.Proofs.YtjbhdfpjnjedhaaGreat
namespace Go.Proofs.YtjbhdfpjnjedhaaGreat
open Go Go.Fx
def aCV (t X Y : Int) (d : Int × Int) : Bool := decide ((X - 2 * t ≤ d.1 ∧ d.1 ≤ X) ∧ (Y - 2 * t ≤ d.2 ∧ d.2 ≤ Y))
def qU (l : List (Int × Int)) (t X Y : Int) : Nat := l.countP (aCV t X Y)
def lexL (X Y x y : Int) : Prop := X < x ∨ (X = x ∧ Y ≤ y)
structure BestD (l : List (Int × Int)) (t X Y : Int) (n : Nat) : Prop where
 eq : n = qU l t X Y
 inx : ∃ d ∈ l, d.1 = X
 iny : ∃ d ∈ l, d.2 = Y
 max : ∀ a ∈ l, ∀ b ∈ l, qU l t a.1 b.2 ≤ n
 least : ∀ a ∈ l, ∀ b ∈ l, qU l t a.1 b.2 = n → lexL X Y a.1 b.2
theorem BestD.uniq {l : List (Int × Int)} {t X Y X' Y' : Int} {n n' : Nat} (h : BestD l t X Y n) (h' : BestD l t X' Y' n') : X = X' ∧ Y = Y' ∧ n = n' := by
 obtain ⟨a, ha, ea⟩ := h.inx
 obtain ⟨b, hb, eb⟩ := h.iny
 obtain ⟨a', ha', ea'⟩ := h'.inx
 obtain ⟨b', hb', eb'⟩ := h'.iny
 have e1 := h'.max a ha b hb
 have e2 := h.max a' ha' b' hb'
 rw [ea, eb, ← h.eq] at e1
 rw [ea', eb', ← h'.eq] at e2
 have en : n = n' := by omega
 have l1 := h'.least a ha b hb (by rw [ea, eb, ← h.eq]; exact en)
 have l2 := h.least a' ha' b' hb' (by rw [ea', eb', ← h'.eq]; exact en.symm)
 rw [ea, eb] at l1
 rw [ea', eb'] at l2
 unfold lexL at l1 l2
 refine ⟨?_, ?_, en⟩ <;> omega
structure Bst (l : List (Int × Int)) (t : Int) (V : Int → Int → Prop) (X Y : Int) (n : Nat) : Prop where
 eq : n = qU l t X Y
 mem : V X Y
 max : ∀ x y, V x y → qU l t x y ≤ n
 least : ∀ x y, V x y → qU l t x y = n → lexL X Y x y
def BInv (l : List (Int × Int)) (t : Int) (V : Int → Int → Prop) (X Y : Int) (n : Nat) : Prop := (n = 0 ∧ ∀ x y, V x y → qU l t x y = 0) ∨ (0 < n ∧ Bst l t V X Y n)
section
variable {l : List (Int × Int)} {t X Y x y : Int} {V V' : Int → Int → Prop} {n : Nat}
theorem BInv.le (h : BInv l t V X Y n) {a b : Int} (hv : V a b) : qU l t a b ≤ n := by
 rcases h with ⟨_, h⟩ | ⟨_, h⟩
 ·rw [h a b hv]; omega
 ·exact h.max a b hv
theorem BInv.more (h : BInv l t V X Y n) (hc : n < qU l t x y) (hV : ∀ a b, V' a b → V a b ∨ (a = x ∧ b = y)) (hm : V' x y) : BInv l t V' x y (qU l t x y) := by
 refine .inr ⟨by omega, rfl, hm, fun a b hv => ?_, fun a b hv he => ?_⟩
 ·rcases hV a b hv with h1 | ⟨rfl, rfl⟩
  ·have := h.le h1; omega
  ·omega
 ·rcases hV a b hv with h1 | ⟨rfl, rfl⟩
  ·have := h.le h1; omega
  ·exact .inr ⟨rfl, Int.le_refl _⟩
theorem BInv.keep (h : BInv l t V X Y n) (hc : qU l t x y ≤ n) (hl : 0 < n → qU l t x y = n → V X Y → lexL X Y x y) (hV : ∀ a b, V' a b → V a b ∨ (a = x ∧ b = y)) (hm : ∀ a b, V a b → V' a b) : BInv l t V' X Y n := by
 rcases h with ⟨h0, h⟩ | ⟨h0, h⟩
 ·refine .inl ⟨h0, fun a b hv => ?_⟩
  rcases hV a b hv with h1 | ⟨rfl, rfl⟩
  ·exact h a b h1
  ·omega
 ·refine .inr ⟨h0, h.eq, hm _ _ h.mem, fun a b hv => ?_, fun a b hv he => ?_⟩
  ·rcases hV a b hv with h1 | ⟨rfl, rfl⟩
   ·exact h.max a b h1
   ·exact hc
  ·rcases hV a b hv with h1 | ⟨rfl, rfl⟩
   ·exact h.least a b h1 he
   ·exact hl h0 he h.mem
theorem BInv.same (h : BInv l t V X Y n) (hV : ∀ a b, V' a b ↔ V a b) : BInv l t V' X Y n := by
 have e : V' = V := by funext a b; exact propext (hV a b)
 rw [e]; exact h
theorem aTC {d : Int × Int} (hd : d ∈ l) (ht : 0 ≤ t) : 0 < qU l t d.1 d.2 :=
 List.countP_pos_iff.2 ⟨d, hd, by simp only [aCV, decide_eq_true_eq]; omega⟩
theorem BInv.best (h : BInv l t V X Y n) (hl : l ≠ []) (ht : 0 ≤ t) (h1 : ∀ a ∈ l, ∀ b ∈ l, V a.1 b.2) (h2 : ∀ x y, V x y → (∃ d ∈ l, d.1 = x) ∧ (∃ d ∈ l, d.2 = y)) : 0 < n ∧ BestD l t X Y n := by
 obtain ⟨d, r, rfl⟩ := List.exists_cons_of_ne_nil hl
 have hd : d ∈ d :: r := List.mem_cons_self
 have hp := aTC hd ht
 rcases h with ⟨h0, h⟩ | ⟨h0, h⟩
 ·have := h _ _ (h1 d hd d hd); omega
 ·exact ⟨h0, h.eq, (h2 _ _ h.mem).1, (h2 _ _ h.mem).2, fun a ha b hb => h.max _ _ (h1 a ha b hb), fun a ha b hb he => h.least _ _ (h1 a ha b hb) he⟩
end
theorem max2 : ∀ (L : List (Int × Int)), L ≠ [] → ∃ a ∈ L, ∀ b ∈ L, b.2 ≤ a.2
 | [], h => absurd rfl h
 | [d], _ => ⟨d, by simp, fun b hb => by simp at hb; rw [hb]; exact Int.le_refl _⟩
 | d :: e :: r, _ => by
  obtain ⟨a, ha, hm⟩ := max2 (e :: r) (by simp)
  by_cases h : d.2 ≤ a.2
  ·exact ⟨a, List.mem_cons_of_mem _ ha, fun b hb => by
    rcases List.mem_cons.1 hb with rfl | hb
    ·exact h
    ·exact hm b hb⟩
  ·exact ⟨d, List.mem_cons_self, fun b hb => by
    rcases List.mem_cons.1 hb with rfl | hb
    ·exact Int.le_refl _
    ·have := hm b hb; omega⟩
def abR (q : Rat) : Rat := if q < 0 then -q else q
def winR (t : Int) (s r : Rat) (d : Int × Int) : Bool := decide (abR ((d.1 : Rat) - s) ≤ (t : Rat) ∧ abR ((d.2 : Rat) - r) ≤ (t : Rat))
/- ---------- duplicates taken out of a sorted list ---------- -/
def mP : List Int → List Int
 | [] => []
 | [x] => [x]
 | x :: y :: r => if x = y then mP (y :: r) else x :: mP (y :: r)
theorem aAY : ∀ (l : List Int) (y x : Int), mP (l ++ [y, x]) = if x = y then mP (l ++ [y]) else mP (l ++ [y]) ++ [x]
 | [], y, x => by
  show (if y = x then mP [x] else y :: mP [x]) = _
  by_cases h : x = y
  ·subst h; simp [mP]
  ·rw [if_neg h, if_neg (fun e => h e.symm)]; rfl
 | [a], y, x => by
  have ih := aAY [] y x
  simp only [List.nil_append] at ih
  show (if a = y then mP [y, x] else a :: mP [y, x]) = if x = y then (if a = y then mP [y] else a :: mP [y]) else (if a = y then mP [y] else a :: mP [y]) ++ [x]
  rw [ih]
  by_cases h : a = y <;> by_cases h2 : x = y <;> simp [h, h2]
 | a :: b :: r, y, x => by
  have ih := aAY (b :: r) y x
  show (if a = b then mP (b :: (r ++ [y, x])) else a :: mP (b :: (r ++ [y, x]))) = if x = y then (if a = b then mP (b :: (r ++ [y])) else a :: mP (b :: (r ++ [y]))) else (if a = b then mP (b :: (r ++ [y])) else a :: mP (b :: (r ++ [y]))) ++ [x]
  rw [List.cons_append, List.cons_append] at ih
  rw [ih]
  by_cases h : a = b <;> by_cases h2 : x = y <;> simp [h, h2]
theorem aFQ : ∀ (l : List Int), (mP l).length ≤ l.length
 | [] => Nat.le_refl _
 | [x] => Nat.le_refl _
 | x :: y :: r => by
  have ih := aFQ (y :: r)
  show (if x = y then mP (y :: r) else x :: mP (y :: r)).length ≤ _
  split
  ·simp at ih ⊢; omega
  ·simp at ih ⊢; omega
theorem zP : ∀ (l : List Int) (z : Int), z ∈ mP l ↔ z ∈ l
 | [], z => Iff.rfl
 | [x], z => Iff.rfl
 | x :: y :: r, z => by
  have ih := zP (y :: r) z
  show z ∈ (if x = y then mP (y :: r) else x :: mP (y :: r)) ↔ _
  by_cases h : x = y
  ·rw [if_pos h, ih, List.mem_cons (b := x), h]
   constructor
   ·exact fun h => .inr h
   ·rintro (rfl | h)
    ·exact List.mem_cons_self
    ·exact h
  ·rw [if_neg h, List.mem_cons, ih, List.mem_cons (b := x)]
def aFG (l : List Int) : Prop := l.Pairwise (· < ·)
def asw (l : List Int) : Prop := l.Pairwise (· ≤ ·)
theorem aSN {y : Int} {r : List Int} : ∃ t, mP (y :: r) = y :: t := by
 induction r generalizing y with
 | nil => exact ⟨[], rfl⟩
 | cons z r ih =>
  show ∃ t, (if y = z then mP (z :: r) else y :: mP (z :: r)) = y :: t
  by_cases h : y = z
  ·subst h; rw [if_pos rfl]; exact ih
  ·rw [if_neg h]; exact ⟨_, rfl⟩
theorem aFE : ∀ {l : List Int}, asw l → aFG (mP l)
 | [], _ => List.Pairwise.nil
 | [x], _ => by unfold aFG mP; simp
 | x :: y :: r, h => by
  have h' := List.pairwise_cons.1 h
  have ih := aFE (l := y :: r) h'.2
  show aFG (if x = y then mP (y :: r) else x :: mP (y :: r))
  by_cases e : x = y
  ·rw [if_pos e]; exact ih
  ·rw [if_neg e]
   refine List.pairwise_cons.2 ⟨fun z hz => ?_, ih⟩
   rw [zP] at hz
   have h1 := h'.1 y List.mem_cons_self
   rcases List.mem_cons.1 hz with rfl | hz2
   ·omega
   ·have := (List.pairwise_cons.1 h'.2).1 z hz2
    omega
theorem xO : ∀ {l : List Int}, aFG l → ∀ j : Nat, ∃ i : Nat, i ≤ j ∧ mP (l ++ List.replicate j 0) = l ++ List.replicate i 0
 | [], _, 0 => ⟨0, Nat.le_refl _, rfl⟩
 | [], _, j + 1 => by
  refine ⟨1, by omega, ?_⟩
  have : ∀ j : Nat, mP (List.replicate (j + 1) (0 : Int)) = [0] := by
   intro j
   induction j with
   | zero => rfl
   | succ j ih =>
    show (if (0 : Int) = 0 then mP (List.replicate (j + 1) (0 : Int)) else _) = _
    rw [if_pos rfl]; exact ih
  exact this j
 | [x], _, 0 => ⟨0, Nat.le_refl _, rfl⟩
 | [x], h, j + 1 => by
  obtain ⟨i, hi, e⟩ := xO (l := []) List.Pairwise.nil (j + 1)
  simp only [List.nil_append] at e
  by_cases hx : x = 0
  ·subst hx
   have e2 : mP ([0] ++ List.replicate (j + 1) (0 : Int)) = mP (List.replicate (j + 1) (0 : Int)) := rfl
   rw [e2, e]
   cases i with
   | zero =>
    obtain ⟨t, ht⟩ := aSN (y := 0) (r := List.replicate j (0 : Int))
    have : mP (0 :: List.replicate j (0 : Int)) = [] := e
    rw [ht] at this
    cases this
   | succ i => exact ⟨i, by omega, rfl⟩
  ·refine ⟨i, hi, ?_⟩
   show (if x = 0 then mP (List.replicate (j + 1) (0 : Int)) else x :: mP (List.replicate (j + 1) (0 : Int))) = _
   rw [if_neg hx, e]
   rfl
 | x :: y :: r, h, j => by
  have h' := List.pairwise_cons.1 h
  obtain ⟨i, hi, e⟩ := xO h'.2 j
  have := h'.1 y List.mem_cons_self
  refine ⟨i, hi, ?_⟩
  show (if x = y then mP (y :: (r ++ List.replicate j 0)) else x :: mP (y :: (r ++ List.replicate j 0))) = _
  rw [if_neg (by omega)]
  exact congrArg (x :: ·) e
/- ---------- the program's order ---------- -/
def Vis (xs c : List Int) (i j : Nat) (x y : Int) : Prop := (∃ a : Nat, a < i ∧ a < xs.length ∧ x = gt xs (a : Int) ∧ y ∈ c) ∨ (i < xs.length ∧ x = gt xs (i : Int) ∧ ∃ b : Nat, b < j ∧ b < c.length ∧ y = gt c (b : Int))
theorem aQS {l : List Int} (h : aFG l) {a b : Nat} (hab : a < b) (hb : b < l.length) : gt l (a : Int) < gt l (b : Int) := by
 have := List.pairwise_iff_getElem.1 h a b (by omega) hb hab
 simpa [gt, List.getD, hb, show a < l.length by omega] using this
theorem aAM {l : List Int} {z : Int} : z ∈ l ↔ ∃ a : Nat, a < l.length ∧ z = gt l (a : Int) := by
 constructor
 ·intro h
  obtain ⟨a, ha, rfl⟩ := List.mem_iff_getElem.1 h
  exact ⟨a, ha, by simp [gt, List.getD, ha]⟩
 ·rintro ⟨a, ha, rfl⟩
  have : gt l (a : Int) = l[a] := by simp [gt, List.getD, ha]
  rw [this]; exact List.getElem_mem ha
theorem aPG (l : List (Int × Int)) (t x y : Int) : qU l t x y = 0 ∨ ∃ d ∈ l, qU l t x y ≤ qU l t x d.2 := by
 by_cases he : l.filter (aCV t x y) = []
 ·exact .inl (by unfold qU; rw [List.countP_eq_length_filter, he]; rfl)
 ·obtain ⟨b, hb, mb⟩ := max2 _ he
  obtain ⟨hb1, hb2⟩ := List.mem_filter.1 hb
  refine .inr ⟨b, hb1, List.countP_mono_left (fun d hd hw => ?_)⟩
  have hm := mb d (List.mem_filter.2 ⟨hd, hw⟩)
  simp only [aCV, decide_eq_true_eq] at hw hb2 ⊢
  omega
section
variable {l : List (Int × Int)} {t X Y : Int} {xs c : List Int} {i j n : Nat}
theorem wR {x y : Int} (hi : i < xs.length) (hj : j < c.length) : Vis xs c i (j + 1) x y ↔ Vis xs c i j x y ∨ (x = gt xs (i : Int) ∧ y = gt c (j : Int)) := by
 unfold Vis
 constructor
 ·rintro (h | ⟨h1, h2, b, h3, h4, h5⟩)
  ·exact .inl (.inl h)
  ·by_cases e : b = j
   ·subst e; exact .inr ⟨h2, h5⟩
   ·exact .inl (.inr ⟨h1, h2, b, by omega, h4, h5⟩)
 ·rintro ((h | ⟨h1, h2, b, h3, h4, h5⟩) | ⟨h1, h2⟩)
  ·exact .inl h
  ·exact .inr ⟨h1, h2, b, by omega, h4, h5⟩
  ·exact .inr ⟨hi, h1, j, by omega, hj, h2⟩
theorem aIB (hx : aFG xs) (hc : aFG c) (h : BInv l t (Vis xs c i j) X Y n) (hi : i < xs.length) (hj : j < c.length) :
  (n < qU l t (gt xs (i : Int)) (gt c (j : Int)) → BInv l t (Vis xs c i (j + 1)) (gt xs (i : Int)) (gt c (j : Int)) (qU l t (gt xs (i : Int)) (gt c (j : Int)))) ∧ (¬ n < qU l t (gt xs (i : Int)) (gt c (j : Int)) → BInv l t (Vis xs c i (j + 1)) X Y n) := by
 constructor
 ·intro hlt
  exact h.more hlt (fun a b hv => (wR hi hj).1 hv) ((wR hi hj).2 (.inr ⟨rfl, rfl⟩))
 ·intro hge
  refine h.keep (x := gt xs (i : Int)) (y := gt c (j : Int)) (by omega) (fun _ _ hV => ?_) (fun a b hv => (wR hi hj).1 hv) (fun a b hv => (wR hi hj).2 (.inl hv))
  unfold lexL
  rcases hV with ⟨a, h1, h2, h3, _⟩ | ⟨h1, h2, b, h3, h4, h5⟩
  ·left; rw [h3]; exact aQS hx h1 hi
  ·right; exact ⟨h2, by rw [h5]; exact Int.le_of_lt (aQS hc h3 hj)⟩
theorem aGC (hcl : c.length ≤ j) (hi : i < xs.length) (hl : ∀ d ∈ l, d.2 ∈ c) (h : BInv l t (Vis xs c i j) X Y n) (y : Int) : qU l t (gt xs (i : Int)) y ≤ n ∧ BInv l t (Vis xs c i (j + 1)) X Y n := by
 constructor
 ·rcases aPG l t (gt xs (i : Int)) y with h0 | ⟨d, hd, hle⟩
  ·omega
  ·obtain ⟨b, hb, e⟩ := aAM.1 (hl d hd)
   have := h.le (a := gt xs (i : Int)) (b := d.2) (.inr ⟨hi, rfl, b, by omega, hb, e⟩)
   omega
 ·refine h.same (fun a b => ?_)
  unfold Vis
  constructor
  ·rintro (h | ⟨h1, h2, b, h3, h4, h5⟩)
   ·exact .inl h
   ·exact .inr ⟨h1, h2, b, by omega, h4, h5⟩
  ·rintro (h | ⟨h1, h2, b, h3, h4, h5⟩)
   ·exact .inl h
   ·exact .inr ⟨h1, h2, b, by omega, h4, h5⟩
theorem aRS (h : BInv l t (Vis xs c i j) X Y n) (hi : i < xs.length) (hj : c.length ≤ j) : BInv l t (Vis xs c (i + 1) 0) X Y n := by
 refine h.same (fun a b => ?_)
 unfold Vis
 constructor
 ·rintro (⟨a, h1, h2, h3, h4⟩ | ⟨_, _, b, h3, _⟩)
  ·by_cases e : a = i
   ·subst e
    obtain ⟨b, hb, e⟩ := aAM.1 h4
    exact .inr ⟨hi, h3, b, by omega, hb, e⟩
   ·exact .inl ⟨a, by omega, h2, h3, h4⟩
  ·omega
 ·rintro (⟨a, h1, h2, h3, h4⟩ | ⟨h1, h2, b, h3, h4, h5⟩)
  ·exact .inl ⟨a, by omega, h2, h3, h4⟩
  ·exact .inl ⟨i, by omega, hi, h2, aAM.2 ⟨b, h4, h5⟩⟩
theorem aMN : BInv l t (Vis xs c 0 0) X Y 0 := .inl ⟨rfl, fun x y hv => by
 rcases hv with ⟨a, h, _⟩ | ⟨_, _, b, h, _⟩ <;> omega⟩
theorem aVC (h : BInv l t (Vis xs c xs.length 0) X Y n) (hx : ∀ z, z ∈ xs ↔ ∃ d ∈ l, d.1 = z) (hc : ∀ z, z ∈ c ↔ ∃ d ∈ l, d.2 = z) (hl : l ≠ []) (ht : 0 ≤ t) : 0 < n ∧ BestD l t X Y n := by
 refine h.best hl ht (fun a ha b hb => ?_) (fun x y hv => ?_)
 ·obtain ⟨k, hk, e⟩ := aAM.1 ((hx a.1).2 ⟨a, ha, rfl⟩)
  exact .inl ⟨k, hk, hk, e, (hc b.2).2 ⟨b, hb, rfl⟩⟩
 ·rcases hv with ⟨a, h1, h2, h3, h4⟩ | ⟨h1, _⟩
  ·exact ⟨(hx x).1 (aAM.2 ⟨a, h2, h3⟩), (hc y).1 h4⟩
  ·omega
end
end Go.Proofs.YtjbhdfpjnjedhaaGreat
