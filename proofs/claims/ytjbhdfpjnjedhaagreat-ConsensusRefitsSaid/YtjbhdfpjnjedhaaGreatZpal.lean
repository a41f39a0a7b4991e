/- integer: short division The walk, kept once. Functions of Go's slices package, at slices of ints and the like. Stable sorting, plain: merging by a key, the sorted list, how lists of parts change under swaps. Forest: the stable sort of numbers. Forest: the stable sort of numbers, merging. Forest: the stable sort of numbers, whole. -/
import Derived.Test.YtjbhdfpjnjedhaaGreatZpak
import Derived.Test.YtjbhdfpjnjedhaaGreatZpae
import Derived.Test.YtjbhdfpjnjedhaaGreatZpag
import Derived.Test.YtjbhdfpjnjedhaaGreatZpad
set_option linter.unusedSimpArgs false
set_option linter.unusedVariables false
set_option maxRecDepth 100000
set_option maxHeartbeats 4000000
namespace Go.Proofs.YtjbhdfpjnjedhaaGreat
open Go Go.Fx Go.RowKit Go.Shelf
attribute [local go_sem] Oper.semAt_some
theorem aQI (w : World) (m : Nat) (hm : m ≤ 100000000000) : (Instr.makeSlice 46 (.int .i64 (m : Int)) (.int .i64 (m : Int))).run Tryz.prog w = .ok (.slice (some ⟨w.heap.size, 0, none⟩) m m) (w.alloc (.cells (madeCells #[.int .u32 0] m) 104)) := by
 have ht : SliceTy Tryz.prog 46 104 1 := inferInstance
 have hz : ElemTy Tryz.prog 104 1 4 [.int .u32 0] := inferInstance
 obtain ⟨i, v, hi, hs, hby, hzv, hcl⟩ := uA hz
 have hr := run_make (P := Tryz.prog) w 46 104 i v ht.und hi hzv .i64 .i64 m m (by omega) (by omega) (by rw [hby]; omega) (by omega)
 simpa only [Int.toNat_natCast, hs, hcl, Nat.mul_one] using hr
theorem aLR {P : Program} {fn : Func} {tmps : Array Value} {w : World} {rs : List ResultVar} {vs : List Value} (hr : fn.results = rs.toArray) (hv : aDA P tmps w rs vs) (hl : Nat.beq vs.length 1 = false) : (results fn tmps).run P w = .ok (.tuple vs.toArray) w := by
 have e1 := wL P tmps w rs vs hv
 have hne : ¬ vs.length = 1 := by intro e; simp [e] at hl
 unfold results
 rw [hr, Sem.run_bind]
 refine (congrArg (fun r => Result.andThen r fun a w' => Sem.run P (pure (if h : a.size = 1 then a[0] else Value.tuple a)) w') e1).trans ?_
 simp [hne]
def shS (d : Int) (st : List Int × Int) (i : Nat) (g : Int) : List Int × Int := (st.1.set i ((st.2 * 1000000000 + g).tdiv d), (st.2 * 1000000000 + g).tmod d)
def xS (zs : List Int) (d : Int) (pre : List (Dg zs)) : List Int × Int := pre.foldl (fun st x => shS d st x.1 (zs[x.1]?.getD 0)) (List.replicate zs.length 0, 0)
theorem aGW (zs : List Int) (d : Int) (pre : List (Dg zs)) (x : Dg zs) : xS zs d (pre ++ [x]) = shS d (xS zs d pre) x.1 (zs[x.1]?.getD 0) := by simp [xS]
theorem aVW {d : Int} {st : List Int × Int} {i : Nat} {g : Int} (hd : 0 < d ∧ d < 1000000000) (hr : 0 ≤ st.2 ∧ st.2 < d) (hg : 0 ≤ g ∧ g < 1000000000) : (shS d st i g).1.length = st.1.length ∧ 0 ≤ (shS d st i g).2 ∧ (shS d st i g).2 < d := by
 unfold shS
 refine ⟨by simp, ?_⟩
 simp only
 rw [Int.tmod_eq_emod_of_nonneg (by omega)]
 exact ⟨Int.emod_nonneg _ (by omega), Int.emod_lt_of_pos _ hd.1⟩
theorem aED {zs : List Int} {d : Int} (hd : 0 < d ∧ d < 1000000000) (hz : Dig zs) (pre : List (Dg zs)) : (xS zs d pre).1.length = zs.length ∧ 0 ≤ (xS zs d pre).2 ∧ (xS zs d pre).2 < d := by
 unfold xS
 generalize hs : (List.replicate zs.length (0 : Int), (0 : Int)) = st
 have h0 : st.1.length = zs.length ∧ 0 ≤ st.2 ∧ st.2 < d := by subst hs; simp; exact hd.1
 clear hs
 induction pre generalizing st with
 | nil => exact h0
 | cons x r ih =>
  rw [List.foldl_cons]
  refine ih _ ?_
  have := aVW (i := x.1) (g := zs[x.1]?.getD 0) hd h0.2 (by have := hz.getD x.1; simpa using this)
  exact ⟨this.1.trans h0.1, this.2⟩
theorem rD {A B : World} {row : Option Nat} {b n : Nat} {cs : List Value} {e : TypeId} (h : Blk A b cs e) (hb : b < n) (hg : A.grownBy B row) (hr : ∀ j, row = some j → n ≤ j) : Blk B b cs e :=
 (hg.block b h.lt (fun e => by have := hr b e.symm; omega)).trans h
structure ShI (s len : Nat) (d : Int) (st : List Int × Int) (W : World) : Prop where
 b0 : Blk W s [.int .u32 d] 104
 b1 : Blk W (s + 1) [.slice (some ⟨s + 1 + 1, 0, none⟩) len len] 46
 b2 : Blk W (s + 1 + 1) (recs eG st.1) 104
 b3 : Blk W (s + 1 + 1 + 1) [.int .u64 st.2] 183
theorem ShI.mem {s len : Nat} {d : Int} {st : List Int × Int} {W : World} (h : ShI s len d st W) :
  Mem [s, s + 1, s + 1 + 1, s + 1 + 1 + 1] W [.blk s [.int .u32 d] 104, .blk (s + 1) [.slice (some ⟨s + 1 + 1, 0, none⟩) len len] 46, .blk (s + 1 + 1) (recs eG st.1) 104, .blk (s + 1 + 1 + 1) [.int .u64 st.2] 183] [] W := by
 refine ⟨Ext.refl _ _, ?_, ?_, ?_, fun _ h => by cases h⟩
 ·intro b hb
  simp [muts, Ent.blocks] at hb
  simp; omega
 ·simp [muts, Ent.blocks]
  omega
 ·intro e he
  simp only [List.mem_cons, List.not_mem_nil, or_false] at he
  rcases he with rfl | rfl | rfl | rfl
  ·exact h.b0
  ·exact h.b1
  ·exact h.b2
  ·exact h.b3
theorem ShI.of {s len : Nat} {d : Int} {st : List Int × Int} {W0 W : World} {X : List Nat} {I : List aY} (h : Mem X W0 [.blk s [.int .u32 d] 104, .blk (s + 1) [.slice (some ⟨s + 1 + 1, 0, none⟩) len len] 46, .blk (s + 1 + 1) (recs eG st.1) 104, .blk (s + 1 + 1 + 1) [.int .u64 st.2] 183] I W) : ShI s len d st W :=
 ⟨h.blk (by simp), h.blk (by simp), h.blk (by simp), h.blk (by simp)⟩
theorem aRC (a : Option Addr) (cap : Nat) (zs : List Int) (d : Int) (w : World) (hz : zs.length ≤ 100000000000) (hD' : Dig zs) (hd : 0 < d ∧ d < 1000000000) (hI : Sl [] w a (recs eG zs)) :
  CallsIn Fence.wide 5 Tryz.prog 249 #[.slice a zs.length cap, .int .u32 d] w fun e w' => ∃ b c', e = .returned (.tuple #[.slice (some ⟨b, 0, none⟩) (fQ (xS zs d (uP zs zs.length)).1).length c', .int .u32 (xS zs d (uP zs zs.length)).2]) ∧ Below w.heap.size w w' ∧ (fQ (xS zs d (uP zs zs.length)).1).length ≤ c' ∧ w.heap.size ≤ b ∧ Sl [] w' (some ⟨b, 0, none⟩) (recs eG (fQ (xS zs d (uP zs zs.length)).1)) := by
 refine callsIn_of_wp_marks Tryz.func249 rfl trivial ?_ rfl
 simp only [Tryz.ntmps249, List.size_toArray, List.length_cons, List.length_nil, Nat.reduceAdd, Nat.reduceSub, Array.replicate_succ, Array.replicate_zero, List.push_toArray, List.append_toArray, List.nil_append, List.cons_append]
 gi_wp2_with (refine ⟨trivial, ?_⟩; gi_at_call 236; refine (zF Fence.wide _ trivial rfl _ _ _ _).mono ?_; rintro e w' ⟨rfl, rfl⟩)
 rw [aQI _ _ (by omega)]
 gi_wp2_with (refine ⟨trivial, ?_⟩; gi_at_call 236; refine (zF Fence.wide _ trivial rfl _ _ _ _).mono ?_; rintro e w' ⟨rfl, rfl⟩)
 generalize hW0 : ((((w.alloc (.cells #[.int .u32 d] 104)).alloc (.cells #[.slice (some ⟨w.heap.size + 1 + 1, 0, none⟩) zs.length zs.length] 46)).alloc (.cells (madeCells #[.int .u32 0] zs.length) 104)).alloc (.cells #[.int .u64 0] 183)).alloc (.cells #[.slice a zs.length cap] 46) = W0
 have hBl : Below w.heap.size w W0 := by
  subst hW0
  exact (((((Below.refl _ w).alloc (Nat.le_refl _) _).alloc (by simp) _).alloc (by simp; omega) _).alloc (by simp; omega) _).alloc (by simp; omega) _
 have hsz : W0.heap.size = w.heap.size + 1 + 1 + 1 + 1 + 1 := by subst hW0; simp
 have hSh : ShI w.heap.size zs.length d (xS zs d []) W0 := by
  subst hW0
  refine ⟨?_, ?_, ?_, ?_⟩
  ·exact (heap_alloc_old _ _ _ (by simp <;> omega)).trans ((heap_alloc_old _ _ _ (by simp <;> omega)).trans ((heap_alloc_old _ _ _ (by simp <;> omega)).trans ((heap_alloc_old _ _ _ (by simp)).trans (heap_alloc_new _ _))))
  ·have := heap_alloc_new (w.alloc (.cells #[.int .u32 d] 104)) (.cells #[.slice (some ⟨w.heap.size + 1 + 1, 0, none⟩) zs.length zs.length] 46)
   rw [World.size_alloc] at this
   exact (heap_alloc_old _ _ _ (by simp <;> omega)).trans ((heap_alloc_old _ _ _ (by simp <;> omega)).trans ((heap_alloc_old _ _ _ (by simp)).trans this))
  ·have := heap_alloc_new ((w.alloc (.cells #[.int .u32 d] 104)).alloc (.cells #[.slice (some ⟨w.heap.size + 1 + 1, 0, none⟩) zs.length zs.length] 46)) (.cells (madeCells #[.int .u32 0] zs.length) 104)
   simp only [World.size_alloc] at this
   refine (heap_alloc_old _ _ _ (by simp <;> omega)).trans ((heap_alloc_old _ _ _ (by simp)).trans (this.trans ?_))
   have e : (madeCells #[.int .u32 0] zs.length) = (recs eG (List.replicate zs.length 0)).toArray := by
    have := nL .u32 zs.length
    rw [Nat.mul_one] at this
    rw [← this]
   rw [e]
   rfl
  ·have := heap_alloc_new (((w.alloc (.cells #[.int .u32 d] 104)).alloc (.cells #[.slice (some ⟨w.heap.size + 1 + 1, 0, none⟩) zs.length zs.length] 46)).alloc (.cells (madeCells #[.int .u32 0] zs.length) 104)) (.cells #[.int .u64 0] 183)
   simp only [World.size_alloc] at this
   exact (heap_alloc_old _ _ _ (by simp)).trans this
 have hb : W0.cell? ⟨w.heap.size + 1 + 1 + 1 + 1, 0, none⟩ = some (.slice a zs.length cap) := by
  subst hW0
  have := (nS ((((w.alloc (.cells #[.int .u32 d] 104)).alloc (.cells #[.slice (some ⟨w.heap.size + 1 + 1, 0, none⟩) zs.length zs.length] 46)).alloc (.cells (madeCells #[.int .u32 0] zs.length) 104)).alloc (.cells #[.int .u64 0] 183)) (.slice a zs.length cap) 46).1
  simpa only [World.size_alloc] using this
 have hI2 := Sl.mono hI (Ext.of_below hBl)
 refine wpIn_rangeFunc_ownG rfl (by decide) (gf := 253) (lb := #[.pointer (some ⟨w.heap.size + 1 + 1 + 1 + 1, 0, none⟩)]) rfl trivial (enters_of Tryz.func253 (by kernel_rfl) rfl)
  (aAH Fence.wide (5 - 1) trivial rfl (by decide) (w.heap.size + 1 + 1 + 1 + 1) w.heap.size a cap zs (by omega) _ (by omega) (by omega) hb hI2 (aJL hI)) KpB.trans (aNY (by omega)) (Below.refl _ _) (fun _ => rfl)
  (fun pre W => ShI w.heap.size zs.length d (xS zs d pre) W ∧ Below w.heap.size w W)
  (fun _ _ _ => False)
  (OwnFrom.and (fun pre A B row hs hg hr => ⟨rD hs.b0 (by omega) hg (fun j e => (hr j e).1), rD hs.b1 (by omega) hg (fun j e => (hr j e).1), rD hs.b2 (by omega) hg (fun j e => (hr j e).1), rD hs.b3 (by omega) hg (fun j e => (hr j e).1)⟩) (ownFrom_below (Nat.le_refl _) (by omega)))
  (fun _ _ _ _ _ hs _ _ => hs) ⟨hSh, hBl⟩ ?a1 ?assign ?body ?done ?stop
 case assign =>
  intro l x W K hK
  dsimp only [dgE]
  gi_wp2
  exact hK
 case body =>
  rintro l pre x W ⟨hS, hB⟩ hpl
  have hx := x.2
  have hgx : 0 ≤ zs[x.1]?.getD 0 ∧ zs[x.1]?.getD 0 < 1000000000 := by have := hD'.getD x.1; simpa using this
  have hst := aED hd hD' pre
  have hc3 := hS.b3.cell (o := 0) rfl
  gi_wp2
  have ev : IntKind.u64.wrap ((xS zs d pre).snd * 1000000000 + IntKind.u64.wrap zs[x.val]) = (xS zs d pre).snd * 1000000000 + zs[x.1]?.getD 0 := by
   have e : zs[x.1] = zs[x.1]?.getD 0 := by simp [hx]
   rw [e, wrap_u64 (n := zs[x.1]?.getD 0) (by omega), wrap_u64 (by omega)]
  rw [ev]
  obtain ⟨o, ho⟩ : ∃ o, (xS zs d pre).1 = o := ⟨_, rfl⟩
  obtain ⟨r, hr⟩ : ∃ r, (xS zs d pre).2 = r := ⟨_, rfl⟩
  have hM := hS.mem
  rw [hr] at hst ⊢
  rw [ho] at hst
  rw [ho, hr] at hM
  have hsn := aGW zs d pre x
  unfold shS at hsn
  rw [ho, hr] at hsn
  have hV : 0 ≤ r * 1000000000 + zs[x.1]?.getD 0 := by omega
  have hq1 : (r * 1000000000 + zs[x.1]?.getD 0).tdiv d = (r * 1000000000 + zs[x.1]?.getD 0) / d := Int.tdiv_eq_ediv_of_nonneg hV
  have hq2 : (r * 1000000000 + zs[x.1]?.getD 0) / d < 1000000000 := by
   apply Int.ediv_lt_of_lt_mul hd.1
   have : (r + 1) * 1000000000 ≤ d * 1000000000 := Int.mul_le_mul_of_nonneg_right (by omega) (by omega)
   omega
  have hq3 : 0 ≤ (r * 1000000000 + zs[x.1]?.getD 0) / d := Int.ediv_nonneg hV (by omega)
  have hm1 : (r * 1000000000 + zs[x.1]?.getD 0).tmod d = (r * 1000000000 + zs[x.1]?.getD 0) % d := Int.tmod_eq_emod_of_nonneg hV
  have hm2 := Int.emod_lt_of_pos (r * 1000000000 + zs[x.1]?.getD 0) hd.1
  have hm3 := Int.emod_nonneg (r * 1000000000 + zs[x.1]?.getD 0) (show d ≠ 0 by omega)
  refine aJG (Has.cons (t := 3) (v := .pointer (some ⟨w.heap.size, 0, none⟩)) (Has.cons (t := 4) (v := .pointer (some ⟨w.heap.size + 1, 0, none⟩)) (Has.cons (t := 6) (v := .pointer (some ⟨w.heap.size + 1 + 1 + 1, 0, none⟩)) (Has.cons (t := 7) (v := .int .i64 (x.1 : Int)) (Has.cons (t := 9) (v := .int .u64 (r * 1000000000 + zs[x.1]?.getD 0)) (Has.nil (n := 38) rfl rfl) rfl) rfl) rfl) rfl) rfl) (hM) (by rintro ⟨a, w, h⟩; exact h) 1 ([.blk w.heap.size [.int .u32 d] 104, .blk (w.heap.size + 1) [.slice (some ⟨w.heap.size + 1 + 1, 0, none⟩) zs.length zs.length] 46]) ([]) [0, 1, 2, 3, 4, 5, 6, 7, 8, 9, 10, 11, 12, 13] [0, 0, 0, 0, 0, 0, 0, 1, 1, 1, 1, 0, 0, 0] bV bT mixed (by kernel_rfl) (by kernel_rfl) ?_
  repeat (refine jG ?_)
  refine ⟨fun W' hm => ⟨fun act ha => ?_⟩⟩
  refine ⟨aFC hm.ext (fun k hk => ?_), ⟨sI hm.ext (fun k hk => ?_) (by have := hB.size; omega), fun v hv => hm.ext.cell hv ?_⟩, ⟨?_, ?_⟩⟩
  ·simp at hk; omega
  ·simp at hk; omega
  ·simp; omega
  ·rw [hsn]
   exact ShI.of hm
  ·exact hB.trans (sI hm.ext (fun k hk => by simp at hk; omega) (by have := hB.size; omega))
 case done =>
  rintro D ys W hD rfl ⟨hS, hB⟩ hK
  have hst := aED hd hD' (uP zs zs.length)
  obtain ⟨o, ho⟩ : ∃ o, (xS zs d (uP zs zs.length)).1 = o := ⟨_, rfl⟩
  obtain ⟨r, hr⟩ : ∃ r, (xS zs d (uP zs zs.length)).2 = r := ⟨_, rfl⟩
  have hM := hS.mem
  rw [hr, ho] at hst
  rw [ho, hr] at hM
  have hM2 := hM.freezeB (b := w.heap.size + 1 + 1) (cs := recs eG o) (e := 104) (M' := [.blk w.heap.size [.int .u32 d] 104, .blk (w.heap.size + 1) [.slice (some ⟨w.heap.size + 1 + 1, 0, none⟩) zs.length zs.length] 46, .blk (w.heap.size + 1 + 1 + 1) [.int .u64 r] 183]) vM
  gi_wp2
  refine aIH (Has.cons (t := 4) (v := .pointer (some ⟨w.heap.size + 1, 0, none⟩)) (Has.cons (t := 6) (v := .pointer (some ⟨w.heap.size + 1 + 1 + 1, 0, none⟩)) (Has.nil (n := 38) rfl rfl) rfl) rfl) (hM2) 2 ([.blk (w.heap.size + 1 + 1 + 1) [.int .u64 r] 183]) ([]) [0, 2, 3, 1, 4, 5] [0, 2, 2, 0, 0, 0] bV bT mixed (by kernel_rfl) ?_
  repeat (refine jG ?_)
  (refine aU rfl (qE (l := o) (n := zs.length) (c := zs.length) (q := some ⟨w.heap.size + 1 + 1, 0, none⟩) hst.1.symm (by omega) (by omega) aS) rfl rfl ?_; rintro _ _ _ ⟨rfl, rfl, rfl⟩; refine ⟨jO, ?_⟩)
  repeat (refine jG ?_)
  refine ⟨fun W' hm => ⟨fun act ha => ?_⟩⟩
  obtain ⟨tm, df⟩ := act
  have hdf : df = [] := ha.defers
  subst hdf
  rename_i Q1 K1 hKK
  refine hKK _ _ (wpIn_ret ?_)
  have hX : ∀ k ∈ [w.heap.size, w.heap.size + 1, w.heap.size + 1 + 1, w.heap.size + 1 + 1 + 1], w.heap.size ≤ k ∧ k < D := fun k hk => by simp at hk; omega
  have hK2 : W'.heap[D]? = some (.deferred (some [])) := (hm.ext.block D (Array.getElem?_eq_some_iff.1 hK).1 (fun hk => by have := hX D hk; omega)).trans hK
  refine ⟨by simp, .inl ⟨_, _, rfl, run_takeDeferred hK2, ?_⟩⟩
  have hg : W'.grownBy (W'.putObj D (.deferred none)) (some D) := grownBy_putObj' W' D _
  have hb1 : Blk (W'.putObj D (.deferred none)) (w.heap.size + 1) [.slice (some ⟨w.heap.size + 1 + 1, 0, none⟩) (fQ o).length zs.length] 46 := rD (n := D) (hm.blk (by simp)) (by omega) hg (fun j e => by cases e; exact Nat.le_refl _)
  have hBf : Below w.heap.size w (W'.putObj D (.deferred none)) := (hB.trans (sI hm.ext (fun k hk => (hX k hk).1) (by have := hB.size; omega))).trans (belowK_b (w := w) (Nat.le_refl _) _ D _ _ (by omega) hK2 rfl rfl)
  refine ⟨_, aLR (tmps := tm) (rs := [.cell 4 46, .tmp 5]) (vs := [.slice (some ⟨w.heap.size + 1 + 1, 0, none⟩) (fQ o).length zs.length, .int .u32 r]) rfl ⟨aDV (by simp [ha.get 4 _ rfl]) hb1, by simp [ha.get 5 _ rfl], trivial⟩ rfl, ?_⟩
  rw [ho, hr]
  refine ⟨_, _, rfl, hBf, ?_, ?_, ?_⟩
  ·have := wM (o := o); omega
  ·omega
  ·intro j v hj
   obtain ⟨h1, _, h3⟩ := (hm.sl (a := some ⟨w.heap.size + 1 + 1, 0, none⟩) (cs := recs eG (fQ o)) (by simp)) j v hj
   exact ⟨h1, by simp, cell_kept h3 hg (fun r e => by cases e; exact ⟨_, hK2, rfl⟩)⟩
 case stop =>
  rintro D c pre W _ _ h _
  exact h.elim
theorem aJJ {zs : List Int} {d : Int} (hd : 0 < d ∧ d < 1000000000) (hz : Dig zs) : ∀ k, k ≤ zs.length → val (zs.drop (zs.length - k)) = d * val ((xS zs d (uP zs k)).1.drop (zs.length - k)) + (xS zs d (uP zs k)).2 ∧ Dig (xS zs d (uP zs k)).1
 | 0, _ => by
  have e : (xS zs d (uP zs 0)) = (List.replicate zs.length 0, 0) := rfl
  rw [e]
  simp [val]
  exact Dig.zeros _
 | k + 1, hk => by
  obtain ⟨h1, h2⟩ := aJJ hd hz k (by omega)
  obtain ⟨l1, l2, l3⟩ := aED hd hz (uP zs k)
  rw [qV (by omega), aGW]
  have e : zs.length - k = zs.length - (k + 1) + 1 := by omega
  have e2 : zs.length - 1 - k = zs.length - (k + 1) := by omega
  simp only [e2]
  rw [e] at h1
  have hg : zs[zs.length - (k + 1)]?.getD 0 = zs.getD (zs.length - (k + 1)) 0 := by simp
  have hgd := hz.getD (zs.length - (k + 1))
  have hsm := aDO hd.1 (by omega) ⟨l2, l3⟩ hgd
  have h3 := aGA (a := zs) (q := (xS zs d (uP zs k)).1) (i := zs.length - (k + 1)) (d := d) (r := (xS zs d (uP zs k)).2) (by omega) (by omega) h1
  unfold shS
  rw [hg, Int.tdiv_eq_ediv_of_nonneg (by omega), Int.tmod_eq_emod_of_nonneg (by omega)]
  exact ⟨h3, h2.set _ hsm.2.1⟩
section
variable {X : List Nat} {w0 : World} {M0 : List Ent} {I0 : List aY}
theorem aHD {q : Option Addr} {n c d : Nat} (hn : (gr n).length ≤ 100000000000) (hd : 0 < d ∧ d < 1000000000) (hq : aO q (recs eG (gr n)) ∈ I0) :
  CD Tryz.prog 249 [.slice q (gr n).length c, .int .u32 d] X w0 M0 I0 (fun v M I => M0 = M ∧ ∃ p c', (gr (n / d)).length ≤ c' ∧ Ok p ∧ v = .tuple #[.slice p (gr (n / d)).length c', .int .u32 ((n % d : Nat) : Int)] ∧ I = aO p (recs eG (gr (n / d))) :: I0) := by
 have hd' : 0 < (d : Int) ∧ (d : Int) < 1000000000 := by omega
 obtain ⟨h1, h2⟩ := aJJ hd' (bY n) (gr n).length (Nat.le_refl _)
 obtain ⟨l1, l2, l3⟩ := aED hd' (bY n) (uP (gr n) (gr n).length)
 rw [Nat.sub_self, List.drop_zero, List.drop_zero, dD] at h1
 have hv0 := bX h2
 have e1 : val (xS (gr n) d (uP (gr n) (gr n).length)).1 = ((n / d : Nat) : Int) := by
  rw [Int.natCast_ediv, h1, Int.add_comm, Int.add_mul_ediv_left _ _ (by omega), Int.ediv_eq_zero_of_lt l2 l3]
  omega
 have e2 : (xS (gr n) d (uP (gr n) (gr n).length)).2 = ((n % d : Nat) : Int) := by
  rw [Int.natCast_emod, h1, Int.add_comm, Int.add_mul_emod_self_left, Int.emod_eq_of_lt l2 l3]
 have e3 := nK h2 e1
 have hs := fun (w : World) (hI : Sl [] w q (recs eG (gr n))) => aRC q c (gr n) d w hn (bY n) hd' hI
 rw [e3, e2] at hs
 refine ⟨fun w hw => Calls.mono (callsIn_wide.1 (hs w ((hw.sl hq).less (by simp)))) ?_⟩
 rintro e w' ⟨b, c', rfl, hB, hle, hb, hS⟩
 refine ⟨_, rfl, _, _, ⟨rfl, _, c', hle, Ok.mk _ _, rfl, rfl⟩, hw.new (Ext.of_below hB) (fun Y hY j v hj => ?_)⟩
 obtain ⟨h1, _, h3⟩ := hS j v hj
 exact ⟨h1, fun hm => by have := hY b hm; omega, h3⟩
end
end Go.Proofs.YtjbhdfpjnjedhaaGreat
namespace Go.Fx
theorem wXn {p g : Prop} (h : g) (w : BoxP g → p := by (intro hh; (first | refine aG ?_ | refine aJ ?_ | refine jL ?_ | refine iD ?_ | refine fK ?_ | refine fG ?_ | refine iE ?_ | refine gW ?_ | refine fJ ?_ | refine fH ?_ | refine jP ?_ | refine jM ?_ | refine jQ ?_ | refine jN rfl ?_ | refine bH ?_ | (refine gI ?_; first | refine gU rfl rfl rfl ?_ | (refine gM rfl rfl ?_; refine fC rfl rfl rfl okD ?_) | refine gD rfl rfl (by omega) ?_ | refine gP rfl rfl (by omega) ?_) | (refine bR ?_; refine aF rfl (fun _ => dH rfl) rfl rfl ?_) | refine aF rfl (fun _ => bF rfl) rfl rfl ?_ | (refine gL ?_; first | refine aF rfl (fun _ => bM rfl rfl w_) rfl rfl ?_ | refine aF rfl (fun _ => bK rfl rfl w_) rfl rfl ?_ | refine aF rfl (fun _ => eO rfl rfl w_) rfl rfl ?_ | refine aF rfl (fun _ => eF rfl rfl (by omega) q_) rfl rfl ?_ | refine aF rfl (fun _ => dZ rfl rfl (by omega) rfl) rfl rfl ?_ | refine aF rfl (fun _ => dK rfl rfl) rfl rfl ?_) | (refine bR ?_; first | refine aF rfl (fun _ => dX rfl w_) rfl rfl ?_) | (refine gJ ?_; first | refine aF rfl (fun _ => dC rfl w_) rfl rfl ?_) | (refine gG ?_; first | refine aF rfl (fun _ => bL rfl) rfl rfl ?_ | refine aF rfl (fun _ => dJ rfl rfl) rfl rfl ?_ | refine aF rfl (fun _ => dL rfl rfl) rfl rfl ?_ | refine aF rfl (fun _ => dM rfl rfl rfl) rfl rfl ?_) | (refine gN ?_; first | refine fZ rfl (by decide) rfl rfl ?_ | refine iY rfl (by decide) rfl rfl ?_) | (refine gK ?_; first | refine aF rfl (fun _ => dB rfl) rfl rfl ?_) | (refine gH ?_; first | refine jA rfl rfl iK rfl rfl ?_ | refine iX vwX rfl rfl iK aS jD rfl rfl ?_ | refine iV vwX rfl rfl iK aS jD rfl rfl ?_ | refine aF rfl (fun _ => bP rfl rfl iK) rfl rfl ?_) | (refine gT ?_; first | refine iW vwX rfl aS oK rfl rfl ?_ | refine iU vwX rfl aS oK rfl rfl ?_ | refine fU vwX rfl aS oK rfl rfl ?_ | refine gQ vwX rfl aS oK rfl rfl ?_ | refine kZ vwX rfl aS iN fE rfl rfl ?_ | refine kV vwX rfl aS iN fE rfl rfl ?_ | refine kT vwX rfl aS iN fE rfl rfl ?_ | refine jX vwX rfl aS iN fE rfl rfl ?_) | (refine fV ?_; first | refine aF rfl (fun _ => bQ rfl rfl) rfl rfl ?_ | refine aF rfl (fun _ => bI rfl) rfl rfl ?_) | (refine iO ?_; first | refine kI rfl rfl rfl mV stC rfl rfl ⟨okD, ?_⟩ | refine iC rfl rfl fE rE mV qP rfl rfl ⟨okD, ?_⟩) | (refine iF ?_; first | refine cK rfl ?_ | refine bN rfl ?_ | refine jR rfl (by omega) ?_ | refine mD rfl (by omega) ?_)); (repeat (first | refine aG ?_ | refine aJ ?_ | refine jL ?_ | refine iD ?_ | refine fK ?_ | refine fG ?_ | refine iE ?_ | refine gW ?_ | refine fJ ?_ | refine fH ?_ | refine jP ?_ | refine jM ?_ | refine jQ ?_ | refine jN rfl ?_ | refine bH ?_ | (refine gI ?_; first | refine gU rfl rfl rfl ?_ | (refine gM rfl rfl ?_; refine fC rfl rfl rfl okD ?_) | refine gD rfl rfl (by omega) ?_ | refine gP rfl rfl (by omega) ?_) | (refine bR ?_; refine aF rfl (fun _ => dH rfl) rfl rfl ?_) | refine aF rfl (fun _ => bF rfl) rfl rfl ?_ | (refine gL ?_; first | refine aF rfl (fun _ => bM rfl rfl w_) rfl rfl ?_ | refine aF rfl (fun _ => bK rfl rfl w_) rfl rfl ?_ | refine aF rfl (fun _ => eO rfl rfl w_) rfl rfl ?_ | refine aF rfl (fun _ => eF rfl rfl (by omega) q_) rfl rfl ?_ | refine aF rfl (fun _ => dZ rfl rfl (by omega) rfl) rfl rfl ?_ | refine aF rfl (fun _ => dK rfl rfl) rfl rfl ?_) | (refine bR ?_; first | refine aF rfl (fun _ => dX rfl w_) rfl rfl ?_) | (refine gJ ?_; first | refine aF rfl (fun _ => dC rfl w_) rfl rfl ?_) | (refine gG ?_; first | refine aF rfl (fun _ => bL rfl) rfl rfl ?_ | refine aF rfl (fun _ => dJ rfl rfl) rfl rfl ?_ | refine aF rfl (fun _ => dL rfl rfl) rfl rfl ?_ | refine aF rfl (fun _ => dM rfl rfl rfl) rfl rfl ?_) | (refine gN ?_; first | refine fZ rfl (by decide) rfl rfl ?_ | refine iY rfl (by decide) rfl rfl ?_) | (refine gK ?_; first | refine aF rfl (fun _ => dB rfl) rfl rfl ?_) | (refine gH ?_; first | refine jA rfl rfl iK rfl rfl ?_ | refine iX vwX rfl rfl iK aS jD rfl rfl ?_ | refine iV vwX rfl rfl iK aS jD rfl rfl ?_ | refine aF rfl (fun _ => bP rfl rfl iK) rfl rfl ?_) | (refine gT ?_; first | refine iW vwX rfl aS oK rfl rfl ?_ | refine iU vwX rfl aS oK rfl rfl ?_ | refine fU vwX rfl aS oK rfl rfl ?_ | refine gQ vwX rfl aS oK rfl rfl ?_ | refine kZ vwX rfl aS iN fE rfl rfl ?_ | refine kV vwX rfl aS iN fE rfl rfl ?_ | refine kT vwX rfl aS iN fE rfl rfl ?_ | refine jX vwX rfl aS iN fE rfl rfl ?_) | (refine fV ?_; first | refine aF rfl (fun _ => bQ rfl rfl) rfl rfl ?_ | refine aF rfl (fun _ => bI rfl) rfl rfl ?_) | (refine iO ?_; first | refine kI rfl rfl rfl mV stC rfl rfl ⟨okD, ?_⟩ | refine iC rfl rfl fE rE mV qP rfl rfl ⟨okD, ?_⟩) | (refine iF ?_; first | refine cK rfl ?_ | refine bN rfl ?_ | refine jR rfl (by omega) ?_ | refine mD rfl (by omega) ?_))); exact hh.out)) : p := w ⟨h⟩
end Go.Fx
namespace Go.Proofs.YtjbhdfpjnjedhaaGreat
open Go Go.Fx
theorem aCQ {α : Type} [Inhabited α] {a b : List α} (hl : a.length = b.length) (h : ∀ j : Nat, j < a.length → gt a j = gt b j) : a = b := by
 apply List.ext_getElem hl
 intro j h1 h2
 have := h j h1
 rwa [fT h1, fT h2] at this
section
variable {X : List Nat} {w0 : World} {M0 : List Ent} {I0 : List aY}
theorem aRF {p q : Option Addr} {a b : List Int} {c c' : Nat} (hn : (a.length : Int) ≤ 9223372036854775807) (ha : aO p (recs (eI .i64) a) ∈ I0) (hb : aO q (recs (eI .i64) b) ∈ I0) :
  CD Tryz.prog 17 [.slice p a.length c, .slice q b.length c'] X w0 M0 I0 (fun v M I => M0 = M ∧ I0 = I ∧ v = .bool (B (a = b))) := by
 refine dY Tryz.func17 rfl Tryz.ntmps17 rfl ?_
 repeat' (first | refine wXn ?_ | refine aM rfl (fun h => ?_) (fun h => ?_) | refine aN rfl rfl (fun h => ?_) (fun h => ?_) | fail)
 ·refine aH (by first | exact .inl rfl | exact .inr rfl) rfl rfl _ _ bV bT (⟨rfl, rfl, congrArg Value.bool (bB (fun h => by subst h; omega)).symm⟩)
 refine aT [0, 1, 12] rfl (fun k G M I => ∃ i : Nat, i ≤ a.length ∧ k = a.length - i ∧ (∀ j : Nat, j < i → gt a j = gt b j) ∧ G = [(13, .int .i64 i)] ∧ M = M0 ∧ I = I0) (a.length) _ _ _ aP bV bT (⟨0, by omega, rfl, fun j hj => by omega, rfl, rfl, rfl⟩) ?_
 rintro k G M I ⟨i, hi, rfl, hs, rfl, rfl, rfl⟩
 repeat' (first | refine wXn ?_ | refine aM rfl (fun h => ?_) (fun h => ?_) | refine aN rfl rfl (fun h => ?_) (fun h => ?_) | fail)
 ·(repeat refine aG ?_); refine dS [0, 1, 2, 3, 4, 5, 6, 7, 8] [0, 0, 0, 0, 0, 0, 0, 0, 0] mixed (by kernel_rfl) ?_
  repeat' (first | refine wXn ?_ | refine aM rfl (fun h => ?_) (fun h => ?_) | refine aN rfl rfl (fun h => ?_) (fun h => ?_) | fail)
  ·refine aH (by first | exact .inl rfl | exact .inr rfl) rfl rfl _ _ bV bT (⟨rfl, rfl, congrArg Value.bool (bB (fun h => by subst h; contradiction)).symm⟩)
  ·refine aL (a.length - (i + 1)) _ _ _ (by first | omega | (simp only [List.length_append, List.length_cons, List.length_nil]; omega)) aP bV bT (⟨i + 1, by omega, rfl, fun j hj => ?_, rfl, rfl, rfl⟩)
   by_cases e : j = i
   ·subst e; omega
   ·exact hs j (by omega)
 ·refine aH (by first | exact .inl rfl | exact .inr rfl) rfl rfl _ _ bV bT (⟨rfl, rfl, congrArg Value.bool (bJ (aCQ (by omega) (fun j hj => hs j (by omega)))).symm⟩)
theorem aTM {p : Option Addr} {a : List Int} {c : Nat} {g : FuncId} [FnOk Tryz.prog g] {fs cs : Array Value} (pr : Int → Prop) [DecidablePred pr] (hn : (a.length : Int) ≤ 9223372036854775807) (ha : aO p (recs (eI .i64) a) ∈ I0)
  (hg : ∀ i : Nat, i < a.length → CD Tryz.prog g (fs.toList ++ [.int .i64 (gt a i)] ++ cs.toList) X w0 M0 I0 (fun v M I => M0 = M ∧ I0 = I ∧ v = .bool (B (pr (gt a i))))) :
  CD Tryz.prog 168 [.slice p a.length c, .func (.func g) fs cs] X w0 M0 I0 (fun v M I => M0 = M ∧ I0 = I ∧ ∃ r : Int, v = .int .i64 r ∧ ((∃ i : Nat, i < a.length ∧ r = i ∧ pr (gt a i) ∧ ∀ j : Nat, j < i → ¬ pr (gt a j)) ∨ (r = -1 ∧ ∀ j : Nat, j < a.length → ¬ pr (gt a j)))) := by
 refine dY Tryz.func168 rfl Tryz.ntmps168 rfl ?_
 repeat (refine wXn ?_)
 refine aT [0, 1, 7] rfl (fun k G M I => ∃ i : Nat, i ≤ a.length ∧ k = a.length - i ∧ (∀ j : Nat, j < i → ¬ pr (gt a j)) ∧ G = [(8, .int .i64 i)] ∧ M = M0 ∧ I = I0) (a.length) _ _ _ aP bV bT (⟨0, by omega, rfl, fun j hj => by omega, rfl, rfl, rfl⟩) ?_
 rintro k G M I ⟨i, hi, rfl, hs, rfl, rfl, rfl⟩
 repeat' (first | refine wXn ?_ | refine aM rfl (fun h => ?_) (fun h => ?_) | refine aN rfl rfl (fun h => ?_) (fun h => ?_) | fail)
 ·have hlt : i < a.length := by omega
  (refine aAI rfl rfl (hg i hlt) rfl rfl rfl ?_; rintro _ _ _ ⟨rfl, rfl, rfl⟩; refine ⟨okD, ?_⟩)
  repeat' (first | refine wXn ?_ | refine aM rfl (fun h => ?_) (fun h => ?_) | refine aN rfl rfl (fun h => ?_) (fun h => ?_) | fail)
  ·refine aH (by first | exact .inl rfl | exact .inr rfl) rfl rfl _ _ bV bT (⟨rfl, rfl, _, rfl, .inl ⟨i, hlt, rfl, by assumption, hs⟩⟩)
  ·refine aL (a.length - (i + 1)) _ _ _ (by first | omega | (simp only [List.length_append, List.length_cons, List.length_nil]; omega)) aP bV bT (⟨i + 1, by omega, rfl, fun j hj => ?_, rfl, rfl, rfl⟩)
   by_cases e : j = i
   ·subst e; assumption
   ·exact hs j (by omega)
 ·refine aH (by first | exact .inl rfl | exact .inr rfl) rfl rfl _ _ bV bT (⟨rfl, rfl, _, rfl, .inr ⟨rfl, fun j hj => hs j (by omega)⟩⟩)
theorem aTH {p : Option Addr} {a : List Int} {c : Nat} {g : FuncId} [FnOk Tryz.prog g] {fs cs : Array Value} (pr : Int → Prop) [DecidablePred pr] (hn : (a.length : Int) ≤ 9223372036854775807) (ha : aO p (recs (eI .i64) a) ∈ I0)
  (hg : ∀ i : Nat, i < a.length → CD Tryz.prog g (fs.toList ++ [.int .i64 (gt a i)] ++ cs.toList) X w0 M0 I0 (fun v M I => M0 = M ∧ I0 = I ∧ v = .bool (B (pr (gt a i))))) :
  CD Tryz.prog 125 [.slice p a.length c, .func (.func g) fs cs] X w0 M0 I0 (fun v M I => M0 = M ∧ I0 = I ∧ v = .bool (B (∃ x ∈ a, pr x))) := by
 refine dY Tryz.func125 rfl Tryz.ntmps125 rfl ?_
 repeat (refine wXn ?_)
 (refine aU rfl (aTM pr hn ha hg) rfl rfl ?_; rintro _ _ _ ⟨rfl, rfl, r, rfl, h⟩; refine ⟨okD, ?_⟩)
 repeat (refine wXn ?_)
 refine aH (by first | exact .inl rfl | exact .inr rfl) rfl rfl _ _ bV bT (⟨rfl, rfl, congrArg Value.bool (gY ?_)⟩)
 rcases h with ⟨i, hi, rfl, hp, _⟩ | ⟨rfl, h⟩
 ·exact ⟨fun _ => ⟨gt a i, by rw [fT hi]; exact List.getElem_mem hi, hp⟩, fun _ => by omega⟩
 ·refine ⟨fun h => by omega, ?_⟩
  rintro ⟨x, hx, hp⟩
  obtain ⟨j, hj, rfl⟩ := List.mem_iff_getElem.1 hx
  exact absurd (by rw [fT hj]; exact hp) (h j hj)
end
end Go.Proofs.YtjbhdfpjnjedhaaGreat
namespace Go.Fx
section
variable {α : Type} (key : α → Int)
def mg : List α → List α → List α
 | [], ys => ys
 | x :: xs, [] => x :: xs
 | x :: xs, y :: ys => if key x ≤ key y then x :: mg xs (y :: ys) else y :: mg (x :: xs) ys
termination_by xs ys => xs.length + ys.length
theorem aAA (xs : List α) : mg key xs [] = xs := by cases xs <;> simp [mg]
theorem xO (xs : List α) : mg key [] xs = xs := by simp [mg]
theorem sN (x : α) (xs : List α) (y : α) (ys : List α) : mg key (x :: xs) (y :: ys) = if key x ≤ key y then x :: mg key xs (y :: ys) else y :: mg key (x :: xs) ys := by
 rw [mg]
theorem aJH : ∀ (xs ys : List α), (mg key xs ys).length = xs.length + ys.length
 | [], ys => by simp [mg]
 | x :: xs, [] => by simp [mg]
 | x :: xs, y :: ys => by
  rw [sN]
  split
  ·simp [aJH xs (y :: ys)]; omega
  ·simp [aJH (x :: xs) ys]; omega
termination_by xs ys => xs.length + ys.length
theorem aBW : ∀ (xs ys : List α) (z : α), z ∈ mg key xs ys ↔ z ∈ xs ∨ z ∈ ys
 | [], ys, z => by simp [mg]
 | x :: xs, [], z => by simp [mg]
 | x :: xs, y :: ys, z => by
  rw [sN]
  split
  ·simp only [List.mem_cons, aBW xs (y :: ys) z]
   constructor
   ·rintro (h | h | h | h) <;> simp [h]
   ·rintro ((h | h) | h | h) <;> simp [h]
  ·simp only [List.mem_cons, aBW (x :: xs) ys z]
   constructor
   ·rintro (h | (h | h) | h) <;> simp [h]
   ·rintro ((h | h) | h | h) <;> simp [h]
termination_by xs ys => xs.length + ys.length
theorem rY : ∀ (X1 Y1 X2 Y2 : List α), (∀ x ∈ X1, ∀ y ∈ Y2, key x ≤ key y) → (∀ y ∈ Y1, ∀ x ∈ X2, key y < key x) → mg key (X1 ++ X2) (Y1 ++ Y2) = mg key X1 Y1 ++ mg key X2 Y2
 | [], [], X2, Y2, _, _ => by simp [xO]
 | [], y :: Y1, [], Y2, _, _ => by simp [xO]
 | [], y :: Y1, x :: X2, Y2, h1, h2 => by
  have h := h2 y (by simp) x (by simp)
  have ih := rY [] Y1 (x :: X2) Y2 (by simp) (fun y' hy => h2 y' (by simp [hy]))
  simp only [List.nil_append, xO] at ih ⊢
  rw [List.cons_append, sN, if_neg (by omega), ih]
  rfl
 | x :: X1, [], X2, [], _, _ => by simp [aAA]
 | x :: X1, [], X2, y :: Y2, h1, h2 => by
  have h := h1 x (by simp) y (by simp)
  have ih := rY X1 [] X2 (y :: Y2) (fun x' hx => h1 x' (by simp [hx])) (by simp)
  simp only [List.nil_append, aAA] at ih ⊢
  rw [List.cons_append, sN, if_pos h, ih]
  rfl
 | x :: X1, y :: Y1, X2, Y2, h1, h2 => by
  rw [List.cons_append, List.cons_append, sN, sN]
  split
  ·have ih := rY X1 (y :: Y1) X2 Y2 (fun x' hx => h1 x' (by simp [hx])) h2
   rw [← List.cons_append, ih]
   rfl
  ·have ih := rY (x :: X1) Y1 X2 Y2 h1 (fun y' hy => h2 y' (by simp [hy]))
   rw [← List.cons_append, ih]
   rfl
termination_by X1 Y1 => X1.length + Y1.length
def Asc (l : List α) : Prop := l.Pairwise (fun a b => key a ≤ key b)
theorem Asc.mg : ∀ {X Y : List α}, Asc key X → Asc key Y → Asc key (mg key X Y)
 | [], Y, _, hY => by simpa [xO] using hY
 | x :: X, [], hX, _ => by simpa [aAA] using hX
 | x :: X, y :: Y, hX, hY => by
  have hX' := List.pairwise_cons.1 hX
  have hY' := List.pairwise_cons.1 hY
  rw [sN]
  split
  ·refine List.pairwise_cons.2 ⟨fun z hz => ?_, Asc.mg hX'.2 hY⟩
   rcases (aBW key _ _ _).1 hz with hz | hz
   ·exact hX'.1 z hz
   ·rcases List.mem_cons.1 hz with rfl | hz
    ·assumption
    ·have := hY'.1 z hz; omega
  ·refine List.pairwise_cons.2 ⟨fun z hz => ?_, Asc.mg hX hY'.2⟩
   rcases (aBW key _ _ _).1 hz with hz | hz
   ·rcases List.mem_cons.1 hz with rfl | hz
    ·omega
    ·have := hX'.1 z hz; omega
   ·exact hY'.1 z hz
termination_by X Y => X.length + Y.length
def yC (l : List α) : List α := l.foldl (fun acc x => mg key acc [x]) []
theorem aKM : yC key ([] : List α) = [] := rfl
theorem aBS (l : List α) (x : α) : yC key (l ++ [x]) = mg key (yC key l) [x] := by simp [yC, List.foldl_append]
theorem xV : ∀ (n : Nat) (l : List α), l.length = n → Asc key (yC key l) ∧ (yC key l).length = l.length
 | 0, l, h => by
  have : l = [] := List.eq_nil_of_length_eq_zero h
  subst this
  exact ⟨List.Pairwise.nil, rfl⟩
 | n + 1, l, h => by
  have hne : l ≠ [] := by intro e; subst e; simp at h
  obtain ⟨B', x, rfl⟩ : ∃ B' x, l = B' ++ [x] := ⟨l.dropLast, l.getLast hne, (List.dropLast_concat_getLast hne).symm⟩
  have ih := xV n B' (by simpa using h)
  rw [aBS]
  exact ⟨Asc.mg key ih.1 (List.pairwise_singleton _ _), by rw [aJH, ih.2]; simp⟩
theorem aEZ (l : List α) : Asc key (yC key l) := (xV key _ l rfl).1
theorem wK (l : List α) : (yC key l).length = l.length := (xV key _ l rfl).2
theorem zN (z : α) : ∀ (n : Nat) (l : List α), l.length = n → (z ∈ yC key l ↔ z ∈ l)
 | 0, l, h => by
  have : l = [] := List.eq_nil_of_length_eq_zero h
  subst this
  simp [aKM]
 | n + 1, l, h => by
  have hne : l ≠ [] := by intro e; subst e; simp at h
  obtain ⟨B', x, rfl⟩ : ∃ B' x, l = B' ++ [x] := ⟨l.dropLast, l.getLast hne, (List.dropLast_concat_getLast hne).symm⟩
  rw [aBS, aBW, zN z n B' (by simpa using h)]
  simp
theorem aWB {P1 P2 : List α} {x : α} (h1 : ∀ y ∈ P1, key y ≤ key x) (h2 : ∀ y ∈ P2, key x < key y) : mg key (P1 ++ P2) [x] = P1 ++ x :: P2 := by
 have := rY key P1 [] P2 [x] (fun a ha b hb => by simp at hb; subst hb; exact h1 a ha) (by simp)
 simp only [List.nil_append, aAA] at this
 rw [this]
 congr 1
 have := rY key [] [x] P2 [] (by simp) (fun y hy a ha => by simp at hy; subst hy; exact h2 a ha)
 simpa [xO, aAA] using this
theorem Asc.left {A B : List α} (h : Asc key (A ++ B)) : Asc key A := (List.pairwise_append.1 h).1
theorem Asc.right {A B : List α} (h : Asc key (A ++ B)) : Asc key B := (List.pairwise_append.1 h).2.1
theorem Asc.cross {A B : List α} (h : Asc key (A ++ B)) : ∀ a ∈ A, ∀ b ∈ B, key a ≤ key b := (List.pairwise_append.1 h).2.2
theorem Asc.at [Inhabited α] {l : List α} (h : Asc key l) {i j : Nat} (hij : i ≤ j) (hj : j < l.length) : key (gt l (i : Int)) ≤ key (gt l (j : Int)) := by
 rw [fT hj, fT (show i < l.length by omega)]
 by_cases e : i = j
 ·subst e; exact Int.le_refl _
 ·exact List.pairwise_iff_getElem.1 h i j _ _ (by omega)
/- parts -/
theorem aPZ [Inhabited α] (A B : List α) (k : Nat) : gt (A ++ B) (k : Int) = if k < A.length then gt A (k : Int) else gt B ((k - A.length : Nat) : Int) := by
 rw [aFB, aFB, aFB]
 simp only [List.getD]
 split
 ·rename_i h; rw [List.getElem?_append_left h]
 ·rename_i h; rw [List.getElem?_append_right (by omega)]
theorem aUV [Inhabited α] {A B : List α} {x : α} {i : Int} (h : i = A.length) : gt (A ++ x :: B) i = x := by
 subst h
 rw [aPZ, if_neg (by omega)]
 simp [gt]
theorem aUY {A B : List α} {x y : α} {i : Int} (h : i = A.length) : st (A ++ x :: B) i y = A ++ y :: B := by
 subst h
 simp [st]
theorem aWF {A B : List α} {x y : α} {i j : Int} (hi : i = A.length) (hj : j = A.length + 1) : st (st (A ++ x :: y :: B) j x) i y = A ++ y :: x :: B := by
 have : A ++ x :: y :: B = (A ++ [x]) ++ y :: B := by simp
 rw [this, aUY (by simp; omega)]
 have : (A ++ [x]) ++ x :: B = A ++ x :: x :: B := by simp
 rw [this, aUY hi]
end
end Go.Fx
namespace Go.Proofs.YtjbhdfpjnjedhaaGreat
open Go Go.Fx
/- ---------- the stable sort of []int ---------- -/
section
variable {X : List Nat} {w0 : World} {M0 : List Ent} {I0 : List aY}
def CmpI (g : FuncId) (fs cs' : Array Value) (key : Int → Int) (Pr : Int → Prop) (X : List Nat) (w0 : World) (b : Nat) (e : TypeId) (M0 : List Ent) (I0 : List aY) : Prop :=
 ∀ (cs : List Value) (x y : Int), Pr x → Pr y → CD Tryz.prog g (fs.toList ++ [(Value.int .i64) x, (Value.int .i64) y] ++ cs'.toList) X w0 (.blk b cs e :: M0) I0 (fun v M I => .blk b cs e :: M0 = M ∧ I0 = I ∧ ∃ r : Int, v = .int .i64 r ∧ (r < 0 ↔ key x < key y))
end
end Go.Proofs.YtjbhdfpjnjedhaaGreat
namespace Go.Proofs.YtjbhdfpjnjedhaaGreat
open Go Go.Fx
/- ---------- the stable sort of []int: merging in place ---------- -/
section
variable {X : List Nat} {w0 : World} {M0 : List Ent} {I0 : List aY}
end
end Go.Proofs.YtjbhdfpjnjedhaaGreat
namespace Go.Proofs.YtjbhdfpjnjedhaaGreat
open Go Go.Fx
/- ---------- the stable sort of []int: whole, below 40 elements ---------- -/
section
variable {X : List Nat} {w0 : World} {M0 : List Ent} {I0 : List aY}
end
end Go.Proofs.YtjbhdfpjnjedhaaGreat
