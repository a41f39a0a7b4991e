/- The law DegenerateMoved, for every input: the call returns true, and nothing that was there has turned. No condition. -/
import Derived.Test.YtkccjglmnhgabaaGreatDoorRows
import Derived.Test.YtkccjglmnhgabaaGreatDoorCards
import Derived.Test.YtkccjglmnhgabaaGreatDoorTie
import Derived.SevenTiedAt
import Derived.ChangeVars
import Derived.JoinedOf
import Derived.WalkKit
import Derived.ProofKit
import Derived.OpenShut
import Derived.Test.YtkccjglmnhgabaaGreatDoorZqab
import Derived.Test.YtkccjglmnhgabaaGreatDoorZqbq
namespace Go.Proofs.YtkccjglmnhgabaaGreatDoor.degenerateMoved
open Go.ChangeShapes Go.WideShapes Go.ChangeAt Go.RowKit Go.Fx
set_option linter.unusedVariables false
set_option linter.unusedSimpArgs false

theorem own : ownKnob Tryz.prog.godebug = none := by kernel_rfl
theorem laidOut : laidOutB Tryz.prog = true := by kernel_rfl
theorem readable : ∀ t ∈ Tryz.f4.params.toList, Tryz.prog.readableRec t = true ∧ t < Tryz.prog.types.size := by
 rw [Tryz.params4]
 intro t ht
 simp only [List.mem_cons, List.not_mem_nil, or_false] at ht
 rcases ht with rfl | rfl | rfl
 ·exact ⟨by kernel_rfl, of_decide_eq_true (by kernel_rfl)⟩
 ·exact ⟨by kernel_rfl, of_decide_eq_true (by kernel_rfl)⟩
 ·exact ⟨by kernel_rfl, of_decide_eq_true (by kernel_rfl)⟩
set_option maxRecDepth 100000
theorem tabName : Tryz.prog.globalNamed "fiducial/degenerate.products" = some 0 := by kernel_rfl
theorem tabType : (Tryz.prog.globals[0]?).map (·.type) = some 64 := by kernel_rfl
theorem tabCells : Tryz.prog.cellsOf 64 = 20 := by kernel_rfl
theorem pairCells : Tryz.prog.cellsOf 63 = 2 := by kernel_rfl
theorem intCells : Tryz.prog.cellsOf 3 = 1 := by kernel_rfl
theorem int_of_trod {H : Type} {enc : TypeId × Value → H} {w : World} {base : Nat} {sp : Nat → Bool} {held : Bool} {fuel : Nat} {c : Value} {y : DataW H × List MemPlace} (h : DataW.trod enc Tryz.prog w base sp held fuel 3 [c] = some y) : ∃ n, c = .int .i64 n ∧ y = (.lit (.int .i64 n), []) := by
 cases fuel with
 | zero => simp [DataW.trod] at h
 | succ fuel =>
  cases c <;> simp [DataW.trod, Tryz.underlying3] at h
  rename_i k' n
  obtain ⟨⟨rfl, _⟩, rfl⟩ := h
  exact ⟨n, rfl, rfl⟩
theorem pair_of_trod {H : Type} {enc : TypeId × Value → H} {w : World} {base : Nat} {sp : Nat → Bool} {held : Bool} {fuel : Nat} {c0 c1 : Value} {y : DataW H × List MemPlace} (h : DataW.trod enc Tryz.prog w base sp held fuel 63 [c0, c1] = some y) : ∃ n0 n1, c0 = .int .i64 n0 ∧ c1 = .int .i64 n1 ∧ y = (.agg [.lit (.int .i64 n0), .lit (.int .i64 n1)], []) := by
 cases fuel with
 | zero => simp [DataW.trod] at h
 | succ fuel =>
  simp only [DataW.trod, Tryz.underlying63, pairCells, intCells] at h
  split at h
  ·have e : List.range 2 = [0, 1] := rfl
   rw [e] at h
   simp only [Option.map_eq_some_iff, List.mapM_cons, List.mapM_nil, Option.bind_eq_bind, Option.bind_eq_some_iff, Option.pure_def, Option.some.injEq] at h
   obtain ⟨xs, ⟨y0, h0, _, ⟨y1, h1, _, rfl, rfl⟩, rfl⟩, hx⟩ := h
   obtain ⟨n0, rfl, rfl⟩ := int_of_trod h0
   obtain ⟨n1, rfl, rfl⟩ := int_of_trod h1
   exact ⟨n0, n1, rfl, rfl, hx.symm⟩
  ·cases h
theorem tabAt {W : World} (h : laidMet Tryz.prog Rows.degenerateMovedRow.laid W) : W.var? Tryz.prog "fiducial/degenerate.products" = some (recs eZ vC).toArray := by
 obtain ⟨ps, ⟨g, t, cs, fuel, p, q, hg, ht, hvar, hd, _, _⟩, _⟩ := h
 obtain rfl := Option.some.inj (tabName.symm.trans hg)
 obtain rfl := Option.some.inj (tabType.symm.trans ht)
 rw [hvar]
 congr 1
 obtain ⟨l⟩ := cs
 cases fuel with
 | zero => simp [DataW.trod] at hd
 | succ fuel =>
  simp only [DataW.trod, Tryz.underlying64, tabCells, pairCells] at hd
  split at hd
  ·rename_i hl
   obtain ⟨c0, c1, c2, c3, c4, c5, c6, c7, c8, c9, c10, c11, c12, c13, c14, c15, c16, c17, c18, c19, rfl⟩ : ∃ c0 c1 c2 c3 c4 c5 c6 c7 c8 c9 c10 c11 c12 c13 c14 c15 c16 c17 c18 c19, l = [c0, c1, c2, c3, c4, c5, c6, c7, c8, c9, c10, c11, c12, c13, c14, c15, c16, c17, c18, c19] := by
    match l, hl with
    | [c0, c1, c2, c3, c4, c5, c6, c7, c8, c9, c10, c11, c12, c13, c14, c15, c16, c17, c18, c19], _ => exact ⟨c0, c1, c2, c3, c4, c5, c6, c7, c8, c9, c10, c11, c12, c13, c14, c15, c16, c17, c18, c19, rfl⟩
   have e : List.range 10 = [0, 1, 2, 3, 4, 5, 6, 7, 8, 9] := rfl
   rw [e] at hd
   simp only [Option.map_eq_some_iff, List.mapM_cons, List.mapM_nil, Option.bind_eq_bind, Option.bind_eq_some_iff, Option.pure_def, Option.some.injEq] at hd
   obtain ⟨xs, ⟨y0, h0, _, ⟨y1, h1, _, ⟨y2, h2, _, ⟨y3, h3, _, ⟨y4, h4, _, ⟨y5, h5, _, ⟨y6, h6, _, ⟨y7, h7, _, ⟨y8, h8, _, ⟨y9, h9, _, rfl, rfl⟩, rfl⟩, rfl⟩, rfl⟩, rfl⟩, rfl⟩, rfl⟩, rfl⟩, rfl⟩, rfl⟩, hx⟩ := hd
   obtain ⟨a0, b0, rfl, rfl, rfl⟩ := pair_of_trod (c0 := c0) (c1 := c1) h0
   obtain ⟨a1, b1, rfl, rfl, rfl⟩ := pair_of_trod (c0 := c2) (c1 := c3) h1
   obtain ⟨a2, b2, rfl, rfl, rfl⟩ := pair_of_trod (c0 := c4) (c1 := c5) h2
   obtain ⟨a3, b3, rfl, rfl, rfl⟩ := pair_of_trod (c0 := c6) (c1 := c7) h3
   obtain ⟨a4, b4, rfl, rfl, rfl⟩ := pair_of_trod (c0 := c8) (c1 := c9) h4
   obtain ⟨a5, b5, rfl, rfl, rfl⟩ := pair_of_trod (c0 := c10) (c1 := c11) h5
   obtain ⟨a6, b6, rfl, rfl, rfl⟩ := pair_of_trod (c0 := c12) (c1 := c13) h6
   obtain ⟨a7, b7, rfl, rfl, rfl⟩ := pair_of_trod (c0 := c14) (c1 := c15) h7
   obtain ⟨a8, b8, rfl, rfl, rfl⟩ := pair_of_trod (c0 := c16) (c1 := c17) h8
   obtain ⟨a9, b9, rfl, rfl, rfl⟩ := pair_of_trod (c0 := c18) (c1 := c19) h9
   simp [Rows.degenerateMovedRow, Rows.laid_fiducial_degenerate_products] at hx
   obtain ⟨hx, _⟩ := hx
   obtain ⟨⟨rfl, rfl⟩, ⟨rfl, rfl⟩, ⟨rfl, rfl⟩, ⟨rfl, rfl⟩, ⟨rfl, rfl⟩, ⟨rfl, rfl⟩, ⟨rfl, rfl⟩, ⟨rfl, rfl⟩, ⟨rfl, rfl⟩, ⟨rfl, rfl⟩⟩ := hx
   rfl
  ·cases hd
theorem tab_of {W : World} (h : laidMet Tryz.prog Rows.degenerateMovedRow.laid W) : aEH [] W := ⟨fun j v hj => by
 refine ⟨Ok.mk _ _, by simp, ?_⟩
 have h1 := World.var?_cell tabName (tabAt h) j
 have e : pt (some ⟨0, 0, none⟩) j = ⟨0, j, none⟩ := by simp [pt, bl, of]
 rw [e, h1]
 simpa using hj⟩
noncomputable def laidWorld (os : Os) : World :=
 { World.holding Tryz.prog os ⟨#[], #[], []⟩ with heap := (World.holding Tryz.prog os ⟨#[], #[], []⟩).heap.modify 0 fun
   | .cells _ t frozen => .cells (recs eZ vC).toArray t frozen
   | o => o }
theorem laidWorld_row (os : Os) : ((laidWorld os).forCall (fun _ _ => 0) ⟨#[], #[.slice none 0 0, .agg #[.int .i8 0, .int .i8 0, .int .i8 0, .int .i8 0, .int .i8 0, .int .i8 0, .int .i8 0, .int .i8 0, .int .i8 0], .agg #[.int .i16 0, .int .i16 0, .int .i16 0]], []⟩).memory.heap[0]? = some (.cells (recs eZ vC).toArray 64 (0, 0)) := by kernel_rfl
theorem laidWorld_met (os : Os) : laidMet Tryz.prog Rows.degenerateMovedRow.laid ((laidWorld os).forCall (fun _ _ => 0) ⟨#[], #[.slice none 0 0, .agg #[.int .i8 0, .int .i8 0, .int .i8 0, .int .i8 0, .int .i8 0, .int .i8 0, .int .i8 0, .int .i8 0, .int .i8 0], .agg #[.int .i16 0, .int .i16 0, .int .i16 0]], []⟩).memory :=
 ⟨_, ⟨0, 64, (recs eZ vC).toArray, 8, [], [], by kernel_rfl, by kernel_rfl, by kernel_rfl, by kernel_rfl, rfl, rfl⟩, by decide, fun b off h => by
  have h' : MemPlace.cell b off ∈ [MemPlace.cell 0 0, .cell 0 1, .cell 0 2, .cell 0 3, .cell 0 4, .cell 0 5, .cell 0 6, .cell 0 7, .cell 0 8, .cell 0 9, .cell 0 10, .cell 0 11, .cell 0 12, .cell 0 13, .cell 0 14, .cell 0 15, .cell 0 16, .cell 0 17, .cell 0 18, .cell 0 19] := h
  have hb : b = 0 := by simp at h'; omega
  subst hb
  refine ⟨⟨_, _, laidWorld_row os⟩, fun u v hc => ?_⟩
  simp only [World.cell?, laidWorld_row os] at hc
  simp at h'
  rcases h' with rfl | rfl | rfl | rfl | rfl | rfl | rfl | rfl | rfl | rfl | rfl | rfl | rfl | rfl | rfl | rfl | rfl | rfl | rfl | rfl <;> simp [recs] at hc⟩
set_option maxHeartbeats 800000 in
set_option maxRecDepth 100000 in
theorem lifted (os : Os) (started : os.Started) (H : Type) (enc : TypeId × Value → H) :
  ReturnsInHanded {} Tryz.checked os 4 .any (fun w args => (Rows.degenerateMovedSpec.pre enc Tryz.prog Tryz.f4 [] false w args ∧ laidMet Tryz.prog Rows.degenerateMovedRow.laid w) ∧ sizedMet enc Tryz.prog Tryz.f4 (OpenSpec.ofChange Rows.degenerateMovedSpec) false w args) (Rows.degenerateMovedSpec.post enc Tryz.prog Tryz.f4 false true false false) := by
 refine returnsInHanded_of_change_and (C := Tryz.checked) (X := fun w _ => laidMet Tryz.prog Rows.degenerateMovedRow.laid w) (fun _ _ _ hh h => h.of_heap hh) own started (by kernel_rfl) Tryz.func4
  (ChangeSpec.witness_at (enc := enc) (C := Tryz.checked) (os := os) (X := fun w _ => laidMet Tryz.prog Rows.degenerateMovedRow.laid w) false (laidWorld os) #[.slice none 0 0, .agg #[.int .i8 0, .int .i8 0, .int .i8 0, .int .i8 0, .int .i8 0, .int .i8 0, .int .i8 0, .int .i8 0, .int .i8 0], .agg #[.int .i16 0, .int .i16 0, .int .i16 0]] 8 rfl (by kernel_rfl) (by kernel_rfl) (by kernel_rfl) (by kernel_rfl) (by kernel_rfl) (laidWorld_met os)) ?_
 intro W base args ds gs before hval0 hW _ hwt hL _
 have hTab : aEH [] W := tab_of hL
 have hval : ∀ (j : Nat) t v, Tryz.f4.params[j]? = some t → args[j]? = some v → Value.okWide Tryz.prog W .any base t v := hval0
 have hW' := hW
 obtain ⟨p, q, hA0, hV, rfl, _, _⟩ := hW
 have hA : DataW.TrodAll enc Tryz.prog W 0 (fun _ => true) true Tryz.f4.params.toList args.toList ds p := hA0
 have hA1 := hA
 rw [Tryz.params4] at hA hval
 obtain ⟨v0, vs0, d0, ds0, q0, r0, hargs, rfl, rfl, h0, k0⟩ := trodAll_cons hA
 obtain ⟨v1, vs1, d1, ds1, q1, r1, rfl, rfl, rfl, h1, k1⟩ := trodAll_cons k0
 obtain ⟨v2, vs2, d2, ds2, q2, r2, rfl, rfl, rfl, h2, k2⟩ := trodAll_cons k1
 obtain ⟨rfl, rfl, rfl⟩ := trodAll_nil k2
 obtain rfl : args = #[v0, v1, v2] := by cases args; simp_all
 obtain ⟨rfl, rfl⟩ := trodVars_none hV
 obtain ⟨xs2, rfl, hx2, hw2⟩ := aCJ (k := .i16) (ts := [36, 36, 36]) (n := 3) (.inr ⟨_, _, Tryz.underlying37⟩) (by kernel_rfl) (by intro u hu; simp at hu; subst hu; exact Tryz.underlying36) (by kernel_rfl) (hval 2 37 v2 rfl rfl)
 obtain ⟨q0, l0, c0, rfl, hs0, hn0, hc0⟩ := aGM (hval 0 _ v0 rfl rfl) h0
 obtain ⟨m0, m1, m2, m3, m4, m5, m6, m7, m8, rfl, i0, i1, i2, i3, i4, i5, i6, i7, i8⟩ := aOM (hval 1 _ v1 rfl rfl)
 obtain ⟨y0, y1, y2, rfl⟩ := aFE hx2
 refine Calls.mono (CD.out (CD.mono (LMov hTab rfl hn0 ⟨i0, i1, i2, i3, i4, i5, i6, i7, i8, aHP (hw2 _ (by simp)), aHP (hw2 _ (by simp)), aHP (hw2 _ (by simp))⟩ (List.Mem.head _)) (fun _ _ _ h => h.2.2)) (Mem.startS (Mem.start W) hs0)) ?_
 rintro e W' ⟨v, rfl, hE, rfl⟩
 simp only [List.append_nil] at hW' hA1
 refine ⟨_, rfl, _, _, _, [], _, [], hW', trodAll_cons_mk (shut_bool Tryz.underlying4 _) trodAll_mk0, sM laidOut hE.below _ _ _ _ readable (fun x hx => hW'.lt x hx) hA1, rfl, hE.below.frame _, fun h => by cases h⟩

theorem c1 : laidOutB Tryz.prog = true := by kernel_rfl
theorem c2 : (Rows.degenerateMovedRow.inPlace == Tryz.prog.inPlace 4) = true := by kernel_rfl
theorem c3 : (Rows.degenerateMovedRow.unfollowed == Tryz.prog.unfollowed 4) = true := by kernel_rfl
theorem c4 : (Rows.degenerateMovedRow.recurses == Tryz.prog.recurses 4) = true := by kernel_rfl
theorem c5 : (Rows.degenerateMovedRow.named == Tryz.prog.varsNamed 4) = true := by kernel_rfl
theorem c6 : Tryz.prog.stopsHeard = true := by kernel_rfl
theorem c7 : Tryz.prog.mayEnter = true := by kernel_rfl
theorem c8 : (Rows.degenerateMovedRow.lifted == Tryz.prog.liftsFinal) = true := by kernel_rfl
theorem c9 : mapsRowed Tryz.prog = true := by kernel_rfl
theorem closed : joinedFacts Tryz.prog 4 Tryz.f4 Rows.degenerateMovedSpec Rows.degenerateMovedRow = true := by
 unfold joinedFacts
 simp only [Bool.and_eq_true]
 repeat' apply And.intro
 all_goals first | with_reducible exact c1 | with_reducible exact c2 | with_reducible exact c3 | with_reducible exact c4 | with_reducible exact c5 | with_reducible exact c6 | with_reducible exact c7 | with_reducible exact c8 | with_reducible exact c9 | kernel_rfl
theorem named : Tryz.pinned.checked.prog.funcNamed Rows.degenerateMovedRow.func = some 4 := by kernel_rfl
theorem inst : Tryz.f4.isInstance Tryz.pinned.checked.prog Rows.degenerateMovedRow.origin Rows.degenerateMovedRow.targs := of_decide_eq_true (by kernel_rfl)
theorem wrap : Tryz.f4.isWrapper Tryz.pinned.checked.prog Rows.degenerateMovedRow.wrapper Rows.degenerateMovedRow.mainSum := by unfold Func.isWrapper; first | (rw [if_pos (by decide +kernel)]; kernel_rfl) | (rw [if_neg (by decide +kernel)]; exact ⟨rfl, rfl⟩)
theorem over : Rows.degenerateMovedRow.holds Tryz.pinned (OpenSpec.ofChange Rows.degenerateMovedSpec) :=
 OpenClaim.holds_of_wide 4 Tryz.f4 rfl rfl rfl rfl rfl rfl rfl ⟨rfl, rfl, rfl, rfl, rfl⟩ rfl rfl rfl rfl rfl named Tryz.func4 closed
  inst wrap
  (fun os started H enc _ => lifted os started H enc)

theorem row : Rows.DegenerateMovedSaid :=
 over
theorem proved : Rows.DegenerateMovedCardSaid :=
 Claim7.holds_tied_plain_at .later [] [.data] true (true, "055b709fb71163e7aa2ad2a94a644b94cd7957f9a46258d3dceb97159430f74d") false
  row (fun _ h => by cases h) (by kernel_rfl) (fun _ h => by cases h) degenerateMoved_row_tie rfl ⟨rfl, rfl⟩ (by kernel_rfl) rfl
  (fun f fn hf hfn => by
   obtain rfl : f = 4 := Option.some.inj ((show Tryz.prog.funcNamed "fiducial/fiduciallaw31.DegenerateMoved" = some 4 by kernel_rfl).symm.trans hf) |>.symm
   obtain rfl : fn = Tryz.f4 := (Option.some.inj (Tryz.func4.symm.trans hfn)).symm
   exact ⟨by kernel_rfl, fun j t ht => by
    rw [Tryz.params4] at ht
    have hm : t ∈ [22, 35, 37] := by simpa using Array.mem_of_getElem? ht
    have hall : ([22, 35, 37].all fun u => !Tryz.prog.wantsStandIn u) = true := by kernel_rfl
    exact (show Tryz.prog.wantsStandIn t = false by simpa using List.all_eq_true.1 hall t hm)⟩)
  (by kernel_rfl)
#print axioms proved
end Go.Proofs.YtkccjglmnhgabaaGreatDoor.degenerateMoved
