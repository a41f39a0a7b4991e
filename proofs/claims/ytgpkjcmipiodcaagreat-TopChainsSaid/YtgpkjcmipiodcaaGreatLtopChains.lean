/- The law TopChains, for every input: the call returns true, and nothing that was there has turned. No condition. -/
import Derived.Test.YtgpkjcmipiodcaaGreatRows
import Derived.WalkKit
import Derived.ProofKit
import Derived.OpenShut
import Derived.Test.YtgpkjcmipiodcaaGreatZwaf
import Derived.Test.YtgpkjcmipiodcaaGreatZwbi
namespace Go.Proofs.YtgpkjcmipiodcaaGreat.topChains
open Go.ChangeShapes Go.WideShapes Go.ChangeAt Go.RowKit Go.Fx
set_option linter.unusedVariables false
set_option linter.unusedSimpArgs false

theorem own : ownKnob Tryz.prog.godebug = none := by kernel_rfl
theorem laidOut : laidOutB Tryz.prog = true := by kernel_rfl
theorem readable : ∀ t ∈ Tryz.f3.params.toList, Tryz.prog.readableRec t = true ∧ t < Tryz.prog.types.size := by
 rw [Tryz.params3]
 intro t ht
 simp only [List.mem_cons, List.not_mem_nil, or_false] at ht
 rcases ht with rfl | rfl | rfl
 ·exact ⟨by kernel_rfl, of_decide_eq_true (by kernel_rfl)⟩
 ·exact ⟨by kernel_rfl, of_decide_eq_true (by kernel_rfl)⟩
 ·exact ⟨by kernel_rfl, of_decide_eq_true (by kernel_rfl)⟩
set_option maxHeartbeats 800000 in
set_option maxRecDepth 100000 in
theorem lifted (os : Os) (started : os.Started) (H : Type) (enc : TypeId × Value → H) :
  ReturnsInHanded {} Tryz.checked os 3 .any (Rows.topChainsSpec.pre6 enc Tryz.prog Tryz.f3 Rows.topChainsRow.domain false) (Rows.topChainsSpec.post enc Tryz.prog Tryz.f3 false true false false) := by
 refine returnsInHanded_of_change (C := Tryz.checked) own started (by kernel_rfl) Tryz.func3
  (ChangeSpec.witness6 (enc := enc) (C := Tryz.checked) false ⟨#[], #[.agg #[.int .i64 0, .slice none 0 0, .slice none 0 0, .slice none 0 0], .agg #[.int .i64 0, .int .i64 0, .int .i64 0, .int .i64 0, .int .i64 0, .int .i64 0, .int .i64 0, .int .i64 0], .agg #[.int .i64 0, .int .i64 0, .int .i64 0, .int .i64 0, .int .i64 0, .int .i64 0]], []⟩ 8 (by kernel_rfl) (by kernel_rfl) (by kernel_rfl) (by kernel_rfl)) ?_
 intro W base args ds gs before hval0 hW _ _
 have hval : ∀ (j : Nat) t v, Tryz.f3.params[j]? = some t → args[j]? = some v → Value.okWide Tryz.prog W .any base t v := hval0
 have hW' := hW
 obtain ⟨p, q, hA0, hV, rfl, _, _⟩ := hW
 have hA : DataW.TrodAll enc Tryz.prog W 0 (fun _ => true) true Tryz.f3.params.toList args.toList ds p := hA0
 have hA1 := hA
 rw [Tryz.params3] at hA hval
 obtain ⟨v0, vs0, d0, ds0, q0, r0, hargs, rfl, rfl, h0, k0⟩ := trodAll_cons hA
 obtain ⟨v1, vs1, d1, ds1, q1, r1, rfl, rfl, rfl, h1, k1⟩ := trodAll_cons k0
 obtain ⟨v2, vs2, d2, ds2, q2, r2, rfl, rfl, rfl, h2, k2⟩ := trodAll_cons k1
 obtain ⟨rfl, rfl, rfl⟩ := trodAll_nil k2
 obtain rfl : args = #[v0, v1, v2] := by cases args; simp_all
 obtain ⟨rfl, rfl⟩ := trodVars_none hV
 obtain ⟨x, rfl, sS, sP, sO, hcO⟩ := aUB (hval 0 _ v0 rfl rfl) h0
 obtain ⟨q0, q1, rfl⟩ := aYI (hval 1 _ v1 rfl rfl) h1
 obtain ⟨s0, s1, rfl, hb0, hb1⟩ := aWC (hval 2 _ v2 rfl rfl) h2
 refine Calls.mono (CD.out (CD.mono (aLU hb0 hb1 hcO (List.Mem.tail _ (List.Mem.tail _ (List.Mem.head _))) (List.Mem.tail _ (List.Mem.head _)) (List.Mem.head _)) (fun _ _ _ h => h.2.2)) (((Mem.startS (Mem.start W) sS).add (φ := aI x.pP (recs gP x.P)) ⟨sP⟩).add (φ := aI x.pO (recs jU x.O)) ⟨sO⟩)) ?_
 rintro e W' ⟨v, rfl, hE, rfl⟩
 simp only [List.append_nil] at hW' hA1
 refine ⟨_, rfl, _, _, _, [], _, [], hW', trodAll_cons_mk (shut_bool Tryz.underlying4 _) trodAll_mk0, zG laidOut hE.below _ _ _ _ readable (fun x hx => hW'.lt x hx) hA1, rfl, hE.below.frame _, fun h => by cases h⟩

theorem c1 : laidOutB Tryz.prog = true := by kernel_rfl
theorem c2 : (Rows.topChainsRow.inPlace == Tryz.prog.inPlace 3) = true := by kernel_rfl
theorem c3 : (Rows.topChainsRow.unfollowed == Tryz.prog.unfollowed 3) = true := by kernel_rfl
theorem c4 : (Rows.topChainsRow.recurses == Tryz.prog.recurses 3) = true := by kernel_rfl
theorem c5 : (Rows.topChainsRow.named == Tryz.prog.varsNamed 3) = true := by kernel_rfl
theorem c6 : Tryz.prog.stopsHeard = true := by kernel_rfl
theorem c7 : Tryz.prog.mayEnter = true := by kernel_rfl
theorem c8 : (Rows.topChainsRow.lifted == Tryz.prog.liftsFinal) = true := by kernel_rfl
theorem c9 : mapsRowed Tryz.prog = true := by kernel_rfl
theorem closed : joinedFacts Tryz.prog 3 Tryz.f3 Rows.topChainsSpec Rows.topChainsRow = true := by
 unfold joinedFacts
 simp only [Bool.and_eq_true]
 repeat' apply And.intro
 all_goals first | with_reducible exact c1 | with_reducible exact c2 | with_reducible exact c3 | with_reducible exact c4 | with_reducible exact c5 | with_reducible exact c6 | with_reducible exact c7 | with_reducible exact c8 | with_reducible exact c9 | kernel_rfl
theorem named : Tryz.pinned.checked.prog.funcNamed Rows.topChainsRow.func = some 3 := by kernel_rfl
theorem inst : Tryz.f3.isInstance Tryz.pinned.checked.prog Rows.topChainsRow.origin Rows.topChainsRow.targs := of_decide_eq_true (by kernel_rfl)
theorem wrap : Tryz.f3.isWrapper Tryz.pinned.checked.prog Rows.topChainsRow.wrapper Rows.topChainsRow.mainSum := by unfold Func.isWrapper; first | (rw [if_pos (by decide +kernel)]; kernel_rfl) | (rw [if_neg (by decide +kernel)]; exact ⟨rfl, rfl⟩)
theorem over : Rows.topChainsRow.holds Tryz.pinned (OpenSpec.ofChange Rows.topChainsSpec) :=
 OpenClaim.holds_of_wide 3 Tryz.f3 rfl rfl rfl rfl rfl rfl rfl ⟨rfl, rfl, rfl, rfl, rfl⟩ rfl rfl rfl rfl rfl named Tryz.func3 closed
  inst wrap
  (fun os started H enc _ => lifted os started H enc)

theorem proved : Rows.TopChainsSaid :=
 over
#print axioms proved
end Go.Proofs.YtgpkjcmipiodcaaGreat.topChains
