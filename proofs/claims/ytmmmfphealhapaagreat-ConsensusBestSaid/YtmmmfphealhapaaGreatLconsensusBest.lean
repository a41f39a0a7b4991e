/- The law ConsensusBest, for every input: the call returns true, and nothing that was there has turned. No condition. -/
import Derived.Test.YtmmmfphealhapaaGreatRows
import Derived.WalkKit
import Derived.ProofKit
import Derived.OpenShut
import Derived.Test.YtmmmfphealhapaaGreatZtad
import Derived.Test.YtmmmfphealhapaaGreatZtaw
namespace Go.Proofs.YtmmmfphealhapaaGreat.consensusBest
open Go.ChangeShapes Go.WideShapes Go.ChangeAt Go.RowKit Go.Fx
set_option linter.unusedVariables false
set_option linter.unusedSimpArgs false

theorem own : ownKnob Tryz.prog.godebug = none := by kernel_rfl
theorem laidOut : laidOutB Tryz.prog = true := by kernel_rfl
theorem readable : ∀ t ∈ Tryz.f5.params.toList, Tryz.prog.readableRec t = true ∧ t < Tryz.prog.types.size := by
 rw [Tryz.params5]
 intro t ht
 simp only [List.mem_cons, List.not_mem_nil, or_false] at ht
 rcases ht with rfl | rfl
 ·exact ⟨by kernel_rfl, of_decide_eq_true (by kernel_rfl)⟩
 ·exact ⟨by kernel_rfl, of_decide_eq_true (by kernel_rfl)⟩
set_option maxHeartbeats 800000 in
set_option maxRecDepth 100000 in
theorem lifted (os : Os) (started : os.Started) (H : Type) (enc : TypeId × Value → H) :
  ReturnsInHanded {} Tryz.checked os 5 .any (Rows.consensusBestSpec.pre6 enc Tryz.prog Tryz.f5 Rows.consensusBestRow.domain false) (Rows.consensusBestSpec.post enc Tryz.prog Tryz.f5 false true false false) := by
 refine returnsInHanded_of_change (C := Tryz.checked) own started (by kernel_rfl) Tryz.func5
  (ChangeSpec.witness6 (enc := enc) (C := Tryz.checked) false ⟨#[], #[.slice none 0 0, .agg #[.int .i64 0, .int .i64 0, .int .i16 0, .int .i16 0, .bool false, .bool false]], []⟩ 8 (by kernel_rfl) (by kernel_rfl) (by kernel_rfl) (by kernel_rfl)) ?_
 intro W base args ds gs before hval0 hW _ _
 have hval : ∀ (j : Nat) t v, Tryz.f5.params[j]? = some t → args[j]? = some v → Value.okWide Tryz.prog W .any base t v := hval0
 have hW' := hW
 obtain ⟨p, q, hA0, hV, rfl, _, _⟩ := hW
 have hA : DataW.TrodAll enc Tryz.prog W 0 (fun _ => true) true Tryz.f5.params.toList args.toList ds p := hA0
 have hA1 := hA
 rw [Tryz.params5] at hA hval
 obtain ⟨v0, vs0, d0, ds0, q0, r0, hargs, rfl, rfl, h0, k0⟩ := trodAll_cons hA
 obtain ⟨v1, vs1, d1, ds1, q1, r1, rfl, rfl, rfl, h1, k1⟩ := trodAll_cons k0
 obtain ⟨rfl, rfl, rfl⟩ := trodAll_nil k1
 obtain rfl : args = #[v0, v1] := by cases args; simp_all
 obtain ⟨rfl, rfl⟩ := trodVars_none hV
 obtain ⟨q0, l0, c0, rfl, hs0, hn0⟩ := aWL (hval 0 _ v0 rfl rfl) h0
 obtain ⟨k1, t1, x1, y1, e1, u1, rfl, _, _⟩ := aUC (hval 1 _ v1 rfl rfl) h1
 refine Calls.mono (CD.out (CD.mono (bFY rfl hn0 (List.Mem.head _)) (fun _ _ _ h => h.2.2)) (Mem.startS (Mem.start W) hs0)) ?_
 rintro e W' ⟨v, rfl, hE, rfl⟩
 simp only [List.append_nil] at hW' hA1
 refine ⟨_, rfl, _, _, _, [], _, [], hW', trodAll_cons_mk (shut_bool Tryz.underlying4 _) trodAll_mk0, aAC laidOut hE.below _ _ _ _ readable (fun x hx => hW'.lt x hx) hA1, rfl, hE.below.frame _, fun h => by cases h⟩

theorem c1 : laidOutB Tryz.prog = true := by kernel_rfl
theorem c2 : (Rows.consensusBestRow.inPlace == Tryz.prog.inPlace 5) = true := by kernel_rfl
theorem c3 : (Rows.consensusBestRow.unfollowed == Tryz.prog.unfollowed 5) = true := by kernel_rfl
theorem c4 : (Rows.consensusBestRow.recurses == Tryz.prog.recurses 5) = true := by kernel_rfl
theorem c5 : (Rows.consensusBestRow.named == Tryz.prog.varsNamed 5) = true := by kernel_rfl
theorem c6 : Tryz.prog.stopsHeard = true := by kernel_rfl
theorem c7 : Tryz.prog.mayEnter = true := by kernel_rfl
theorem c8 : (Rows.consensusBestRow.lifted == Tryz.prog.liftsFinal) = true := by kernel_rfl
theorem c9 : mapsRowed Tryz.prog = true := by kernel_rfl
theorem closed : joinedFacts Tryz.prog 5 Tryz.f5 Rows.consensusBestSpec Rows.consensusBestRow = true := by
 unfold joinedFacts
 simp only [Bool.and_eq_true]
 repeat' apply And.intro
 all_goals first | with_reducible exact c1 | with_reducible exact c2 | with_reducible exact c3 | with_reducible exact c4 | with_reducible exact c5 | with_reducible exact c6 | with_reducible exact c7 | with_reducible exact c8 | with_reducible exact c9 | kernel_rfl
theorem named : Tryz.pinned.checked.prog.funcNamed Rows.consensusBestRow.func = some 5 := by kernel_rfl
theorem inst : Tryz.f5.isInstance Tryz.pinned.checked.prog Rows.consensusBestRow.origin Rows.consensusBestRow.targs := of_decide_eq_true (by kernel_rfl)
theorem wrap : Tryz.f5.isWrapper Tryz.pinned.checked.prog Rows.consensusBestRow.wrapper Rows.consensusBestRow.mainSum := by unfold Func.isWrapper; first | (rw [if_pos (by decide +kernel)]; kernel_rfl) | (rw [if_neg (by decide +kernel)]; exact ⟨rfl, rfl⟩)
theorem over : Rows.consensusBestRow.holds Tryz.pinned (OpenSpec.ofChange Rows.consensusBestSpec) :=
 OpenClaim.holds_of_wide 5 Tryz.f5 rfl rfl rfl rfl rfl rfl rfl ⟨rfl, rfl, rfl, rfl, rfl⟩ rfl rfl rfl rfl rfl named Tryz.func5 closed
  inst wrap
  (fun os started H enc _ => lifted os started H enc)

theorem proved : Rows.ConsensusBestSaid :=
 over
#print axioms proved
end Go.Proofs.YtmmmfphealhapaaGreat.consensusBest
