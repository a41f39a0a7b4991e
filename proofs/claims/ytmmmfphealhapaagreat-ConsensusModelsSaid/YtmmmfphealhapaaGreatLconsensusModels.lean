/- The law ConsensusModels, for every input: the call returns true, and nothing that was there has turned. No condition. -/
import Derived.Test.YtmmmfphealhapaaGreatRows
import Derived.WalkKit
import Derived.ProofKit
import Derived.OpenShut
import Derived.Test.YtmmmfphealhapaaGreatZsab
import Derived.Test.YtmmmfphealhapaaGreatZsbh
namespace Go.Proofs.YtmmmfphealhapaaGreat.consensusModels
open Go.ChangeShapes Go.WideShapes Go.ChangeAt Go.RowKit Go.Fx
set_option linter.unusedVariables false
set_option linter.unusedSimpArgs false

theorem own : ownKnob Tryz.prog.godebug = none := by kernel_rfl
theorem laidOut : laidOutB Tryz.prog = true := by kernel_rfl
theorem readable : ∀ t ∈ Tryz.f4.params.toList, Tryz.prog.readableRec t = true ∧ t < Tryz.prog.types.size := by
 rw [Tryz.params4]
 intro t ht
 simp only [List.mem_cons, List.not_mem_nil, or_false] at ht
 rcases ht with rfl | rfl | rfl
 ·exact ⟨by kernel_rfl, of_decide_eq_true (by kernel_rfl)⟩
 ·exact ⟨by kernel_rfl, of_decide_eq_true (by kernel_rfl)⟩
 ·exact ⟨by kernel_rfl, of_decide_eq_true (by kernel_rfl)⟩
set_option maxHeartbeats 800000 in
set_option maxRecDepth 100000 in
theorem lifted (os : Os) (started : os.Started) (H : Type) (enc : TypeId × Value → H) :
  ReturnsInHanded {} Tryz.checked os 4 .any (Rows.consensusModelsSpec.pre6 enc Tryz.prog Tryz.f4 Rows.consensusModelsRow.domain false) (Rows.consensusModelsSpec.post enc Tryz.prog Tryz.f4 false true false false) := by
 refine returnsInHanded_of_change (C := Tryz.checked) own started (by kernel_rfl) Tryz.func4
  (ChangeSpec.witness6 (enc := enc) (C := Tryz.checked) false ⟨#[], #[.int .i64 0, .slice none 0 0, .slice none 0 0], []⟩ 8 (by kernel_rfl) (by kernel_rfl) (by kernel_rfl) (by kernel_rfl)) ?_
 intro W base args ds gs before hval0 hW _ _
 have hval : ∀ (j : Nat) t v, Tryz.f4.params[j]? = some t → args[j]? = some v → Value.okWide Tryz.prog W .any base t v := hval0
 have hW' := hW
 obtain ⟨p, q, hA0, hV, rfl, _, _⟩ := hW
 have hA : DataW.TrodAll enc Tryz.prog W 0 (fun _ => true) true Tryz.f4.params.toList args.toList ds p := hA0
 have hA1 := hA
 rw [Tryz.params4] at hA hval
 obtain ⟨v0, vs0, d0, ds0, q0, r0, hargs, rfl, rfl, h0, k0⟩ := trodAll_cons hA
 obtain ⟨v1, vs1, d1, ds1, q1, r1, rfl, rfl, rfl, h1, k1⟩ := trodAll_cons k0
 obtain ⟨v2, vs2, d2, ds2, q2, r2, rfl, rfl, rfl, h2, k2⟩ := trodAll_cons k1
 obtain ⟨rfl, rfl, rfl⟩ := trodAll_nil k2
 obtain rfl : args = #[v0, v1, v2] := by cases args; simp_all
 obtain ⟨rfl, rfl⟩ := trodVars_none hV
 obtain ⟨x0, rfl, hw0⟩ := aSY (d := d0) (p := q0) (H := H) Tryz.underlying32 (hval 0 32 v0 rfl rfl)
 obtain ⟨p2, l2, c2, rfl, hl2, hw2, hn2, hc2, hok2⟩ := aJR Tryz.underlying31 Tryz.underlying3 (by kernel_rfl) (hval 2 31 v2 rfl rfl) h2
 obtain ⟨q1, l1, c1, rfl, hs1, hn1⟩ := aWH (hval 1 _ v1 rfl rfl) h1
 refine Calls.mono (CD.out (CD.mono (LMods rfl hn1 rfl hn2 (List.Mem.tail _ (List.Mem.head _)) (List.Mem.head _)) (fun _ _ _ h => h.2.2)) (Mem.startI (Mem.startS (Mem.start W) hs1) hl2)) ?_
 rintro e W' ⟨v, rfl, hE, rfl⟩
 simp only [List.append_nil] at hW' hA1
 refine ⟨_, rfl, _, _, _, [], _, [], hW', trodAll_cons_mk (shut_bool Tryz.underlying4 _) trodAll_mk0, aAB laidOut hE.below _ _ _ _ readable (fun x hx => hW'.lt x hx) hA1, rfl, hE.below.frame _, fun h => by cases h⟩

theorem c1 : laidOutB Tryz.prog = true := by kernel_rfl
theorem c2 : (Rows.consensusModelsRow.inPlace == Tryz.prog.inPlace 4) = true := by kernel_rfl
theorem c3 : (Rows.consensusModelsRow.unfollowed == Tryz.prog.unfollowed 4) = true := by kernel_rfl
theorem c4 : (Rows.consensusModelsRow.recurses == Tryz.prog.recurses 4) = true := by kernel_rfl
theorem c5 : (Rows.consensusModelsRow.named == Tryz.prog.varsNamed 4) = true := by kernel_rfl
theorem c6 : Tryz.prog.stopsHeard = true := by kernel_rfl
theorem c7 : Tryz.prog.mayEnter = true := by kernel_rfl
theorem c8 : (Rows.consensusModelsRow.lifted == Tryz.prog.liftsFinal) = true := by kernel_rfl
theorem c9 : mapsRowed Tryz.prog = true := by kernel_rfl
theorem closed : joinedFacts Tryz.prog 4 Tryz.f4 Rows.consensusModelsSpec Rows.consensusModelsRow = true := by
 unfold joinedFacts
 simp only [Bool.and_eq_true]
 repeat' apply And.intro
 all_goals first | with_reducible exact c1 | with_reducible exact c2 | with_reducible exact c3 | with_reducible exact c4 | with_reducible exact c5 | with_reducible exact c6 | with_reducible exact c7 | with_reducible exact c8 | with_reducible exact c9 | kernel_rfl
theorem named : Tryz.pinned.checked.prog.funcNamed Rows.consensusModelsRow.func = some 4 := by kernel_rfl
theorem inst : Tryz.f4.isInstance Tryz.pinned.checked.prog Rows.consensusModelsRow.origin Rows.consensusModelsRow.targs := of_decide_eq_true (by kernel_rfl)
theorem wrap : Tryz.f4.isWrapper Tryz.pinned.checked.prog Rows.consensusModelsRow.wrapper Rows.consensusModelsRow.mainSum := by unfold Func.isWrapper; first | (rw [if_pos (by decide +kernel)]; kernel_rfl) | (rw [if_neg (by decide +kernel)]; exact ⟨rfl, rfl⟩)
theorem over : Rows.consensusModelsRow.holds Tryz.pinned (OpenSpec.ofChange Rows.consensusModelsSpec) :=
 OpenClaim.holds_of_wide 4 Tryz.f4 rfl rfl rfl rfl rfl rfl rfl ⟨rfl, rfl, rfl, rfl, rfl⟩ rfl rfl rfl rfl rfl named Tryz.func4 closed
  inst wrap
  (fun os started H enc _ => lifted os started H enc)

theorem proved : Rows.ConsensusModelsSaid :=
 over
#print axioms proved
end Go.Proofs.YtmmmfphealhapaaGreat.consensusModels
