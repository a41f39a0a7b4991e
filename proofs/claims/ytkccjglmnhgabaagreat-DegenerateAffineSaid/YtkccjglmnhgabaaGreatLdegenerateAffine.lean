/- The law DegenerateAffine, for every input: the call returns true, and nothing that was there has turned. No condition. -/
import Derived.Test.YtkccjglmnhgabaaGreatRows
import Derived.WalkKit
import Derived.ProofKit
import Derived.OpenShut
import Derived.Test.YtkccjglmnhgabaaGreatZkab
import Derived.Test.YtkccjglmnhgabaaGreatZkbp
namespace Go.Proofs.YtkccjglmnhgabaaGreat.degenerateAffine
open Go.ChangeShapes Go.WideShapes Go.ChangeAt Go.RowKit Go.Fx
set_option linter.unusedVariables false
set_option linter.unusedSimpArgs false

theorem own : ownKnob Tryz.prog.godebug = none := by kernel_rfl
theorem laidOut : laidOutB Tryz.prog = true := by kernel_rfl
theorem readable : ∀ t ∈ Tryz.f10.params.toList, Tryz.prog.readableRec t = true ∧ t < Tryz.prog.types.size := by
 rw [Tryz.params10]
 intro t ht
 simp only [List.mem_cons, List.not_mem_nil, or_false] at ht
 rcases ht with rfl | rfl
 ·exact ⟨by kernel_rfl, of_decide_eq_true (by kernel_rfl)⟩
 ·exact ⟨by kernel_rfl, of_decide_eq_true (by kernel_rfl)⟩
set_option maxHeartbeats 800000 in
set_option maxRecDepth 100000 in
theorem lifted (os : Os) (started : os.Started) (H : Type) (enc : TypeId × Value → H) :
  ReturnsInHanded {} Tryz.checked os 10 .any (Rows.degenerateAffineSpec.pre6 enc Tryz.prog Tryz.f10 Rows.degenerateAffineRow.domain false) (Rows.degenerateAffineSpec.post enc Tryz.prog Tryz.f10 false true false false) := by
 refine returnsInHanded_of_change (C := Tryz.checked) own started (by kernel_rfl) Tryz.func10
  (ChangeSpec.witness6 (enc := enc) (C := Tryz.checked) false ⟨#[], #[.slice none 0 0, .agg #[.int .i8 0, .int .i8 0, .int .i8 0, .int .i8 0, .int .i8 0, .int .i8 0]], []⟩ 8 (by kernel_rfl) (by kernel_rfl) (by kernel_rfl) (by kernel_rfl)) ?_
 intro W base args ds gs before hval0 hW _ _
 have hval : ∀ (j : Nat) t v, Tryz.f10.params[j]? = some t → args[j]? = some v → Value.okWide Tryz.prog W .any base t v := hval0
 have hW' := hW
 obtain ⟨p, q, hA0, hV, rfl, _, _⟩ := hW
 have hA : DataW.TrodAll enc Tryz.prog W 0 (fun _ => true) true Tryz.f10.params.toList args.toList ds p := hA0
 have hA1 := hA
 rw [Tryz.params10] at hA hval
 obtain ⟨v0, vs0, d0, ds0, q0, r0, hargs, rfl, rfl, h0, k0⟩ := trodAll_cons hA
 obtain ⟨v1, vs1, d1, ds1, q1, r1, rfl, rfl, rfl, h1, k1⟩ := trodAll_cons k0
 obtain ⟨rfl, rfl, rfl⟩ := trodAll_nil k1
 obtain rfl : args = #[v0, v1] := by cases args; simp_all
 obtain ⟨rfl, rfl⟩ := trodVars_none hV
 obtain ⟨q0, l0, c0, rfl, hs0, hn0⟩ := aPC (hval 0 _ v0 rfl rfl) h0
 obtain ⟨z1, z2, z3, z4, z5, z6, rfl, ha, hd⟩ := aPA (hval 1 _ v1 rfl rfl)
 refine Calls.mono (CD.out (CD.mono (LAff rfl hn0 ha hd (List.Mem.head _)) (fun _ _ _ h => h.2.2)) (Mem.startS (Mem.start W) hs0)) ?_
 rintro e W' ⟨v, rfl, hE, rfl⟩
 simp only [List.append_nil] at hW' hA1
 refine ⟨_, rfl, _, _, _, [], _, [], hW', trodAll_cons_mk (shut_bool Tryz.underlying4 _) trodAll_mk0, pE laidOut hE.below _ _ _ _ readable (fun x hx => hW'.lt x hx) hA1, rfl, hE.below.frame _, fun h => by cases h⟩

theorem c1 : laidOutB Tryz.prog = true := by kernel_rfl
theorem c2 : (Rows.degenerateAffineRow.inPlace == Tryz.prog.inPlace 10) = true := by kernel_rfl
theorem c3 : (Rows.degenerateAffineRow.unfollowed == Tryz.prog.unfollowed 10) = true := by kernel_rfl
theorem c4 : (Rows.degenerateAffineRow.recurses == Tryz.prog.recurses 10) = true := by kernel_rfl
theorem c5 : (Rows.degenerateAffineRow.named == Tryz.prog.varsNamed 10) = true := by kernel_rfl
theorem c6 : Tryz.prog.stopsHeard = true := by kernel_rfl
theorem c7 : Tryz.prog.mayEnter = true := by kernel_rfl
theorem c8 : (Rows.degenerateAffineRow.lifted == Tryz.prog.liftsFinal) = true := by kernel_rfl
theorem c9 : mapsRowed Tryz.prog = true := by kernel_rfl
theorem closed : joinedFacts Tryz.prog 10 Tryz.f10 Rows.degenerateAffineSpec Rows.degenerateAffineRow = true := by
 unfold joinedFacts
 simp only [Bool.and_eq_true]
 repeat' apply And.intro
 all_goals first | with_reducible exact c1 | with_reducible exact c2 | with_reducible exact c3 | with_reducible exact c4 | with_reducible exact c5 | with_reducible exact c6 | with_reducible exact c7 | with_reducible exact c8 | with_reducible exact c9 | kernel_rfl
theorem named : Tryz.pinned.checked.prog.funcNamed Rows.degenerateAffineRow.func = some 10 := by kernel_rfl
theorem inst : Tryz.f10.isInstance Tryz.pinned.checked.prog Rows.degenerateAffineRow.origin Rows.degenerateAffineRow.targs := of_decide_eq_true (by kernel_rfl)
theorem wrap : Tryz.f10.isWrapper Tryz.pinned.checked.prog Rows.degenerateAffineRow.wrapper Rows.degenerateAffineRow.mainSum := by unfold Func.isWrapper; first | (rw [if_pos (by decide +kernel)]; kernel_rfl) | (rw [if_neg (by decide +kernel)]; exact ⟨rfl, rfl⟩)
theorem over : Rows.degenerateAffineRow.holds Tryz.pinned (OpenSpec.ofChange Rows.degenerateAffineSpec) :=
 OpenClaim.holds_of_wide 10 Tryz.f10 rfl rfl rfl rfl rfl rfl rfl ⟨rfl, rfl, rfl, rfl, rfl⟩ rfl rfl rfl rfl rfl named Tryz.func10 closed
  inst wrap
  (fun os started H enc _ => lifted os started H enc)

theorem proved : Rows.DegenerateAffineSaid :=
 over
#print axioms proved
end Go.Proofs.YtkccjglmnhgabaaGreat.degenerateAffine
