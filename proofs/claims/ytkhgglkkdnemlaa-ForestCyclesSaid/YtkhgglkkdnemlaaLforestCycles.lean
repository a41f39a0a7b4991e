/- The law ForestCycles, for every input: the call returns true, and nothing that was there has turned. No condition. -/
import Derived.Test.YtkhgglkkdnemlaaRows
import Derived.WalkKit
import Derived.ProofKit
import Derived.OpenShut
import Derived.Test.YtkhgglkkdnemlaaZhab
import Derived.Test.YtkhgglkkdnemlaaZhat
namespace Go.Proofs.Ytkhgglkkdnemlaa.forestCycles
open Go.ChangeShapes Go.WideShapes Go.ChangeAt Go.RowKit Go.Fx
set_option linter.unusedVariables false
set_option linter.unusedSimpArgs false

theorem own : ownKnob Try.prog.godebug = none := by kernel_rfl
theorem laidOut : laidOutB Try.prog = true := by kernel_rfl
theorem readable : ∀ t ∈ Try.f11.params.toList, Try.prog.readableRec t = true ∧ t < Try.prog.types.size := by
  rw [Try.params11]
  intro t ht
  simp only [List.mem_cons, List.not_mem_nil, or_false] at ht
  rcases ht with rfl | rfl
  · exact ⟨by kernel_rfl, of_decide_eq_true (by kernel_rfl)⟩
  · exact ⟨by kernel_rfl, of_decide_eq_true (by kernel_rfl)⟩
set_option maxHeartbeats 800000 in
set_option maxRecDepth 100000 in
theorem lifted (os : Os) (started : os.Started) (H : Type) (enc : TypeId × Value → H) :
    ReturnsInHanded {} Try.checked os 11 .any (Rows.forestCyclesSpec.pre6 enc Try.prog Try.f11 Rows.forestCyclesRow.domain false) (Rows.forestCyclesSpec.post enc Try.prog Try.f11 false true false false) := by
  refine returnsInHanded_of_change (C := Try.checked) own started (by kernel_rfl) Try.func11
    (ChangeSpec.witness6 (enc := enc) (C := Try.checked) false ⟨#[], #[.agg #[.int .i64 0, .slice none 0 0], .slice none 0 0], []⟩ 8 (by kernel_rfl) (by kernel_rfl) (by kernel_rfl) (by kernel_rfl)) ?_
  intro W base args ds gs before hval0 hW _ _
  have hval : ∀ (j : Nat) t v, Try.f11.params[j]? = some t → args[j]? = some v → Value.okWide Try.prog W .any base t v := hval0
  have hW' := hW
  obtain ⟨p, q, hA0, hV, rfl, _, _⟩ := hW
  have hA : DataW.TrodAll enc Try.prog W 0 (fun _ => true) true Try.f11.params.toList args.toList ds p := hA0
  have hA1 := hA
  rw [Try.params11] at hA hval
  obtain ⟨v0, vs0, d0, ds0, q0, r0, hargs, rfl, rfl, h0, k0⟩ := trodAll_cons hA
  obtain ⟨v1, vs1, d1, ds1, q1, r1, rfl, rfl, rfl, h1, k1⟩ := trodAll_cons k0
  obtain ⟨rfl, rfl, rfl⟩ := trodAll_nil k1
  obtain rfl : args = #[v0, v1] := by cases args; simp_all
  obtain ⟨rfl, rfl⟩ := trodVars_none hV
  obtain ⟨p1, l1, c1, rfl, hl1, hw1, hn1, hc1, hok1⟩ := open_sliceI Try.underlying27 Try.underlying3 (by kernel_rfl) (hval 1 27 v1 rfl rfl) h1
  obtain ⟨N0, a0, ms0, c0, rfl, hs0, hn0⟩ := open_g (hval 0 _ v0 rfl rfl) h0
  refine Calls.mono (CD.out (LCycles_ok hn0 hn1 hc1 (hok1.imp id (fun h => h.2)) (List.Mem.tail _ (List.Mem.head _)) (List.Mem.head _)) (Mem.startI (Mem.startS (Mem.start W) hs0) hl1)) ?_
  rintro e W' ⟨v, rfl, hE, rfl⟩
  simp only [List.append_nil] at hW' hA1
  refine ⟨_, rfl, _, _, _, [], _, [], hW', trodAll_cons_mk (shut_bool Try.underlying4 _) trodAll_mk0, trodAll_stay laidOut hE.below _ _ _ _ readable (fun x hx => hW'.lt x hx) hA1, rfl, hE.below.frame _, fun h => by cases h⟩

theorem c1 : laidOutB Try.prog = true := by kernel_rfl
theorem c2 : (Rows.forestCyclesRow.inPlace == Try.prog.inPlace 11) = true := by kernel_rfl
theorem c3 : (Rows.forestCyclesRow.unfollowed == Try.prog.unfollowed 11) = true := by kernel_rfl
theorem c4 : (Rows.forestCyclesRow.recurses == Try.prog.recurses 11) = true := by kernel_rfl
theorem c5 : (Rows.forestCyclesRow.named == Try.prog.varsNamed 11) = true := by kernel_rfl
theorem c6 : Try.prog.stopsHeard = true := by kernel_rfl
theorem c7 : Try.prog.mayEnter = true := by kernel_rfl
theorem c8 : (Rows.forestCyclesRow.lifted == Try.prog.liftsFinal) = true := by kernel_rfl
theorem c9 : mapsRowed Try.prog = true := by kernel_rfl
theorem closed : joinedFacts Try.prog 11 Try.f11 Rows.forestCyclesSpec Rows.forestCyclesRow = true := by
  unfold joinedFacts
  simp only [Bool.and_eq_true]
  repeat' apply And.intro
  all_goals first | with_reducible exact c1 | with_reducible exact c2 | with_reducible exact c3 | with_reducible exact c4 | with_reducible exact c5 | with_reducible exact c6 | with_reducible exact c7 | with_reducible exact c8 | with_reducible exact c9 | kernel_rfl
theorem named : Try.pinned.checked.prog.funcNamed Rows.forestCyclesRow.func = some 11 := by kernel_rfl
theorem inst : Try.f11.isInstance Try.pinned.checked.prog Rows.forestCyclesRow.origin Rows.forestCyclesRow.targs := of_decide_eq_true (by kernel_rfl)
theorem wrap : Try.f11.isWrapper Try.pinned.checked.prog Rows.forestCyclesRow.wrapper Rows.forestCyclesRow.mainSum := by unfold Func.isWrapper; first | (rw [if_pos (by decide +kernel)]; kernel_rfl) | (rw [if_neg (by decide +kernel)]; exact ⟨rfl, rfl⟩)
theorem over : Rows.forestCyclesRow.holds Try.pinned (OpenSpec.ofChange Rows.forestCyclesSpec) :=
  OpenClaim.holds_of_wide 11 Try.f11 rfl rfl rfl rfl rfl rfl rfl ⟨rfl, rfl, rfl, rfl, rfl⟩ rfl rfl rfl rfl rfl named Try.func11 closed
    inst wrap
    (fun os started H enc _ => lifted os started H enc)

/-- the statement -/
theorem proved : Rows.ForestCyclesSaid :=
  over
#print axioms proved
end Go.Proofs.Ytkhgglkkdnemlaa.forestCycles
