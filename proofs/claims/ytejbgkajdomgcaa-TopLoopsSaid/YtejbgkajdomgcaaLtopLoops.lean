/- The law TopLoops, for every input: the call returns true, and nothing that was there has turned. No condition. -/
import Derived.Test.YtejbgkajdomgcaaRows
import Derived.WalkKit
import Derived.ProofKit
import Derived.OpenShut
import Derived.Test.YtejbgkajdomgcaaZvaf
import Derived.Test.YtejbgkajdomgcaaZvat
namespace Go.Proofs.Ytejbgkajdomgcaa.topLoops
open Go.ChangeShapes Go.WideShapes Go.ChangeAt Go.RowKit Go.Fx
set_option linter.unusedVariables false
set_option linter.unusedSimpArgs false

theorem own : ownKnob Try.prog.godebug = none := by kernel_rfl
theorem laidOut : laidOutB Try.prog = true := by kernel_rfl
theorem readable : ∀ t ∈ Try.f3.params.toList, Try.prog.readableRec t = true ∧ t < Try.prog.types.size := by
 rw [Try.params3]
 intro t ht
 simp only [List.mem_cons, List.not_mem_nil, or_false] at ht
 rcases ht with rfl | rfl | rfl
 ·exact ⟨by kernel_rfl, of_decide_eq_true (by kernel_rfl)⟩
 ·exact ⟨by kernel_rfl, of_decide_eq_true (by kernel_rfl)⟩
 ·exact ⟨by kernel_rfl, of_decide_eq_true (by kernel_rfl)⟩
set_option maxHeartbeats 800000 in
set_option maxRecDepth 100000 in
theorem lifted (os : Os) (started : os.Started) (H : Type) (enc : TypeId × Value → H) :
  ReturnsInHanded {} Try.checked os 3 .any (Rows.topLoopsSpec.pre6 enc Try.prog Try.f3 Rows.topLoopsRow.domain false) (Rows.topLoopsSpec.post enc Try.prog Try.f3 false true false false) := by
 refine returnsInHanded_of_change (C := Try.checked) own started (by kernel_rfl) Try.func3
  (ChangeSpec.witness6 (enc := enc) (C := Try.checked) false ⟨#[], #[.int .i64 0, .slice none 0 0, .slice none 0 0], []⟩ 8 (by kernel_rfl) (by kernel_rfl) (by kernel_rfl) (by kernel_rfl)) ?_
 intro W base args ds gs before hval0 hW _ _
 have hval : ∀ (j : Nat) t v, Try.f3.params[j]? = some t → args[j]? = some v → Value.okWide Try.prog W .any base t v := hval0
 have hW' := hW
 obtain ⟨p, q, hA0, hV, rfl, _, _⟩ := hW
 have hA : DataW.TrodAll enc Try.prog W 0 (fun _ => true) true Try.f3.params.toList args.toList ds p := hA0
 have hA1 := hA
 rw [Try.params3] at hA hval
 obtain ⟨v0, vs0, d0, ds0, q0, r0, hargs, rfl, rfl, h0, k0⟩ := trodAll_cons hA
 obtain ⟨v1, vs1, d1, ds1, q1, r1, rfl, rfl, rfl, h1, k1⟩ := trodAll_cons k0
 obtain ⟨v2, vs2, d2, ds2, q2, r2, rfl, rfl, rfl, h2, k2⟩ := trodAll_cons k1
 obtain ⟨rfl, rfl, rfl⟩ := trodAll_nil k2
 obtain rfl : args = #[v0, v1, v2] := by cases args; simp_all
 obtain ⟨rfl, rfl⟩ := trodVars_none hV
 obtain ⟨x0, rfl, hw0⟩ := aGW (d := d0) (p := q0) (H := H) Try.underlying3 (hval 0 3 v0 rfl rfl)
 obtain ⟨p2, l2, c2, rfl, hl2, hw2, hn2, hc2, hok2⟩ := aBG Try.underlying23 Try.underlying3 (by kernel_rfl) (hval 2 23 v2 rfl rfl) h2
 obtain ⟨a1, E1, c1, rfl, hs1, hn1⟩ := aKR (hval 1 _ v1 rfl rfl) h1
 refine Calls.mono (CD.out (CD.mono (aKV rfl hn1 rfl hn2 (List.Mem.tail _ (List.Mem.head _)) (List.Mem.head _)) (fun _ _ _ h => h.2.2)) (Mem.startI (Mem.startS (Mem.start W) hs1) hl2)) ?_
 rintro e W' ⟨v, rfl, hE, rfl⟩
 simp only [List.append_nil] at hW' hA1
 refine ⟨_, rfl, _, _, _, [], _, [], hW', trodAll_cons_mk (shut_bool Try.underlying4 _) trodAll_mk0, rT laidOut hE.below _ _ _ _ readable (fun x hx => hW'.lt x hx) hA1, rfl, hE.below.frame _, fun h => by cases h⟩

theorem c1 : laidOutB Try.prog = true := by kernel_rfl
theorem c2 : (Rows.topLoopsRow.inPlace == Try.prog.inPlace 3) = true := by kernel_rfl
theorem c3 : (Rows.topLoopsRow.unfollowed == Try.prog.unfollowed 3) = true := by kernel_rfl
theorem c4 : (Rows.topLoopsRow.recurses == Try.prog.recurses 3) = true := by kernel_rfl
theorem c5 : (Rows.topLoopsRow.named == Try.prog.varsNamed 3) = true := by kernel_rfl
theorem c6 : Try.prog.stopsHeard = true := by kernel_rfl
theorem c7 : Try.prog.mayEnter = true := by kernel_rfl
theorem c8 : (Rows.topLoopsRow.lifted == Try.prog.liftsFinal) = true := by kernel_rfl
theorem c9 : mapsRowed Try.prog = true := by kernel_rfl
theorem closed : joinedFacts Try.prog 3 Try.f3 Rows.topLoopsSpec Rows.topLoopsRow = true := by
 unfold joinedFacts
 simp only [Bool.and_eq_true]
 repeat' apply And.intro
 all_goals first | with_reducible exact c1 | with_reducible exact c2 | with_reducible exact c3 | with_reducible exact c4 | with_reducible exact c5 | with_reducible exact c6 | with_reducible exact c7 | with_reducible exact c8 | with_reducible exact c9 | kernel_rfl
theorem named : Try.pinned.checked.prog.funcNamed Rows.topLoopsRow.func = some 3 := by kernel_rfl
theorem inst : Try.f3.isInstance Try.pinned.checked.prog Rows.topLoopsRow.origin Rows.topLoopsRow.targs := of_decide_eq_true (by kernel_rfl)
theorem wrap : Try.f3.isWrapper Try.pinned.checked.prog Rows.topLoopsRow.wrapper Rows.topLoopsRow.mainSum := by unfold Func.isWrapper; first | (rw [if_pos (by decide +kernel)]; kernel_rfl) | (rw [if_neg (by decide +kernel)]; exact ⟨rfl, rfl⟩)
theorem over : Rows.topLoopsRow.holds Try.pinned (OpenSpec.ofChange Rows.topLoopsSpec) :=
 OpenClaim.holds_of_wide 3 Try.f3 rfl rfl rfl rfl rfl rfl rfl ⟨rfl, rfl, rfl, rfl, rfl⟩ rfl rfl rfl rfl rfl named Try.func3 closed
  inst wrap
  (fun os started H enc _ => lifted os started H enc)

theorem proved : Rows.TopLoopsSaid :=
 over
#print axioms proved
end Go.Proofs.Ytejbgkajdomgcaa.topLoops
