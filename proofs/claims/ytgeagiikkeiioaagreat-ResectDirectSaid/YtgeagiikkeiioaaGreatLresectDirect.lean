/- The law ResectDirect, for every input: the call returns true, and nothing that was there has turned. No condition. -/
import Derived.Test.YtgeagiikkeiioaaGreatRows
import Derived.WalkKit
import Derived.ProofKit
import Derived.OpenShut
import Derived.SizedLaws
import Derived.Test.YtgeagiikkeiioaaGreatZdab
import Derived.Test.YtgeagiikkeiioaaGreatZdbq
import Derived.Test.YtgeagiikkeiioaaGreatZdbk
namespace Go.Proofs.YtgeagiikkeiioaaGreat.resectDirect
open Go.ChangeShapes Go.WideShapes Go.ChangeAt Go.RowKit Go.Fx
set_option linter.unusedVariables false
set_option linter.unusedSimpArgs false

theorem own : ownKnob Tryz.prog.godebug = none := by kernel_rfl
theorem laidOut : laidOutB Tryz.prog = true := by kernel_rfl
theorem readable : ∀ t ∈ Tryz.f3.params.toList, Tryz.prog.readableRec t = true ∧ t < Tryz.prog.types.size := by
 rw [Tryz.params3]
 intro t ht
 simp only [List.mem_cons, List.not_mem_nil, or_false] at ht
 subst ht
 exact ⟨by kernel_rfl, of_decide_eq_true (by kernel_rfl)⟩
set_option maxHeartbeats 800000 in
set_option maxRecDepth 100000 in
theorem lifted (os : Os) (started : os.Started) (H : Type) (enc : TypeId × Value → H) :
  ReturnsInHanded {} Tryz.checked os 3 .any (Rows.resectDirectSpec.pre6 enc Tryz.prog Tryz.f3 Rows.resectDirectRow.domain false) (Rows.resectDirectSpec.post enc Tryz.prog Tryz.f3 false true false false) := by
 refine returnsInHanded_of_change_sized (C := Tryz.checked) own started (by kernel_rfl) Tryz.func3
  (ChangeSpec.witness6 (enc := enc) (C := Tryz.checked) false ⟨#[], #[.agg #[.slice none 0 0, .slice none 0 0]], []⟩ 8 (by kernel_rfl) (by kernel_rfl) (by kernel_rfl) (by kernel_rfl)) ?_
 intro W base args ds gs before hval0 hW _ hwt _
 have hval : ∀ (j : Nat) t v, Tryz.f3.params[j]? = some t → args[j]? = some v → Value.okWide Tryz.prog W .any base t v := hval0
 have hW' := hW
 obtain ⟨p, q, hA0, hV, rfl, _, _⟩ := hW
 have hA : DataW.TrodAll enc Tryz.prog W 0 (fun _ => true) true Tryz.f3.params.toList args.toList ds p := hA0
 have hA1 := hA
 rw [Tryz.params3] at hA hval
 obtain ⟨v0, vs0, d0, ds0, q0, r0, hargs, rfl, rfl, h0, k0⟩ := trodAll_cons hA
 rw [Tryz.params3] at hwt
 obtain ⟨rfl, rfl, rfl⟩ := trodAll_nil k0
 obtain rfl : args = #[v0] := by cases args; simp_all
 obtain ⟨rfl, rfl⟩ := trodVars_none hV
 obtain ⟨q1, q2, c1, c2, ws, ps, rfl, i1, i2, i3, i4, i5, i6⟩ := aGZ (hval 0 _ v0 rfl rfl) h0 (aKG (j := 0) hwt rfl rfl)
 refine Calls.mono (CD.out (CD.mono (LDir ⟨i5, fun r hr => (i3 r hr).2⟩ i6 (List.Mem.tail _ (List.Mem.tail _ (List.Mem.tail _ (List.Mem.head _)))) (List.Mem.tail _ (List.Mem.tail _ (List.Mem.head _))) (List.Mem.tail _ (List.Mem.head _)) (List.Mem.head _)) (fun _ _ _ h => h.2.2)) (((((Mem.start W).add (φ := bH q1 (recs eVW ws)) ⟨i1⟩).add (φ := bH q2 (recs ePW ps)) ⟨i2⟩).add (φ := uR ws) ⟨fun r hr => (i3 r hr).1⟩).add (φ := mE ps) ⟨i4⟩)) ?_
 rintro e W' ⟨v, rfl, hE, rfl⟩
 simp only [List.append_nil] at hW' hA1
 refine ⟨_, rfl, _, _, _, [], _, [], hW', trodAll_cons_mk (shut_bool Tryz.underlying4 _) trodAll_mk0, wJ laidOut hE.below _ _ _ _ readable (fun x hx => hW'.lt x hx) hA1, rfl, hE.below.frame _, fun h => by cases h⟩

theorem c1 : laidOutB Tryz.prog = true := by kernel_rfl
theorem c2 : (Rows.resectDirectRow.inPlace == Tryz.prog.inPlace 3) = true := by kernel_rfl
theorem c3 : (Rows.resectDirectRow.unfollowed == Tryz.prog.unfollowed 3) = true := by kernel_rfl
theorem c4 : (Rows.resectDirectRow.recurses == Tryz.prog.recurses 3) = true := by kernel_rfl
theorem c5 : (Rows.resectDirectRow.named == Tryz.prog.varsNamed 3) = true := by kernel_rfl
theorem c6 : Tryz.prog.stopsHeard = true := by kernel_rfl
theorem c7 : Tryz.prog.mayEnter = true := by kernel_rfl
theorem c8 : (Rows.resectDirectRow.lifted == Tryz.prog.liftsFinal) = true := by kernel_rfl
theorem c9 : mapsRowed Tryz.prog = true := by kernel_rfl
theorem closed : joinedFacts Tryz.prog 3 Tryz.f3 Rows.resectDirectSpec Rows.resectDirectRow = true := by
 unfold joinedFacts
 simp only [Bool.and_eq_true]
 repeat' apply And.intro
 all_goals first | with_reducible exact c1 | with_reducible exact c2 | with_reducible exact c3 | with_reducible exact c4 | with_reducible exact c5 | with_reducible exact c6 | with_reducible exact c7 | with_reducible exact c8 | with_reducible exact c9 | kernel_rfl
theorem named : Tryz.pinned.checked.prog.funcNamed Rows.resectDirectRow.func = some 3 := by kernel_rfl
theorem inst : Tryz.f3.isInstance Tryz.pinned.checked.prog Rows.resectDirectRow.origin Rows.resectDirectRow.targs := of_decide_eq_true (by kernel_rfl)
theorem wrap : Tryz.f3.isWrapper Tryz.pinned.checked.prog Rows.resectDirectRow.wrapper Rows.resectDirectRow.mainSum := by unfold Func.isWrapper; first | (rw [if_pos (by decide +kernel)]; kernel_rfl) | (rw [if_neg (by decide +kernel)]; exact ⟨rfl, rfl⟩)
theorem over : Rows.resectDirectRow.holds Tryz.pinned (OpenSpec.ofChange Rows.resectDirectSpec) :=
 OpenClaim.holds_of_wide 3 Tryz.f3 rfl rfl rfl rfl rfl rfl rfl ⟨rfl, rfl, rfl, rfl, rfl⟩ rfl rfl rfl rfl rfl named Tryz.func3 closed
  inst wrap
  (fun os started H enc _ => lifted os started H enc)

theorem proved : Rows.ResectDirectSaid :=
 over
#print axioms proved
end Go.Proofs.YtgeagiikkeiioaaGreat.resectDirect
