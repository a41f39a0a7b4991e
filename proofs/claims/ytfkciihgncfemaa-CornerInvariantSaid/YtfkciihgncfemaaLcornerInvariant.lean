/- The law CornerInvariant, for every input: the call returns true, and nothing that was there has turned. No condition. -/
import Derived.Test.YtfkciihgncfemaaRows
import Derived.WalkKit
import Derived.ProofKit
import Derived.OpenShut
import Derived.Test.YtfkciihgncfemaaFo
import Derived.Test.YtfkciihgncfemaaCr
namespace Go.Proofs.Ytfkciihgncfemaa.cornerInvariant
open Go.ChangeShapes Go.WideShapes Go.ChangeAt Go.RowKit Go.Fx
set_option linter.unusedVariables false

theorem own : ownKnob Try.prog.godebug = none := by kernel_rfl
theorem laidOut : laidOutB Try.prog = true := by kernel_rfl
theorem readable : ∀ t ∈ Try.f8.params.toList, Try.prog.readableRec t = true ∧ t < Try.prog.types.size := by
  rw [Try.params8]
  intro t ht
  simp only [List.mem_cons, List.not_mem_nil, or_false] at ht
  rcases ht with rfl | rfl | rfl
  · exact ⟨by kernel_rfl, of_decide_eq_true (by kernel_rfl)⟩
  · exact ⟨by kernel_rfl, of_decide_eq_true (by kernel_rfl)⟩
  · exact ⟨by kernel_rfl, of_decide_eq_true (by kernel_rfl)⟩
set_option maxHeartbeats 800000 in
set_option maxRecDepth 100000 in
theorem lifted (os : Os) (started : os.Started) (H : Type) (enc : TypeId × Value → H) :
    ReturnsInHanded {} Try.checked os 8 .any (Rows.cornerInvariantSpec.pre6 enc Try.prog Try.f8 Rows.cornerInvariantRow.domain false) (Rows.cornerInvariantSpec.post enc Try.prog Try.f8 false true false false) := by
  refine returnsInHanded_of_change (C := Try.checked) own started (by kernel_rfl) Try.func8
    (ChangeSpec.witness6 (enc := enc) (C := Try.checked) false ⟨#[], #[.agg #[.int .i64 0, .int .i64 0, .int .i64 0, .slice none 0 0], .int .u8 0, .int .u8 0], []⟩ 8 (by kernel_rfl) (by kernel_rfl) (by kernel_rfl) (by kernel_rfl)) ?_
  intro W base args ds gs before hval0 hW _ _
  have hval : ∀ (j : Nat) t v, Try.f8.params[j]? = some t → args[j]? = some v → Value.okWide Try.prog W .any base t v := hval0
  have hW' := hW
  obtain ⟨p, q, hA0, hV, rfl, _, _⟩ := hW
  have hA : DataW.TrodAll enc Try.prog W 0 (fun _ => true) true Try.f8.params.toList args.toList ds p := hA0
  have hA1 := hA
  rw [Try.params8] at hA hval
  obtain ⟨v0, vs0, d0, ds0, q0, r0, hargs, rfl, rfl, h0, k0⟩ := trodAll_cons hA
  obtain ⟨v1, vs1, d1, ds1, q1, r1, rfl, rfl, rfl, h1, k1⟩ := trodAll_cons k0
  obtain ⟨v2, vs2, d2, ds2, q2, r2, rfl, rfl, rfl, h2, k2⟩ := trodAll_cons k1
  obtain ⟨rfl, rfl, rfl⟩ := trodAll_nil k2
  obtain rfl : args = #[v0, v1, v2] := by cases args; simp_all
  obtain ⟨rfl, rfl⟩ := trodVars_none hV
  obtain ⟨x1, rfl, hw1⟩ := open_intW (d := d1) (p := q1) (H := H) Try.underlying5 (hval 1 5 v1 rfl rfl)
  obtain ⟨x2, rfl, hw2⟩ := open_intW (d := d2) (p := q2) (H := H) Try.underlying5 (hval 2 5 v2 rfl rfl)
  obtain ⟨Wd, Ht, Mx, a, px, c, rfl, hs0, hn0⟩ := open_ras (hval 0 _ v0 rfl rfl) h0
  refine Calls.mono (CD.out (LInvariant_ok hn0 (List.Mem.head _) (u8_of hw1) (u8_of hw2)) (Mem.startS (Mem.start W) hs0)) ?_
  rintro e W' ⟨v, rfl, hE, rfl⟩
  simp only [List.append_nil] at hW' hA1
  refine ⟨_, rfl, _, _, _, [], _, [], hW', trodAll_cons_mk (shut_bool Try.underlying4 _) trodAll_mk0, trodAll_stay laidOut hE.below _ _ _ _ readable (fun x hx => hW'.lt x hx) hA1, rfl, hE.below.frame _, fun h => by cases h⟩

theorem over : Rows.cornerInvariantRow.holds Try.pinned (OpenSpec.ofChange Rows.cornerInvariantSpec) :=
  OpenClaim.holds_of_wide 8 Try.f8 rfl rfl rfl rfl rfl rfl rfl ⟨rfl, rfl, rfl, rfl, rfl⟩ rfl rfl rfl rfl rfl (by kernel_rfl) Try.func8 (by kernel_rfl)
    (of_decide_eq_true (by kernel_rfl)) (by unfold Func.isWrapper; first | (rw [if_pos (by decide +kernel)]; kernel_rfl) | (rw [if_neg (by decide +kernel)]; exact ⟨rfl, rfl⟩))
    (fun os started H enc _ => lifted os started H enc)

/-- the statement -/
theorem proved : Rows.CornerInvariantSaid :=
  over
#print axioms proved
end Go.Proofs.Ytfkciihgncfemaa.cornerInvariant
