/- The law ResectSlopes, for every input: the call returns true, and nothing that was there has turned. No condition. -/
import Derived.Test.YteghpnkhlfkigaaGreatRows
import Derived.WalkKit
import Derived.ProofKit
import Derived.OpenShut
import Derived.SizedLaws
import Derived.Test.YteghpnkhlfkigaaGreatZrsac
import Derived.Test.YteghpnkhlfkigaaGreatZrsbv
namespace Go.Proofs.YteghpnkhlfkigaaGreat.resectSlopes
open Go.ChangeShapes Go.WideShapes Go.ChangeAt Go.RowKit Go.Fx
set_option linter.unusedVariables false

theorem own : ownKnob Tryz.prog.godebug = none := by kernel_rfl
theorem laidOut : laidOutB Tryz.prog = true := by kernel_rfl
theorem readable : ∀ t ∈ Tryz.f3.params.toList, Tryz.prog.readableRec t = true ∧ t < Tryz.prog.types.size := by
  rw [Tryz.params3]
  intro t ht
  simp only [List.mem_cons, List.not_mem_nil, or_false] at ht
  rcases ht with rfl | rfl | rfl
  · exact ⟨by kernel_rfl, of_decide_eq_true (by kernel_rfl)⟩
  · exact ⟨by kernel_rfl, of_decide_eq_true (by kernel_rfl)⟩
  · exact ⟨by kernel_rfl, of_decide_eq_true (by kernel_rfl)⟩
set_option maxHeartbeats 800000 in
set_option maxRecDepth 100000 in
theorem lifted (os : Os) (started : os.Started) (H : Type) (enc : TypeId × Value → H) :
    ReturnsInHanded {} Tryz.checked os 3 .any (Rows.resectSlopesSpec.pre6 enc Tryz.prog Tryz.f3 Rows.resectSlopesRow.domain false) (Rows.resectSlopesSpec.post enc Tryz.prog Tryz.f3 false true false false) := by
  refine returnsInHanded_of_change_sized (C := Tryz.checked) own started (by kernel_rfl) Tryz.func3
    (ChangeSpec.witness6 (enc := enc) (C := Tryz.checked) false ⟨#[], #[.agg #[.bool false, .slice none 0 0, .bool false, .slice none 0 0, .bool false, .slice none 0 0, .bool false, .slice none 0 0], .agg #[.bool false, .slice none 0 0, .bool false, .slice none 0 0, .bool false, .slice none 0 0, .bool false, .slice none 0 0], .agg #[.bool false, .slice none 0 0, .bool false, .slice none 0 0, .bool false, .slice none 0 0, .bool false, .slice none 0 0]], []⟩ 8 (by kernel_rfl) (by kernel_rfl) (by kernel_rfl) (by kernel_rfl)) ?_
  intro W base args ds gs before hval0 hW _ hwt _
  have hval : ∀ (j : Nat) t v, Tryz.f3.params[j]? = some t → args[j]? = some v → Value.okWide Tryz.prog W .any base t v := hval0
  have hW' := hW
  obtain ⟨p, q, hA0, hV, rfl, _, _⟩ := hW
  have hA : DataW.TrodAll enc Tryz.prog W 0 (fun _ => true) true Tryz.f3.params.toList args.toList ds p := hA0
  have hA1 := hA
  rw [Tryz.params3] at hA hval
  obtain ⟨v0, vs0, d0, ds0, q0, r0, hargs, rfl, rfl, h0, k0⟩ := trodAll_cons hA
  obtain ⟨v1, vs1, d1, ds1, q1, r1, rfl, rfl, rfl, h1, k1⟩ := trodAll_cons k0
  obtain ⟨v2, vs2, d2, ds2, q2, r2, rfl, rfl, rfl, h2, k2⟩ := trodAll_cons k1
  rw [Tryz.params3] at hwt
  obtain ⟨rfl, rfl, rfl⟩ := trodAll_nil k2
  obtain rfl : args = #[v0, v1, v2] := by cases args; simp_all
  obtain ⟨rfl, rfl⟩ := trodVars_none hV
  obtain ⟨pw0, rfl, i0, e0⟩ := open_place (hval 0 _ v0 rfl rfl) h0 (weights_at (j := 0) hwt rfl rfl)
  obtain ⟨pw1, rfl, i1, e1⟩ := open_place (hval 1 _ v1 rfl rfl) h1 (weights_at (j := 1) hwt rfl rfl)
  obtain ⟨pw2, rfl, i2, e2⟩ := open_place (hval 2 _ v2 rfl rfl) h2 (weights_at (j := 2) hwt rfl rfl)
  refine Calls.mono (CD.out (CD.mono (LSlopes_ok ⟨e0, e1, e2⟩ (Hv.mem (List.Mem.tail _ (List.Mem.tail _ (List.Mem.head _)))) (Hv.mem (List.Mem.tail _ (List.Mem.head _))) (Hv.mem (List.Mem.head _))) (fun _ _ _ h => h.2.2)) ((((Mem.start W).add (φ := isPW pw0) i0).add (φ := isPW pw1) i1).add (φ := isPW pw2) i2)) ?_
  rintro e W' ⟨v, rfl, hE, rfl⟩
  simp only [List.append_nil] at hW' hA1
  refine ⟨_, rfl, _, _, _, [], _, [], hW', trodAll_cons_mk (shut_bool Tryz.underlying4 _) trodAll_mk0, trodAll_stay laidOut hE.below _ _ _ _ readable (fun x hx => hW'.lt x hx) hA1, rfl, hE.below.frame _, fun h => by cases h⟩

theorem over : Rows.resectSlopesRow.holds Tryz.pinned (OpenSpec.ofChange Rows.resectSlopesSpec) :=
  OpenClaim.holds_of_wide 3 Tryz.f3 rfl rfl rfl rfl rfl rfl rfl ⟨rfl, rfl, rfl, rfl, rfl⟩ rfl rfl rfl rfl rfl (by kernel_rfl) Tryz.func3 (by kernel_rfl)
    (of_decide_eq_true (by kernel_rfl)) (by unfold Func.isWrapper; first | (rw [if_pos (by decide +kernel)]; kernel_rfl) | (rw [if_neg (by decide +kernel)]; exact ⟨rfl, rfl⟩))
    (fun os started H enc _ => lifted os started H enc)

/-- the statement -/
theorem proved : Rows.ResectSlopesSaid :=
  over
#print axioms proved
end Go.Proofs.YteghpnkhlfkigaaGreat.resectSlopes
