/- The law NeighbourSearches, for every input: the call returns true, and nothing that was there has turned. No condition. -/
import Derived.Test.YtefkpnhhmjdcnaaRows
import Derived.WalkKit
import Derived.ProofKit
import Derived.OpenShut
import Derived.Test.YtefkpnhhmjdcnaaFo
import Derived.Test.YtefkpnhhmjdcnaaPh
namespace Go.Proofs.Ytefkpnhhmjdcnaa.neighbourSearches
open Go.ChangeShapes Go.WideShapes Go.ChangeAt Go.RowKit Go.Fx
set_option linter.unusedVariables false

theorem own : ownKnob Try.prog.godebug = none := by kernel_rfl
theorem laidOut : laidOutB Try.prog = true := by kernel_rfl
theorem readable : ∀ t ∈ Try.f10.params.toList, Try.prog.readableRec t = true ∧ t < Try.prog.types.size := by
  rw [Try.params10]
  intro t ht
  simp only [List.mem_cons, List.not_mem_nil, or_false] at ht
  rcases ht with rfl | rfl | rfl
  · exact ⟨by kernel_rfl, of_decide_eq_true (by kernel_rfl)⟩
  · exact ⟨by kernel_rfl, of_decide_eq_true (by kernel_rfl)⟩
  · exact ⟨by kernel_rfl, of_decide_eq_true (by kernel_rfl)⟩
set_option maxHeartbeats 800000 in
set_option maxRecDepth 100000 in
theorem lifted (os : Os) (started : os.Started) (H : Type) (enc : TypeId × Value → H) :
    ReturnsInHanded {} Try.checked os 10 .any (Rows.neighbourSearchesSpec.pre6 enc Try.prog Try.f10 Rows.neighbourSearchesRow.domain false) (Rows.neighbourSearchesSpec.post enc Try.prog Try.f10 false true false false) := by
  refine returnsInHanded_of_change (C := Try.checked) own started (by kernel_rfl) Try.func10
    (ChangeSpec.witness6 (enc := enc) (C := Try.checked) false ⟨#[], #[.slice none 0 0, .slice none 0 0, .int .u64 0], []⟩ 8 (by kernel_rfl) (by kernel_rfl) (by kernel_rfl) (by kernel_rfl)) ?_
  intro W base args ds gs before hval0 hW _ _
  have hval : ∀ (j : Nat) t v, Try.f10.params[j]? = some t → args[j]? = some v → Value.okWide Try.prog W .any base t v := hval0
  have hW' := hW
  obtain ⟨p, q, hA0, hV, rfl, _, _⟩ := hW
  have hA : DataW.TrodAll enc Try.prog W 0 (fun _ => true) true Try.f10.params.toList args.toList ds p := hA0
  have hA1 := hA
  rw [Try.params10] at hA hval
  obtain ⟨v0, vs0, d0, ds0, q0, r0, hargs, rfl, rfl, h0, k0⟩ := trodAll_cons hA
  obtain ⟨v1, vs1, d1, ds1, q1, r1, rfl, rfl, rfl, h1, k1⟩ := trodAll_cons k0
  obtain ⟨v2, vs2, d2, ds2, q2, r2, rfl, rfl, rfl, h2, k2⟩ := trodAll_cons k1
  obtain ⟨rfl, rfl, rfl⟩ := trodAll_nil k2
  obtain rfl : args = #[v0, v1, v2] := by cases args; simp_all
  obtain ⟨rfl, rfl⟩ := trodVars_none hV
  obtain ⟨p0, l0, c0, rfl, hl0, hw0, hn0, hc0, hok0⟩ := open_sliceI Try.underlying26 Try.underlying22 (by kernel_rfl) (hval 0 26 v0 rfl rfl) h0
  obtain ⟨x2, rfl, hw2⟩ := open_intW (d := d2) (p := q2) (H := H) Try.underlying22 (hval 2 22 v2 rfl rfl)
  obtain ⟨p1, t1, c1, rfl, hs1, hn1⟩ := open_vs (hval 1 _ v1 rfl rfl) h1
  refine Calls.mono (CD.out (LSearches_ok hn0 hn1 (List.Mem.tail _ (List.Mem.head _)) (List.Mem.head _) (W64_of (fun x hx => u64_of (hw0 x hx))) (u64_of hw2)) (Mem.startS (Mem.startI (Mem.start W) hl0) hs1)) ?_
  rintro e W' ⟨v, rfl, hE, rfl⟩
  simp only [List.append_nil] at hW' hA1
  refine ⟨_, rfl, _, _, _, [], _, [], hW', trodAll_cons_mk (shut_bool Try.underlying4 _) trodAll_mk0, trodAll_stay laidOut hE.below _ _ _ _ readable (fun x hx => hW'.lt x hx) hA1, rfl, hE.below.frame _, fun h => by cases h⟩

theorem over : Rows.neighbourSearchesRow.holds Try.pinned (OpenSpec.ofChange Rows.neighbourSearchesSpec) :=
  OpenClaim.holds_of_wide 10 Try.f10 rfl rfl rfl rfl rfl rfl rfl ⟨rfl, rfl, rfl, rfl, rfl⟩ rfl rfl rfl rfl rfl (by kernel_rfl) Try.func10 (by kernel_rfl)
    (of_decide_eq_true (by kernel_rfl)) (by unfold Func.isWrapper; first | (rw [if_pos (by decide +kernel)]; kernel_rfl) | (rw [if_neg (by decide +kernel)]; exact ⟨rfl, rfl⟩))
    (fun os started H enc _ => lifted os started H enc)

/-- the statement -/
theorem proved : Rows.NeighbourSearchesSaid :=
  over
#print axioms proved
end Go.Proofs.Ytefkpnhhmjdcnaa.neighbourSearches
