/- The map and the shift of DegenerateMoved, opened. -/
import Derived.Test.YtkccjglmnhgabaaGreatDoorZqbp
import Derived.Test.YtkccjglmnhgabaaGreatDoorZqbn
set_option linter.unusedSimpArgs false
set_option linter.unusedVariables false
set_option maxRecDepth 100000
set_option maxHeartbeats 4000000
namespace Go.Proofs.YtkccjglmnhgabaaGreatDoor
open Go Go.Fx
open Go.ChangeShapes Go.WideShapes Go.RowKit Go.ChangeAt
section
variable {W : World}
theorem aOM {base : Nat} {v : Value} (hv : Value.okWide Tryz.prog W .any base 35 v) : ∃ m0 m1 m2 m3 m4 m5 m6 m7 m8 : Int, v = .agg (([.int .i8 m0, .int .i8 m1, .int .i8 m2, .int .i8 m3, .int .i8 m4, .int .i8 m5, .int .i8 m6, .int .i8 m7, .int .i8 m8] : List Value).toArray) ∧ (-128 ≤ m0 ∧ m0 ≤ 127) ∧ (-128 ≤ m1 ∧ m1 ≤ 127) ∧ (-128 ≤ m2 ∧ m2 ≤ 127) ∧ (-128 ≤ m3 ∧ m3 ≤ 127) ∧ (-128 ≤ m4 ∧ m4 ≤ 127) ∧ (-128 ≤ m5 ∧ m5 ≤ 127) ∧ (-128 ≤ m6 ∧ m6 ≤ 127) ∧ (-128 ≤ m7 ∧ m7 ≤ 127) ∧ (-128 ≤ m8 ∧ m8 ≤ 127) := by
 obtain ⟨xs, rfl, hx, hw⟩ := aCJ (k := .i8) (ts := [33, 33, 33, 33, 33, 33, 33, 33, 33]) (n := 9) (.inr ⟨_, _, Tryz.underlying35⟩) (by kernel_rfl) (by intro u hu; simp at hu; subst hu; exact Tryz.underlying33) (by kernel_rfl) hv
 obtain ⟨m0, m1, m2, m3, m4, m5, m6, m7, m8, rfl⟩ : ∃ m0 m1 m2 m3 m4 m5 m6 m7 m8, xs = [m0, m1, m2, m3, m4, m5, m6, m7, m8] := by
  match xs, hx with
  | [m0, m1, m2, m3, m4, m5, m6, m7, m8], _ => exact ⟨m0, m1, m2, m3, m4, m5, m6, m7, m8, rfl⟩
 have h8 : ∀ {z : Int}, (Lit.int .i8 z).wf = true → -128 ≤ z ∧ z ≤ 127 := fun {z} h => by
  simp only [Lit.wf, Bool.and_eq_true, decide_eq_true_eq] at h
  have h2 := h.1
  have h3 := h.2
  rw [show IntKind.i8.max = 127 by decide] at h3
  rw [show IntKind.i8.min = -128 by decide] at h2
  exact ⟨h2, h3⟩
 exact ⟨m0, m1, m2, m3, m4, m5, m6, m7, m8, rfl, h8 (hw m0 (by simp)), h8 (hw m1 (by simp)), h8 (hw m2 (by simp)), h8 (hw m3 (by simp)), h8 (hw m4 (by simp)), h8 (hw m5 (by simp)), h8 (hw m6 (by simp)), h8 (hw m7 (by simp)), h8 (hw m8 (by simp))⟩
theorem aHP {z : Int} (h : (Lit.int .i16 z).wf = true) : -32768 ≤ z ∧ z ≤ 32767 := by
 simp only [Lit.wf, Bool.and_eq_true, decide_eq_true_eq] at h
 have h2 := h.1
 have h3 := h.2
 rw [show IntKind.i16.max = 32767 by decide] at h3
 rw [show IntKind.i16.min = -32768 by decide] at h2
 exact ⟨h2, h3⟩
end
end Go.Proofs.YtkccjglmnhgabaaGreatDoor
