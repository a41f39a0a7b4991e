/- The arguments of the laws of Consensus, opened. -/
import Derived.Test.YtjbhdfpjnjedhaaGreatZnbo
import Derived.Test.YtjbhdfpjnjedhaaGreatZnbh
set_option linter.unusedSimpArgs false
set_option linter.unusedVariables false
set_option maxRecDepth 100000
set_option maxHeartbeats 4000000
namespace Go.Proofs.YtjbhdfpjnjedhaaGreat
open Go Go.Fx
open Go.ChangeShapes Go.WideShapes Go.RowKit Go.ChangeAt
section
variable {H : Type} {enc : TypeId × Value → H} {W : World}
theorem aQP {n : Nat} {cs : List Value} {y : DataW H × List MemPlace} (hl : cs.length = 2) (h : DataW.trod enc Tryz.prog W 0 (fun _ => true) true n 56 cs = some y) : ∃ a b : Int, cs = [.int .i64 a, .int .i64 b] := by
 obtain ⟨xs, rfl, hx, _⟩ := aNA (k := .i64) (m := 2) Tryz.underlying56 (by kernel_rfl) (by intro f hf; simp at hf; rcases hf with rfl | rfl <;> exact Tryz.underlying3) hl h
 obtain ⟨a, b, rfl⟩ := aUM hx
 exact ⟨a, b, rfl⟩
theorem aUQ {n : Nat} {cs : List Value} {y : DataW H × List MemPlace} (h : DataW.trod enc Tryz.prog W 0 (fun _ => true) true n 65 cs = some y) : ∃ s : Q4, cs = kG s ∧ True := by
 obtain ⟨hl, n', z0, z1, h0, h1⟩ := aAC (t0 := 56) (t1 := 56) (m := 2) (k := 2) Tryz.underlying65 (by rfl) (by kernel_rfl) (by kernel_rfl) (by kernel_rfl) h
 obtain ⟨a, b, e0⟩ := aQP (by rw [List.length_take]; omega) h0
 obtain ⟨c, d, e1⟩ := aQP (by rw [List.length_drop]; omega) h1
 refine ⟨⟨a, b, c, d⟩, ?_, trivial⟩
 rw [← List.take_append_drop 2 cs, e0, e1]
 rfl
theorem aOJ {base : Nat} {v : Value} {d : DataW H} {p : List MemPlace} (hv : Value.okWide Tryz.prog W .any base 22 v) (h : DataW.Trod enc Tryz.prog W 0 (fun _ => true) true 22 v d p) : ∃ (a : Option Addr) (ps : List Q4) (c : Nat), v = .slice a ps.length c ∧ Sl [] W a (recs kG ps) ∧ (ps.length : Int) ≤ 9223372036854775807 := by
 obtain ⟨a, ms, c, e, s, m, l, k, _⟩ := aGB (en := kG) (Pm := fun _ => True) Tryz.underlying22 (fun r n y _ hy => aUQ hy) hv h
 exact ⟨a, ms, c, e, s, l⟩
end
end Go.Proofs.YtjbhdfpjnjedhaaGreat
