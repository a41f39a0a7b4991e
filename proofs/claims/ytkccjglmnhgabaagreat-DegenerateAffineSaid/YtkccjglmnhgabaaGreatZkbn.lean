/- Lists of pairs and of pixels, opened. -/
import Derived.Test.YtkccjglmnhgabaaGreatZkbm
import Derived.Test.YtkccjglmnhgabaaGreatZkbi
import Derived.Test.YtkccjglmnhgabaaGreatZkbh
set_option linter.unusedSimpArgs false
set_option linter.unusedVariables false
set_option maxRecDepth 100000
set_option maxHeartbeats 4000000
namespace Go.Proofs.YtkccjglmnhgabaaGreat
open Go Go.Fx
open Go.ChangeShapes Go.WideShapes Go.RowKit Go.ChangeAt
structure P2 where
 x : Int
 y : Int
instance P2.inh : Inhabited P2 := ⟨⟨0, 0⟩⟩
abbrev eP2 (s : P2) : List Value := [.int .i64 s.x, .int .i64 s.y]
instance P2.szd : Sized eP2 2 := ⟨fun _ => rfl⟩
section
variable {H : Type} {enc : TypeId × Value → H} {W : World}
theorem aII {n : Nat} {cs : List Value} {y : DataW H × List MemPlace} (hl : cs.length = 2) (h : DataW.trod enc Tryz.prog W 0 (fun _ => true) true n 76 cs = some y) : ∃ s : P2, cs = eP2 s ∧ True := by
 obtain ⟨xs, rfl, hx, _⟩ := aHE (k := .i64) (m := 2) Tryz.underlying76 (by kernel_rfl) (by intro f hf; simp at hf; rcases hf with rfl | rfl <;> exact Tryz.underlying3) hl h
 obtain ⟨a, b, rfl⟩ := aWM hx
 exact ⟨⟨a, b⟩, rfl, trivial⟩
theorem aWC {n : Nat} {cs : List Value} {y : DataW H × List MemPlace} (h : DataW.trod enc Tryz.prog W 0 (fun _ => true) true n 78 cs = some y) : ∃ s : S4, cs = vF s ∧ True := by
 obtain ⟨hl, n', z0, z1, h0, h1⟩ := aPL (t0 := 76) (t1 := 76) (m := 2) (k := 2) Tryz.underlying78 (by rfl) (by kernel_rfl) (by kernel_rfl) (by kernel_rfl) h
 obtain ⟨a, e0, _⟩ := aII (by rw [List.length_take]; omega) h0
 obtain ⟨b, e1, _⟩ := aII (by rw [List.length_drop]; omega) h1
 refine ⟨⟨a.x, a.y, b.x, b.y⟩, ?_, trivial⟩
 rw [← List.take_append_drop 2 cs, e0, e1]
 rfl
theorem aSH {base : Nat} {v : Value} {d : DataW H} {p : List MemPlace} (hv : Value.okWide Tryz.prog W .any base 74 v) (h : DataW.Trod enc Tryz.prog W 0 (fun _ => true) true 74 v d p) : ∃ (a : Option Addr) (ps : List S4) (c : Nat), v = .slice a ps.length c ∧ Sl [] W a (recs vF ps) ∧ (ps.length : Int) ≤ 9223372036854775807 := by
 obtain ⟨a, ms, c, e, s, m, l, k, _⟩ := tL (en := vF) (Pm := fun _ => True) Tryz.underlying74 (fun r n y _ hy => aWC hy) hv h
 exact ⟨a, ms, c, e, s, l⟩
theorem aPC {base : Nat} {v : Value} {d : DataW H} {p : List MemPlace} (hv : Value.okWide Tryz.prog W .any base 83 v) (h : DataW.Trod enc Tryz.prog W 0 (fun _ => true) true 83 v d p) : ∃ (a : Option Addr) (ps : List P2) (c : Nat), v = .slice a ps.length c ∧ Sl [] W a (recs eP2 ps) ∧ (ps.length : Int) ≤ 9223372036854775807 := by
 obtain ⟨a, ms, c, e, s, m, l, k, _⟩ := tL (en := eP2) (Pm := fun _ => True) Tryz.underlying83 (fun r n y hl hy => aII (by rw [hl]; kernel_rfl) hy) hv h
 exact ⟨a, ms, c, e, s, l⟩
end
end Go.Proofs.YtkccjglmnhgabaaGreat
