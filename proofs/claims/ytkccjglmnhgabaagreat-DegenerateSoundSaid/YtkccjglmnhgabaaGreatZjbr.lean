/- A proof of a rank, opened, with sizes. -/
import Derived.Test.YtkccjglmnhgabaaGreatZjbq
import Derived.Test.YtkccjglmnhgabaaGreatZjbl
set_option linter.unusedSimpArgs false
set_option linter.unusedVariables false
set_option maxRecDepth 100000
set_option maxHeartbeats 4000000
namespace Go.Proofs.YtkccjglmnhgabaaGreat
open Go Go.Fx
open Go.ChangeShapes Go.WideShapes Go.RowKit Go.ChangeAt
section
variable {H : Type} {enc : TypeId × Value → H} {P : Program} {W : World}
theorem aOE {tr t0 t1 t2 t3 : TypeId} {fr : Array Field} {m k l j n : Nat} {cs : List Value} {y : DataW H × List MemPlace} (hr : P.underlying tr = some (.struct fr)) (hfr : fr.toList.map (fun f => (f.offset, f.type)) = [(0, t0), (m, t1), (m + k, t2), (m + k + l, t3)]) (cm : P.cellsOf t0 = m) (ck : P.cellsOf t1 = k) (cl : P.cellsOf t2 = l) (cj : P.cellsOf t3 = j) (c5 : P.cellsOf tr = m + k + l + j) (h : DataW.trod enc P W 0 (fun _ => true) true n tr cs = some y) (hw : ∀ z ∈ y.1.weights P tr, z ≤ reachBytes) :
  cs.length = m + k + l + j ∧ ∃ n' z0 z1 z2 z3, DataW.trod enc P W 0 (fun _ => true) true n' t0 (cs.take m) = some z0 ∧ DataW.trod enc P W 0 (fun _ => true) true n' t1 ((cs.drop m).take k) = some z1 ∧ DataW.trod enc P W 0 (fun _ => true) true n' t2 ((cs.drop (m + k)).take l) = some z2 ∧ DataW.trod enc P W 0 (fun _ => true) true n' t3 (cs.drop (m + k + l)) = some z3 ∧ (∀ z ∈ z0.1.weights P t0, z ≤ reachBytes) ∧ (∀ z ∈ z1.1.weights P t1, z ≤ reachBytes) ∧ (∀ z ∈ z2.1.weights P t2, z ≤ reachBytes) ∧ (∀ z ∈ z3.1.weights P t3, z ≤ reachBytes) := by
 obtain ⟨zs, n', rfl, rfl, hl, hzl, hz⟩ := DataW.trod_struct hr h
 have hsz : fr.toList.length = 4 := by have := congrArg List.length hfr; simpa using this
 obtain ⟨f0, f1, f2, f3, hfs⟩ : ∃ f0 f1 f2 f3, fr.toList = [f0, f1, f2, f3] := by
  match hh : fr.toList, hsz with
  | [a, b, c, d], _ => exact ⟨a, b, c, d, rfl⟩
 rw [hfs] at hfr
 simp only [List.map_cons, List.map_nil, List.cons.injEq, Prod.mk.injEq, and_true] at hfr
 obtain ⟨⟨o0, e0⟩, ⟨o1, e1⟩, ⟨o2, e2⟩, o3, e3⟩ := hfr
 rw [c5] at hl
 have hg0 : fr[0]? = some f0 := by rw [← Array.getElem?_toList, hfs]; rfl
 have hg1 : fr[1]? = some f1 := by rw [← Array.getElem?_toList, hfs]; rfl
 have hg2 : fr[2]? = some f2 := by rw [← Array.getElem?_toList, hfs]; rfl
 have hg3 : fr[3]? = some f3 := by rw [← Array.getElem?_toList, hfs]; rfl
 have h0 := hz 0 f0 hg0
 have h1 := hz 1 f1 hg1
 have h2 := hz 2 f2 hg2
 have h3 := hz 3 f3 hg3
 rw [o0, e0, cm] at h0
 rw [o1, e1, ck] at h1
 rw [o2, e2, cl] at h2
 rw [o3, e3, cj] at h3
 have hz2 : zs.length = 4 := by rw [hzl]; simpa using hsz
 obtain ⟨z0, z1, z2, z3, rfl⟩ : ∃ z0 z1 z2 z3, zs = [z0, z1, z2, z3] := by
  match zs, hz2 with
  | [a, b, c, d], _ => exact ⟨a, b, c, d, rfl⟩
 simp only [List.drop_zero, List.getElem?_cons_zero, List.getElem?_cons_succ] at h0 h1 h2 h3
 rw [List.take_of_length_le (l := cs.drop (m + k + l)) (by simp; omega)] at h3
 have hww : ∀ x ∈ DataW.weights P t0 z0.1 ++ (DataW.weights P t1 z1.1 ++ (DataW.weights P t2 z2.1 ++ DataW.weights P t3 z3.1)), x ≤ reachBytes := fun x hx => hw x (by simp [DataW.weights, hr, hfs, DataW.weightsEach, e0, e1, e2, e3]; simpa using hx)
 exact ⟨hl, n', z0, z1, z2, z3, h0, h1, h2, h3, fun x hx => hww x (List.mem_append.2 (.inl hx)), fun x hx => hww x (List.mem_append.2 (.inr (List.mem_append.2 (.inl hx)))), fun x hx => hww x (List.mem_append.2 (.inr (List.mem_append.2 (.inr (List.mem_append.2 (.inl hx)))))), fun x hx => hww x (List.mem_append.2 (.inr (List.mem_append.2 (.inr (List.mem_append.2 (.inr hx))))))⟩
end
section
variable {H : Type} {enc : TypeId × Value → H} {W : World}
theorem aRC {n : Nat} {cs : List Value} {y : DataW H × List MemPlace} (h : DataW.trod enc Tryz.prog W 0 (fun _ => true) true n 53 cs = some y) (hw : ∀ z ∈ y.1.weights Tryz.prog 53, z ≤ reachBytes) : ∃ (a : Option Addr) (l : List Int) (c : Nat), cs = [.slice a l.length c] ∧ Sl [] W a (recs eZ l) ∧ (l.length : Int) ≤ 9223372036854775807 := by
 obtain ⟨a, ms, c, e, hs, hm, hl0, hc, hl⟩ := tX (en := eZ) (Pm := fun _ => True) Tryz.underlying53 (by rw [show Tryz.prog.cellsOf 3 = 1 by kernel_rfl]; decide) (fun r n y _ hy hw => by
  obtain ⟨x, rfl, _⟩ := aLE Tryz.underlying3 hy
  exact ⟨x, rfl, trivial⟩) h hw
 exact ⟨a, ms, c, e, hs, hl0⟩
theorem aLM {base : Nat} {v : Value} {d : DataW H} {p : List MemPlace} (hv : Value.okWide Tryz.prog W .any base 55 v) (h : DataW.Trod enc Tryz.prog W 0 (fun _ => true) true 55 v d p) (hw : ∀ x ∈ d.weights Tryz.prog 55, x ≤ reachBytes) :
  ∃ m : KW, v = vKW m ∧ IsKW m [] W ∧ m.kn.rch ∧ m.d.reach := by
 simp only [Value.okWide, Tryz.underlying55] at hv
 obtain ⟨cs, rfl, hsz, hrow⟩ := hv
 obtain ⟨fuel, hf⟩ := h
 obtain ⟨hl, n', z0, z1, z2, z3, h0, h1, h2, h3, hw0, hw1, hw2, hw3⟩ := aOE (t0 := 53) (t1 := 53) (t2 := 37) (t3 := 28) (m := 1) (k := 1) (l := 4) (j := 1) Tryz.underlying55 (by rfl) (by kernel_rfl) (by kernel_rfl) (by kernel_rfl) (by kernel_rfl) (by kernel_rfl) (show DataW.trod enc Tryz.prog W 0 (fun _ => true) true fuel 55 cs.toList = some (d, p) from hf) hw
 obtain ⟨a0, l0, c0, e0, i0, b0⟩ := aRC h0 hw0
 obtain ⟨a1, l1, c1, e1, i1, b1⟩ := aRC h1 hw1
 obtain ⟨r, e2, i2, r2⟩ := aIT h2 hw2
 obtain ⟨q, e3, i3, r3⟩ := aIJ h3 hw3
 refine ⟨⟨l0, l1, a0, c0, a1, c1, r, q⟩, ?_, ⟨⟨i0⟩, ⟨i1⟩, i2, i3, b0, b1⟩, r3, r2⟩
 have e : cs.toList = [.slice a0 l0.length c0, .slice a1 l1.length c1] ++ (eW r ++ [yI q]) := by
  rw [← List.take_append_drop 1 cs.toList, e0]
  have t1 : cs.toList.drop 1 = [.slice a1 l1.length c1] ++ cs.toList.drop (1 + 1) := by
   rw [← List.take_append_drop 1 (cs.toList.drop 1), e1, List.drop_drop]
  have t2 : cs.toList.drop (1 + 1) = eW r ++ cs.toList.drop (1 + 1 + 4) := by
   rw [← List.take_append_drop 4 (cs.toList.drop (1 + 1)), e2, List.drop_drop]
  rw [t1, t2, e3]
  rfl
 rw [show cs = cs.toList.toArray by simp, e]
end
end Go.Proofs.YtkccjglmnhgabaaGreat
