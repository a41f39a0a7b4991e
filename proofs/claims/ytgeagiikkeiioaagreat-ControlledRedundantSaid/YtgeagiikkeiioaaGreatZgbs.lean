/- Models and controls opened, with sizes. -/
import Derived.Test.YtgeagiikkeiioaaGreatZgbi
set_option linter.unusedSimpArgs false
set_option linter.unusedVariables false
set_option maxRecDepth 100000
set_option maxHeartbeats 4000000
namespace Go.Proofs.YtgeagiikkeiioaaGreat
open Go Go.Fx
open Go.ChangeShapes Go.WideShapes Go.RowKit Go.ChangeAt
section
variable {H : Type} {enc : TypeId × Value → H} {P : Program} {W : World}
theorem aPC {tr t0 t1 t2 : TypeId} {fr : Array Field} {m k l n : Nat} {cs : List Value} {y : DataW H × List MemPlace} (hr : P.underlying tr = some (.struct fr)) (hfr : fr.toList.map (fun f => (f.offset, f.type)) = [(0, t0), (m, t1), (m + k, t2)]) (cm : P.cellsOf t0 = m) (ck : P.cellsOf t1 = k) (cl : P.cellsOf t2 = l) (c5 : P.cellsOf tr = m + k + l) (h : DataW.trod enc P W 0 (fun _ => true) true n tr cs = some y) (hw : ∀ z ∈ y.1.weights P tr, z ≤ reachBytes) :
  cs.length = m + k + l ∧ ∃ n' z0 z1 z2, DataW.trod enc P W 0 (fun _ => true) true n' t0 (cs.take m) = some z0 ∧ DataW.trod enc P W 0 (fun _ => true) true n' t1 ((cs.drop m).take k) = some z1 ∧ DataW.trod enc P W 0 (fun _ => true) true n' t2 (cs.drop (m + k)) = some z2 ∧ (∀ z ∈ z0.1.weights P t0, z ≤ reachBytes) ∧ (∀ z ∈ z1.1.weights P t1, z ≤ reachBytes) ∧ (∀ z ∈ z2.1.weights P t2, z ≤ reachBytes) := by
 obtain ⟨zs, n', rfl, rfl, hl, hzl, hz⟩ := DataW.trod_struct hr h
 have hsz : fr.toList.length = 3 := by have := congrArg List.length hfr; simpa using this
 obtain ⟨f0, f1, f2, hfs⟩ : ∃ f0 f1 f2, fr.toList = [f0, f1, f2] := by
  match hh : fr.toList, hsz with
  | [a, b, c], _ => exact ⟨a, b, c, rfl⟩
 rw [hfs] at hfr
 simp only [List.map_cons, List.map_nil, List.cons.injEq, Prod.mk.injEq, and_true] at hfr
 obtain ⟨⟨o0, e0⟩, ⟨o1, e1⟩, o2, e2⟩ := hfr
 rw [c5] at hl
 have hg0 : fr[0]? = some f0 := by rw [← Array.getElem?_toList, hfs]; rfl
 have hg1 : fr[1]? = some f1 := by rw [← Array.getElem?_toList, hfs]; rfl
 have hg2 : fr[2]? = some f2 := by rw [← Array.getElem?_toList, hfs]; rfl
 have h0 := hz 0 f0 hg0
 have h1 := hz 1 f1 hg1
 have h2 := hz 2 f2 hg2
 rw [o0, e0, cm] at h0
 rw [o1, e1, ck] at h1
 rw [o2, e2, cl] at h2
 have hz2 : zs.length = 3 := by rw [hzl]; simpa using hsz
 obtain ⟨z0, z1, z2, rfl⟩ : ∃ z0 z1 z2, zs = [z0, z1, z2] := by
  match zs, hz2 with
  | [a, b, c], _ => exact ⟨a, b, c, rfl⟩
 simp only [List.drop_zero, List.getElem?_cons_zero, List.getElem?_cons_succ] at h0 h1 h2
 rw [List.take_of_length_le (l := cs.drop (m + k)) (by simp; omega)] at h2
 have hww : ∀ x ∈ DataW.weights P t0 z0.1 ++ (DataW.weights P t1 z1.1 ++ DataW.weights P t2 z2.1), x ≤ reachBytes := fun x hx => hw x (by simp [DataW.weights, hr, hfs, DataW.weightsEach, e0, e1, e2]; simpa using hx)
 exact ⟨hl, n', z0, z1, z2, h0, h1, h2, fun x hx => hww x (List.mem_append.2 (.inl hx)), fun x hx => hww x (List.mem_append.2 (.inr (List.mem_append.2 (.inl hx)))), fun x hx => hww x (List.mem_append.2 (.inr (List.mem_append.2 (.inr hx))))⟩
end
section
variable {H : Type} {enc : TypeId × Value → H} {W : World}
theorem aPU {base : Nat} {v : Value} {d : DataW H} {p : List MemPlace} (hv : Value.okWide Tryz.prog W .any base 68 v) (h : DataW.Trod enc Tryz.prog W 0 (fun _ => true) true 68 v d p) (hw : ∀ x ∈ d.weights Tryz.prog 68, x ≤ reachBytes) :
  ∃ m : LW, v = vLW m ∧ IsLW m [] W ∧ m.rch := by
 simp only [Value.okWide, Tryz.underlying68] at hv
 obtain ⟨cs, rfl, hsz, hrow⟩ := hv
 obtain ⟨fuel, hf⟩ := h
 obtain ⟨hl, n', z0, z1, z2, h0, h1, h2, hw0, hw1, hw2⟩ := aPC (t0 := 29) (t1 := 34) (t2 := 34) (m := 1) (k := 1) (l := 1) Tryz.underlying68 (by rfl) (by kernel_rfl) (by kernel_rfl) (by kernel_rfl) (by kernel_rfl) (show DataW.trod enc Tryz.prog W 0 (fun _ => true) true fuel 68 cs.toList = some (d, p) from hf) hw
 obtain ⟨a, e0, i0, r0⟩ := aQV h0 hw0
 obtain ⟨l, e1, i1, r1⟩ := yJ h1 hw1
 obtain ⟨q, e2, i2, r2⟩ := yJ h2 hw2
 refine ⟨⟨a, l, q⟩, ?_, ⟨i0, i1, i2⟩, r0, r1, r2⟩
 have e : cs.toList = [mvW a, vD l, vD q] := by
  rw [← List.take_append_drop 1 cs.toList, e0]
  have : cs.toList.drop 1 = [vD l, vD q] := by
   rw [← List.take_append_drop 1 (cs.toList.drop 1), e1, List.drop_drop, e2]; rfl
  rw [this]; rfl
 rw [show cs = cs.toList.toArray by simp, e]
end
end Go.Proofs.YtgeagiikkeiioaaGreat
