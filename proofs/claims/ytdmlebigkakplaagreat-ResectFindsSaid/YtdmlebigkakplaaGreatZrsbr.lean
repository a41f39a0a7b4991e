/- Arguments of chapter 30, opened. The law ResectFinds: every case; its arguments opened. -/
import Derived.Test.YtdmlebigkakplaaGreatZrsbm
import Derived.SizedLaws
import Derived.Test.YtdmlebigkakplaaGreatZrsbq
set_option linter.unusedSimpArgs false
set_option linter.unusedVariables false
namespace Go.Proofs.YtdmlebigkakplaaGreat
open Go Go.Fx
open Go.ChangeShapes Go.WideShapes Go.RowKit Go.ChangeAt
section
variable {H : Type} {enc : TypeId × Value → H} {P : Program} {W : World}
theorem weights_at {ts : List TypeId} {ds : List (DataW H)} (h : (DataW.weightsEach P ts ds).all (· ≤ reachBytes) = true) {j : Nat} {t : TypeId} {d : DataW H} (ht : ts[j]? = some t) (hd : ds[j]? = some d) : ∀ x ∈ d.weights P t, x ≤ reachBytes := by
  induction ts generalizing ds j with
  | nil => simp at ht
  | cons t' ts ih =>
    cases ds with
    | nil => simp at hd
    | cons d' ds =>
      simp only [DataW.weightsEach, List.all_append, Bool.and_eq_true] at h
      cases j with
      | zero =>
        simp at ht hd
        subst ht; subst hd
        intro x hx
        exact of_decide_eq_true (List.all_eq_true.1 h.1 x hx)
      | succ j => exact ih h.2 (by simpa using ht) (by simpa using hd)
theorem dec_two {tr t : TypeId} {fr : Array Field} {m n : Nat} {cs : List Value} {y : DataW H × List MemPlace} (hr : P.underlying tr = some (.struct fr)) (hfr : fr.toList.map (fun f => (f.offset, f.type)) = [(0, t), (m, t)]) (cm : P.cellsOf t = m) (c5 : P.cellsOf tr = m + m) (h : DataW.trod enc P W 0 (fun _ => true) true n tr cs = some y) (hw : ∀ x ∈ y.1.weights P tr, x ≤ reachBytes) :
    cs.length = m + m ∧ ∃ n' z0 z1, DataW.trod enc P W 0 (fun _ => true) true n' t (cs.take m) = some z0 ∧ DataW.trod enc P W 0 (fun _ => true) true n' t (cs.drop m) = some z1 ∧ (∀ x ∈ z0.1.weights P t, x ≤ reachBytes) ∧ (∀ x ∈ z1.1.weights P t, x ≤ reachBytes) := by
  obtain ⟨zs, n', rfl, rfl, hl, hzl, hz⟩ := DataW.trod_struct hr h
  have hsz : fr.toList.length = 2 := by have := congrArg List.length hfr; simpa using this
  obtain ⟨f0, f1, hfs⟩ : ∃ f0 f1, fr.toList = [f0, f1] := by
    match hh : fr.toList, hsz with
    | [a, b], _ => exact ⟨a, b, rfl⟩
  rw [hfs] at hfr
  simp only [List.map_cons, List.map_nil, List.cons.injEq, Prod.mk.injEq, and_true] at hfr
  obtain ⟨⟨o0, t0⟩, o1, t1⟩ := hfr
  rw [c5] at hl
  have hg0 : fr[0]? = some f0 := by rw [← Array.getElem?_toList, hfs]; rfl
  have hg1 : fr[1]? = some f1 := by rw [← Array.getElem?_toList, hfs]; rfl
  have h0 := hz 0 f0 hg0
  have h1 := hz 1 f1 hg1
  rw [o0, t0, cm] at h0
  rw [o1, t1, cm] at h1
  have hz2 : zs.length = 2 := by rw [hzl]; simpa using hsz
  obtain ⟨z0, z1, rfl⟩ : ∃ z0 z1, zs = [z0, z1] := by
    match zs, hz2 with
    | [a, b], _ => exact ⟨a, b, rfl⟩
  simp only [List.drop_zero, List.getElem?_cons_zero, List.getElem?_cons_succ] at h0 h1
  rw [List.take_of_length_le (l := cs.drop m) (by simp; omega)] at h1
  have hww : ∀ x ∈ DataW.weights P t z0.1 ++ DataW.weights P t z1.1, x ≤ reachBytes := fun x hx => hw x (by simp [DataW.weights, hr, hfs, DataW.weightsEach, t0, t1]; simpa using hx)
  exact ⟨hl, n', z0, z1, h0, h1, fun x hx => hww x (List.mem_append.2 (.inl hx)), fun x hx => hww x (List.mem_append.2 (.inr hx))⟩
end
section
variable {H : Type} {enc : TypeId × Value → H} {W : World}
set_option maxRecDepth 100000 in
theorem dec_rat {base n : Nat} {cs : List Value} {y : DataW H × List MemPlace} (hv : ∀ j v, cs[j]? = some v → j % 2 = 1 → Cell.okWide Tryz.prog W .any base 22 v) (h : DataW.trod enc Tryz.prog W 0 (fun _ => true) true n 26 cs = some y) (hw : ∀ x ∈ y.1.weights Tryz.prog 26, x ≤ reachBytes) : ∃ r : RW, cs = eW r ∧ IsW r [] W ∧ r.reach :=
  dec_R (tb := 4) (ts := 22) (te := 180) (t := 24) (tr := 26) Tryz.underlying26 (by rfl) Tryz.underlying24 (by rfl) Tryz.underlying4 Tryz.underlying22 Tryz.underlying180 (by kernel_rfl) (by kernel_rfl) (by kernel_rfl) (by kernel_rfl) (by kernel_rfl) (by kernel_rfl) hv h hw
set_option maxRecDepth 100000 in
theorem dec_place {base n : Nat} {cs : List Value} {y : DataW H × List MemPlace} (hv : ∀ j v, cs[j]? = some v → j % 2 = 1 → Cell.okWide Tryz.prog W .any base 22 v) (h : DataW.trod enc Tryz.prog W 0 (fun _ => true) true n 28 cs = some y) (hw : ∀ x ∈ y.1.weights Tryz.prog 28, x ≤ reachBytes) : ∃ q : PW, cs = ePW q ∧ IsPW q [] W ∧ q.reach := by
  obtain ⟨hl, n', z0, z1, h0, h1, w0, w1⟩ := dec_two (t := 26) (m := 4) Tryz.underlying28 (by rfl) (by kernel_rfl) (by kernel_rfl) h hw
  obtain ⟨a, ea, ia, ra⟩ := dec_rat (base := base) (fun j v hj ho => hv j v (by rw [List.getElem?_take] at hj; split at hj; exact hj; cases hj) ho) h0 w0
  obtain ⟨b, eb, ib, rb⟩ := dec_rat (base := base) (fun j v hj ho => hv (4 + j) v (by rw [List.getElem?_drop] at hj; exact hj) (by omega)) h1 w1
  exact ⟨⟨a, b⟩, by rw [← List.take_append_drop 4 cs, ea, eb]; rfl, ⟨ia, ib⟩, ra, rb⟩
set_option maxRecDepth 100000 in
theorem open_place {base : Nat} {v : Value} {d : DataW H} {p : List MemPlace} (hv : Value.okWide Tryz.prog W .any base 28 v) (h : DataW.Trod enc Tryz.prog W 0 (fun _ => true) true 28 v d p) (hw : ∀ x ∈ d.weights Tryz.prog 28, x ≤ reachBytes) : ∃ q : PW, v = pvW q ∧ IsPW q [] W ∧ q.reach := by
  simp only [Value.okWide, Tryz.underlying28] at hv
  obtain ⟨cs, rfl, hsz, hrow⟩ := hv
  obtain ⟨fuel, hf⟩ := h
  obtain ⟨q, e, i, r⟩ := dec_place (base := base) (cs := cs.toList) (y := (d, p)) (row_odd (L := [4, 22, 4, 22, 4, 22, 4, 22]) (by kernel_rfl) (by rw [hsz]; kernel_rfl) (by rfl) hrow) hf hw
  refine ⟨q, ?_, i, r⟩
  rw [show cs = cs.toList.toArray by simp, e]
end
end Go.Proofs.YtdmlebigkakplaaGreat
namespace Go.Proofs.YtdmlebigkakplaaGreat
open Go Go.Fx
open Go.ChangeShapes Go.WideShapes Go.RowKit Go.ChangeAt
section
variable {H : Type} {enc : TypeId × Value → H} {W : World}
theorem weightsAll_mem {P : Program} {e : TypeId} {ds : List (DataW H)} {d : DataW H} (h : d ∈ ds) {x : Nat} (hx : x ∈ d.weights P e) : x ∈ DataW.weightsAll P e ds := by
  induction ds with
  | nil => cases h
  | cons a r ih =>
    simp only [DataW.weightsAll, List.mem_append]
    rcases List.mem_cons.1 h with rfl | h
    · exact .inl hx
    · exact .inr (ih h)
set_option maxRecDepth 100000 in
theorem open_place3 {base : Nat} {v : Value} {d : DataW H} {p : List MemPlace} (hv : Value.okWide Tryz.prog W .any base 39 v) (h : DataW.Trod enc Tryz.prog W 0 (fun _ => true) true 39 v d p) (hw : ∀ x ∈ d.weights Tryz.prog 39, x ≤ reachBytes) :
    ∃ p0 p1 p2 : PW, v = .agg (recs ePW [p0, p1, p2]).toArray ∧ (IsPW p0 [] W ∧ p0.reach) ∧ (IsPW p1 [] W ∧ p1.reach) ∧ (IsPW p2 [] W ∧ p2.reach) := by
  simp only [Value.okWide, Tryz.underlying39] at hv
  obtain ⟨cs, rfl, hsz, hrow⟩ := hv
  obtain ⟨fuel, hf⟩ := h
  have hodd := row_odd (base := base) (ts := 22) (L := [4, 22, 4, 22, 4, 22, 4, 22, 4, 22, 4, 22, 4, 22, 4, 22, 4, 22, 4, 22, 4, 22, 4, 22]) (by kernel_rfl) (by rw [hsz]; kernel_rfl) (by rfl) hrow
  have hc8 : Tryz.prog.cellsOf 28 = 8 := by kernel_rfl
  have hc24 : Tryz.prog.cellsOf 39 = 24 := by kernel_rfl
  obtain ⟨xs, n, _, hy, hl, hxl, hx⟩ := DataW.trod_array Tryz.underlying39 (show DataW.trod enc Tryz.prog W 0 (fun _ => true) true fuel 39 cs.toList = some (d, p) from hf)
  injection hy with hd hp
  subst hd
  rw [hc24] at hl
  have each : ∀ i : Nat, i < 3 → ∃ q : PW, (cs.toList.drop (i * 8)).take 8 = ePW q ∧ IsPW q [] W ∧ q.reach := fun i hi => by
    have h1 := hx i hi
    rw [hc8, List.getElem?_eq_getElem (by omega)] at h1
    refine dec_place (base := base) (fun j v hj ho => hodd (i * 8 + j) v ?_ (by omega)) h1 (fun x hxw => hw x ?_)
    · rw [List.getElem?_take] at hj
      split at hj
      · rwa [List.getElem?_drop] at hj
      · cases hj
    · simp only [DataW.weights, Tryz.underlying39]
      exact weightsAll_mem (List.mem_map.2 ⟨_, List.getElem_mem _, rfl⟩) hxw
  obtain ⟨p0, e0, i0, r0⟩ := each 0 (by omega)
  obtain ⟨p1, e1, i1, r1⟩ := each 1 (by omega)
  obtain ⟨p2, e2, i2, r2⟩ := each 2 (by omega)
  refine ⟨p0, p1, p2, ?_, ⟨i0, r0⟩, ⟨i1, r1⟩, i2, r2⟩
  have e : cs.toList = ePW p0 ++ (ePW p1 ++ ePW p2) := by
    rw [← e0, ← e1, ← e2]
    simp only [Nat.zero_mul, List.drop_zero, Nat.one_mul]
    rw [List.take_of_length_le (l := cs.toList.drop (2 * 8)) (by simp at hl ⊢; omega)]
    have a1 : (cs.toList.drop 8).take 8 ++ cs.toList.drop (2 * 8) = cs.toList.drop 8 := by
      have := List.take_append_drop 8 (cs.toList.drop 8)
      rwa [List.drop_drop] at this
    rw [a1, List.take_append_drop]
  rw [show cs = cs.toList.toArray by simp, e]
  rfl
end
section
variable {X : List Nat} {w0 : World} {M0 : List Ent} {I0 : List Imm}
theorem LFinds_ok {c f p0 p1 p2 : PW} (hr : c.reach ∧ f.reach ∧ p0.reach ∧ p1.reach ∧ p2.reach) (hc : Hv I0 (isPW c)) (hf : Hv I0 (isPW f)) (h0 : Hv I0 (isPW p0)) (h1 : Hv I0 (isPW p1)) (h2 : Hv I0 (isPW p2)) :
    CD Tryz.prog 4 [pvW c, pvW f, .agg (recs ePW [p0, p1, p2]).toArray] X w0 M0 I0 (fun v M I => M0 = M ∧ I0 = I ∧ v = .bool true) := by
  have fit : ∀ {q : PW}, Hv I0 (isPW q) → ∀ w, Mem X w0 M0 I0 w → q.x.Fit ∧ q.y.Fit := fun h w hw => by
    have a := h.go _ _ (fun ψ hm => (hw.imm ψ hm).2)
    exact ⟨a.x.fit, a.y.fit⟩
  refine CD_fact (fun w hw => fit hc w hw) (fun gc => CD_fact (fun w hw => fit hf w hw) (fun gf => CD_fact (fun w hw => fit h0 w hw) (fun g0 => CD_fact (fun w hw => fit h1 w hw) (fun g1 => CD_fact (fun w hw => fit h2 w hw) (fun g2 => ?_)))))
  by_cases hb : (∀ x ∈ [c, f], x.dig ≤ 8) ∧ (∀ x ∈ [p0, p1, p2], x.dig ≤ 8) ∧ (∀ x ∈ [c, f], x.good) ∧ (∀ x ∈ [p0, p1, p2], x.good)
  · obtain ⟨k1, k2, k3, k4⟩ := hb
    obtain ⟨c, rfl⟩ := PW.good_raw gc.1 gc.2 (k3 c (by simp))
    obtain ⟨f, rfl⟩ := PW.good_raw gf.1 gf.2 (k3 f (by simp))
    obtain ⟨p0, rfl⟩ := PW.good_raw g0.1 g0.2 (k4 p0 (by simp))
    obtain ⟨p1, rfl⟩ := PW.good_raw g1.1 g1.2 (k4 p1 (by simp))
    obtain ⟨p2, rfl⟩ := PW.good_raw g2.1 g2.2 (k4 p2 (by simp))
    exact LF_ok k1 k2 (PE.isP_raw hc (k1 _ (by simp))) (PE.isP_raw hf (k1 _ (by simp))) (PE.isP_raw h0 (k2 _ (by simp))) (PE.isP_raw h1 (k2 _ (by simp))) (PE.isP_raw h2 (k2 _ (by simp)))
  · exact LF_bad hr hc hf h0 h1 h2 hb
end
end Go.Proofs.YtdmlebigkakplaaGreat
