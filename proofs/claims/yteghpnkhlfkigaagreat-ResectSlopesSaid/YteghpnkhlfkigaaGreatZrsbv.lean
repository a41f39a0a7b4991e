/- The law ResectSlopes: every case. Arguments of chapter 30, opened. -/
import Derived.Test.YteghpnkhlfkigaaGreatZrsbu
import Derived.Test.YteghpnkhlfkigaaGreatZrsbs
import Derived.SizedLaws
set_option linter.unusedSimpArgs false
set_option linter.unusedVariables false
namespace Go.Proofs.YteghpnkhlfkigaaGreat
open Go Go.Fx
theorem ahd3 (c f p : V2) : ahd c ⟨3 * f.x, 3 * f.y⟩ p = 3 * ahd c f p := by
  simp only [ahd, V2.dot]
  grind
theorem slp3 (c f p : V2) (h : ahd c f p ≠ 0) : slp c ⟨3 * f.x, 3 * f.y⟩ p = slp c f p := by
  unfold slp
  rw [ahd3]
  have e : (p.sub c).dot (V2.sd ⟨3 * f.x, 3 * f.y⟩) = 3 * (p.sub c).dot f.sd := by
    simp only [V2.dot, V2.sd]; grind
  rw [e]
  generalize ahd c f p = a at *
  generalize (p.sub c).dot f.sd = b at *
  grind
theorem z03 (f : V2) : V2.z0 ⟨3 * f.x, 3 * f.y⟩ ↔ f.z0 := by
  simp only [V2.z0]
  grind
section
variable {X : List Nat} {w0 : World} {M0 : List Ent} {I0 : List Imm}
theorem LSlopes_ok {c f p : PW} (hr : c.reach ∧ f.reach ∧ p.reach) (hc : Hv I0 (isPW c)) (hf : Hv I0 (isPW f)) (hp : Hv I0 (isPW p)) :
    CD Tryz.prog 3 [pvW c, pvW f, pvW p] X w0 M0 I0 (fun v M I => M0 = M ∧ I0 = I ∧ v = .bool true) := by
  refine CD_fact (φ := (c.x.Fit ∧ c.y.Fit) ∧ (f.x.Fit ∧ f.y.Fit) ∧ p.x.Fit ∧ p.y.Fit) (fun w hw => ?_) (fun hF => ?_)
  · have a := hc.go _ _ (fun ψ hm => (hw.imm ψ hm).2)
    have b := hf.go _ _ (fun ψ hm => (hw.imm ψ hm).2)
    have d := hp.go _ _ (fun ψ hm => (hw.imm ψ hm).2)
    exact ⟨⟨a.x.fit, a.y.fit⟩, ⟨b.x.fit, b.y.fit⟩, d.x.fit, d.y.fit⟩
  by_cases hb : (∀ x ∈ [c, f, p], x.dig ≤ 8) ∧ c.good ∧ f.good ∧ p.good
  · obtain ⟨hd, gc, gf, gp⟩ := hb
    obtain ⟨c, rfl⟩ := PW.good_raw hF.1.1 hF.1.2 gc
    obtain ⟨f, rfl⟩ := PW.good_raw hF.2.1.1 hF.2.1.2 gf
    obtain ⟨p, rfl⟩ := PW.good_raw hF.2.2.1 hF.2.2.2 gp
    have kc := PE.isP_raw hc (hd _ (by simp))
    have kf := PE.isP_raw hf (hd _ (by simp))
    have kp := PE.isP_raw hp (hd _ (by simp))
    by_cases hz : f.v.z0
    · refine LSl_err (cd := 13) (.inl rfl) hd kc kf kp (fun M0 I0 h1 h2 h3 => Slope_deg (by decide) h1 h2 h3 hz) (fun M0 I0 h1 h2 h3 => gSlope_deg (by decide) h1 h2 h3 hz) (fun t M0 I0 ht h1 h2 h3 => Slope_deg (by decide) h1 h2 h3 (by rw [ht, z03]; exact hz))
    · have hz3 : ∀ t : PE, t.v = ⟨3 * f.v.x, 3 * f.v.y⟩ → ¬ t.v.z0 := fun t ht => by rw [ht, z03]; exact hz
      have ha3 : ∀ t : PE, t.v = ⟨3 * f.v.x, 3 * f.v.y⟩ → ahd c.v t.v p.v = 3 * ahd c.v f.v p.v := fun t ht => by rw [ht, ahd3]
      by_cases h0 : ahd c.v f.v p.v = 0
      · exact LSl_err (cd := 20) (.inr rfl) hd kc kf kp (fun M0 I0 h1 h2 h3 => Slope_beh (by decide) h1 h2 h3 hz h0) (fun M0 I0 h1 h2 h3 => gSlope_beh (by decide) h1 h2 h3 hz h0) (fun t M0 I0 ht h1 h2 h3 => Slope_beh (by decide) h1 h2 h3 (hz3 t ht) (by rw [ha3 t ht, h0]; grind))
      · have hne3 : ∀ t : PE, t.v = ⟨3 * f.v.x, 3 * f.v.y⟩ → ahd c.v t.v p.v ≠ 0 := fun t ht => by rw [ha3 t ht]; grind
        have hs3 : ∀ t : PE, t.v = ⟨3 * f.v.x, 3 * f.v.y⟩ → slp c.v t.v p.v = slp c.v f.v p.v := fun t ht => by rw [ht, slp3 _ _ _ h0]
        by_cases hp0 : 0 < ahd c.v f.v p.v
        · refine LSl_true (r := slp c.v f.v p.v) hd kc kf kp (fun M0 I0 h1 h2 h3 => ?_) (fun M0 I0 h1 h2 h3 => ?_) (fun t M0 I0 ht h1 h2 h3 => ?_)
          · have hh := Slope_ok (X := X) (w0 := w0) (M0 := M0) (k := 240) (by decide) h1 h2 h3 hz h0
            rw [B_true hp0] at hh; exact hh
          · have hh := gSlope_ok (X := X) (w0 := w0) (M0 := M0) (k := 240) (by decide) h1 h2 h3 hz h0
            rw [B_true hp0] at hh; exact hh
          · have hh := Slope_ok (X := X) (w0 := w0) (M0 := M0) (k := 242) (by decide) h1 h2 h3 (hz3 t ht) (hne3 t ht)
            rw [B_true (show 0 < ahd c.v t.v p.v by rw [ha3 t ht]; grind), hs3 t ht] at hh; exact hh
        · refine LSl_false (r := slp c.v f.v p.v) hd kc kf kp (fun M0 I0 h1 h2 h3 => ?_) (fun M0 I0 h1 h2 h3 => ?_) (fun t M0 I0 ht h1 h2 h3 => ?_)
          · have hh := Slope_ok (X := X) (w0 := w0) (M0 := M0) (k := 240) (by decide) h1 h2 h3 hz h0
            rw [B_false hp0] at hh; exact hh
          · have hh := gSlope_ok (X := X) (w0 := w0) (M0 := M0) (k := 240) (by decide) h1 h2 h3 hz h0
            rw [B_false hp0] at hh; exact hh
          · have hh := Slope_ok (X := X) (w0 := w0) (M0 := M0) (k := 242) (by decide) h1 h2 h3 (hz3 t ht) (hne3 t ht)
            rw [B_false (show ¬ 0 < ahd c.v t.v p.v by rw [ha3 t ht]; grind), hs3 t ht] at hh; exact hh
  · exact LSl_bad hr hc hf hp hb
end
end Go.Proofs.YteghpnkhlfkigaaGreat
namespace Go.Proofs.YteghpnkhlfkigaaGreat
open Go Go.Fx
open Go.ChangeShapes Go.WideShapes Go.RowKit Go.ChangeAt
section
variable {H : Type} {enc : TypeId × Value → H} {P : Program} {W : World}
theorem weights_at {ts : List TypeId} {ds : List (DataW H)} (h : (DataW.weightsEach P ts ds).all (· ≤ reachBytes) = true) {j : Nat} {t : TypeId} {d : DataW H} (ht : ts[j]? = some t) (hd : ds[j]? = some d) : ∀ x ∈ d.weights P t, x ≤ reachBytes := by
  induction ts generalizing ds j with
  | nil => simp at ht
  | cons t' ts ih =>
    cases ds with
    | nil => simp at hd
    | cons d' ds =>
      simp only [DataW.weightsEach, List.all_append, Bool.and_eq_true] at h
      cases j with
      | zero =>
        simp at ht hd
        subst ht; subst hd
        intro x hx
        exact of_decide_eq_true (List.all_eq_true.1 h.1 x hx)
      | succ j => exact ih h.2 (by simpa using ht) (by simpa using hd)
theorem dec_two {tr t : TypeId} {fr : Array Field} {m n : Nat} {cs : List Value} {y : DataW H × List MemPlace} (hr : P.underlying tr = some (.struct fr)) (hfr : fr.toList.map (fun f => (f.offset, f.type)) = [(0, t), (m, t)]) (cm : P.cellsOf t = m) (c5 : P.cellsOf tr = m + m) (h : DataW.trod enc P W 0 (fun _ => true) true n tr cs = some y) (hw : ∀ x ∈ y.1.weights P tr, x ≤ reachBytes) :
    cs.length = m + m ∧ ∃ n' z0 z1, DataW.trod enc P W 0 (fun _ => true) true n' t (cs.take m) = some z0 ∧ DataW.trod enc P W 0 (fun _ => true) true n' t (cs.drop m) = some z1 ∧ (∀ x ∈ z0.1.weights P t, x ≤ reachBytes) ∧ (∀ x ∈ z1.1.weights P t, x ≤ reachBytes) := by
  obtain ⟨zs, n', rfl, rfl, hl, hzl, hz⟩ := DataW.trod_struct hr h
  have hsz : fr.toList.length = 2 := by have := congrArg List.length hfr; simpa using this
  obtain ⟨f0, f1, hfs⟩ : ∃ f0 f1, fr.toList = [f0, f1] := by
    match hh : fr.toList, hsz with
    | [a, b], _ => exact ⟨a, b, rfl⟩
  rw [hfs] at hfr
  simp only [List.map_cons, List.map_nil, List.cons.injEq, Prod.mk.injEq, and_true] at hfr
  obtain ⟨⟨o0, t0⟩, o1, t1⟩ := hfr
  rw [c5] at hl
  have hg0 : fr[0]? = some f0 := by rw [← Array.getElem?_toList, hfs]; rfl
  have hg1 : fr[1]? = some f1 := by rw [← Array.getElem?_toList, hfs]; rfl
  have h0 := hz 0 f0 hg0
  have h1 := hz 1 f1 hg1
  rw [o0, t0, cm] at h0
  rw [o1, t1, cm] at h1
  have hz2 : zs.length = 2 := by rw [hzl]; simpa using hsz
  obtain ⟨z0, z1, rfl⟩ : ∃ z0 z1, zs = [z0, z1] := by
    match zs, hz2 with
    | [a, b], _ => exact ⟨a, b, rfl⟩
  simp only [List.drop_zero, List.getElem?_cons_zero, List.getElem?_cons_succ] at h0 h1
  rw [List.take_of_length_le (l := cs.drop m) (by simp; omega)] at h1
  have hww : ∀ x ∈ DataW.weights P t z0.1 ++ DataW.weights P t z1.1, x ≤ reachBytes := fun x hx => hw x (by simp [DataW.weights, hr, hfs, DataW.weightsEach, t0, t1]; simpa using hx)
  exact ⟨hl, n', z0, z1, h0, h1, fun x hx => hww x (List.mem_append.2 (.inl hx)), fun x hx => hww x (List.mem_append.2 (.inr hx))⟩
end
section
variable {H : Type} {enc : TypeId × Value → H} {W : World}
set_option maxRecDepth 100000 in
theorem dec_rat {base n : Nat} {cs : List Value} {y : DataW H × List MemPlace} (hv : ∀ j v, cs[j]? = some v → j % 2 = 1 → Cell.okWide Tryz.prog W .any base 22 v) (h : DataW.trod enc Tryz.prog W 0 (fun _ => true) true n 26 cs = some y) (hw : ∀ x ∈ y.1.weights Tryz.prog 26, x ≤ reachBytes) : ∃ r : RW, cs = eW r ∧ IsW r [] W ∧ r.reach :=
  dec_R (tb := 4) (ts := 22) (te := 185) (t := 24) (tr := 26) Tryz.underlying26 (by rfl) Tryz.underlying24 (by rfl) Tryz.underlying4 Tryz.underlying22 Tryz.underlying185 (by kernel_rfl) (by kernel_rfl) (by kernel_rfl) (by kernel_rfl) (by kernel_rfl) (by kernel_rfl) hv h hw
set_option maxRecDepth 100000 in
theorem dec_place {base n : Nat} {cs : List Value} {y : DataW H × List MemPlace} (hv : ∀ j v, cs[j]? = some v → j % 2 = 1 → Cell.okWide Tryz.prog W .any base 22 v) (h : DataW.trod enc Tryz.prog W 0 (fun _ => true) true n 28 cs = some y) (hw : ∀ x ∈ y.1.weights Tryz.prog 28, x ≤ reachBytes) : ∃ q : PW, cs = ePW q ∧ IsPW q [] W ∧ q.reach := by
  obtain ⟨hl, n', z0, z1, h0, h1, w0, w1⟩ := dec_two (t := 26) (m := 4) Tryz.underlying28 (by rfl) (by kernel_rfl) (by kernel_rfl) h hw
  obtain ⟨a, ea, ia, ra⟩ := dec_rat (base := base) (fun j v hj ho => hv j v (by rw [List.getElem?_take] at hj; split at hj; exact hj; cases hj) ho) h0 w0
  obtain ⟨b, eb, ib, rb⟩ := dec_rat (base := base) (fun j v hj ho => hv (4 + j) v (by rw [List.getElem?_drop] at hj; exact hj) (by omega)) h1 w1
  exact ⟨⟨a, b⟩, by rw [← List.take_append_drop 4 cs, ea, eb]; rfl, ⟨ia, ib⟩, ra, rb⟩
set_option maxRecDepth 100000 in
theorem open_place {base : Nat} {v : Value} {d : DataW H} {p : List MemPlace} (hv : Value.okWide Tryz.prog W .any base 28 v) (h : DataW.Trod enc Tryz.prog W 0 (fun _ => true) true 28 v d p) (hw : ∀ x ∈ d.weights Tryz.prog 28, x ≤ reachBytes) : ∃ q : PW, v = pvW q ∧ IsPW q [] W ∧ q.reach := by
  simp only [Value.okWide, Tryz.underlying28] at hv
  obtain ⟨cs, rfl, hsz, hrow⟩ := hv
  obtain ⟨fuel, hf⟩ := h
  obtain ⟨q, e, i, r⟩ := dec_place (base := base) (cs := cs.toList) (y := (d, p)) (row_odd (L := [4, 22, 4, 22, 4, 22, 4, 22]) (by kernel_rfl) (by rw [hsz]; kernel_rfl) (by rfl) hrow) hf hw
  refine ⟨q, ?_, i, r⟩
  rw [show cs = cs.toList.toArray by simp, e]
end
end Go.Proofs.YteghpnkhlfkigaaGreat
