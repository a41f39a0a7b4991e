/- The law MatrixDeterminants, walked. -/
import Derived.Test.YtdmlebigkakplaaGreatZmbx
import Derived.Test.YtdmlebigkakplaaGreatZmbi
set_option linter.unusedSimpArgs false
set_option linter.unusedVariables false
namespace Go.Proofs.YtdmlebigkakplaaGreat
open Go Go.Fx
theorem dimL_q {A : MX} {R C : Nat} (h : A.dim R C) : dimL A.q R C := ⟨by simp [h.1], fun i hi => by rw [rowAt_q (by have := h.1; omega)]; simp [h.row hi]⟩
theorem kb5 {n : Nat} (h : n ≤ 5) : kb 30 n ≤ 31061 := Nat.le_trans (kb_mono 30 h) (by decide)
theorem kb6 {n : Nat} (h : n ≤ 5) : kb 366 n ≤ 400000 := Nat.le_trans (kb_mono 366 h) (by decide)
theorem hD5 {n : Nat} (h1 : 1 ≤ n) (h : n ≤ 5) : hD 30 n ≤ 100000 := by
  have : n = 1 ∨ n = 2 ∨ n = 3 ∨ n = 4 ∨ n = 5 := by omega
  rcases this with rfl | rfl | rfl | rfl | rfl <;> decide
theorem det_mul {A B p : MX} {n : Nat} (hA : A.dim n n) (hp : p.q = mkM n n (fun i j => sm n (fun t => at2 A.q i t * at2 B.q t j))) : dt n (at2 p.q) = dt n (at2 A.q) * dt n (at2 B.q) := by
  obtain ⟨_, s, hr⟩ := redN_red (dimL_q hA) n (Nat.le_refl _)
  rw [← hr.mul (Nat.le_refl _)]
  exact dt_congr (fun i j hi hj => by rw [hp, mkM_at hi hj]; rfl)
section
variable {X : List Nat} {w0 : World} {M0 : List Ent} {I0 : List Imm}
theorem rZero_z : CD Tryz.prog 19 [.agg zRm.toArray] X w0 M0 I0 (fun v M I => M0 = M ∧ I0 = I ∧ v = .bool true) := by
  refine enterD1 Tryz.func19 rfl Tryz.ntmps19 rfl ?_
  refine TD_seq ?_
  refine TD_region ?_
  (refine RD_boxA rfl rfl rfl ?_; intro b; refine ⟨okF, ?_⟩)
  repeat (refine wXh ?_)
  refine ND_ret1 (by first | exact .inl rfl | exact .inr rfl) rfl rfl _ _ subF incF (⟨rfl, rfl, congrArg Value.bool (B_true (by omega))⟩)
set_option maxRecDepth 100000 in
set_option maxHeartbeats 4000000 in
theorem LDet_ok {a b : WM} (ha : isWM a ∈ I0) (hb : isWM b ∈ I0) : CD Tryz.prog 7 [mvW a, mvW b] X w0 M0 I0 (fun v M I => M0 = M ∧ I0 = I ∧ v = .bool true) := by
  refine xCD_fact (fun w hw => Mem.fitM ha hw) (fun fa => xCD_fact (fun w hw => Mem.fitM hb hw) (fun fb => ?_))
  have hF := fun q M0 I0 h1 h2 => few_ok (X := X) (w0 := w0) (M0 := M0) (I0 := I0) (q := q) (c := 2) (ms := [a, b]) (by simp) h1 h2
  have hf2 : (∀ m ∈ [a, b], m.sht) ↔ a.sht ∧ b.sht := by simp
  refine enterD2 Tryz.func7 rfl Tryz.ntmps7 rfl ?_
  repeat (refine wXh ?_)
  (refine RD_callS rfl (known05_ok) rfl rfl ?_; rintro _ _ _ ⟨rfl, rfl, rfl⟩; refine ⟨okF, ?_⟩)
  repeat (refine wXh ?_)
  (refine RD_vals (cs := recs eWM [a, b]) ([mvW a, mvW b]) rfl rfl (by intro v hv; repeat (first | exact absurd hv (List.not_mem_nil) | (rcases List.mem_cons.1 hv with rfl | hv; · rfl))) (by omega) rfl rfl rfl ?_; intro c1; refine ⟨okF, ?_⟩)
  refine RD_freezeB .here ?_
  refine RD_hv (φ := allWM [a, b]) (Hv.wm2 memF memF) ?_
  (refine RD_callS rfl (hF _ _ _ memF memF) rfl rfl ?_; rintro _ _ _ ⟨rfl, rfl, rfl⟩; refine ⟨okF, ?_⟩)
  by_cases hs : a.sht ∧ b.sht
  rotate_left
  · rw [B_false (fun h => hs (hf2.1 h))]
    repeat (refine wXh ?_)
    refine ND_ret1 (by first | exact .inl rfl | exact .inr rfl) rfl rfl _ _ subF incF (⟨rfl, rfl, rfl⟩)
  rw [B_true (hf2.2 hs)]
  by_cases ha5 : a.rows.length ≤ 5
  rotate_left
  · repeat (refine wXh ?_)
    refine ND_ret1 (by first | exact .inl rfl | exact .inr rfl) rfl rfl _ _ subF incF (⟨rfl, rfl, rfl⟩)
  by_cases hb5 : b.rows.length ≤ 5
  rotate_left
  · repeat (refine wXh ?_)
    refine ND_ret1 (by first | exact .inl rfl | exact .inr rfl) rfl rfl _ _ subF incF (⟨rfl, rfl, rfl⟩)
  clear hF hf2
  obtain ⟨hsa, hsb⟩ := hs
  have sa := hsa.sml
  have sb := hsb.sml
  have hC1 := fun q M0 I0 h1 h2 => code05_ok (X := X) (w0 := w0) (M0 := M0) (I0 := I0) (q := q) (c := 1) (ms := [a]) (by simp) (fun m hm => by simp at hm; subst hm; assumption) h1 h2
  rw [code_1] at hC1
  refine RD_hv (φ := slI a.p (recs eWL a.rows)) (Hv.wmsl memF) ?_
  refine RD_hv (φ := allWM [a]) (Hv.wm1 memF) ?_
  repeat (refine wXh ?_)
  by_cases hoa : a.ok
  · by_cases hsq : a.rows.length = (gt a.rows 0).es.length
    · skip
      obtain ⟨A, eA, fA⟩ := ok_raw fa hoa
      rw [← hsq] at fA
      obtain ⟨ra1, ra2⟩ := fA.2.1
      have hk5 := kb5 ha5
      have hd5 := hD5 ra1 ha5
      rw [WM.code_ok hoa] at hC1
      have hdet := fun M0 I0 h1 => XDeterminant_ok (X := X) (w0 := w0) (M0 := M0) (I0 := I0) (a := A) (n := a.rows.length) (k0 := 30) (by omega) (by omega) fA h1
      have hR := fun M0 I0 h1 => rDet_ok (X := X) (w0 := w0) (M0 := M0) (I0 := I0) (m := A) a.rows.length (k0 := 30) (by omega) (by omega) (by omega) fA.1 h1
      rw [← mv_raw A, ← eA] at hdet hR
      refine RD_hv (φ := isX A 30) (Hv.shtX eA hsa memF) ?_
      (refine RD_callS rfl (hdet _ _ memF) rfl rfl ?_; rintro _ _ _ ⟨rfl, x, rfl, hx, rfl⟩; refine ⟨okF, ?_⟩)
      repeat (refine wXh ?_)
      (refine RD_alloc rfl rfl ?_; intro b5; refine ⟨okF, ?_⟩)
      repeat (refine wXh ?_)

      (refine RD_vals (cs := recs eWM [a]) ([mvW a]) rfl rfl (by intro v hv; repeat (first | exact absurd hv (List.not_mem_nil) | (rcases List.mem_cons.1 hv with rfl | hv; · rfl))) (by omega) rfl rfl rfl ?_; intro c5; refine ⟨okF, ?_⟩)
      refine RD_freezeB .here ?_
      (refine RD_callS rfl (hC1 _ _ _ memF memF) rfl rfl ?_; rintro _ _ _ ⟨rfl, rfl, rfl⟩; refine ⟨okF, ?_⟩)
      repeat (refine wXh ?_)

      (repeat refine TD_seq ?_); refine TD_drawn [0, 1, 2, 3, 4, 5, 6, 7, 8] [2, 2, 0, 1, 1, 0, 0, 0, 0] mixed (by kernel_rfl) ?_
      repeat (refine wXh ?_)
      (refine RD_callS rfl (hR _ _ memF) rfl rfl ?_; rintro _ _ _ ⟨rfl, x2, rfl, hx2, rfl⟩; refine ⟨okF, ?_⟩)
      repeat (refine wXh ?_)
      have hS := fun M0 I0 h1 h2 => rSame_ok (X := X) (w0 := w0) (M0 := M0) (I0 := I0) (a := x) (b := x2) (k := kb 30 a.rows.length) (m := hD 30 a.rows.length) (by omega) h1 h2
      rw [B_true (show x.q = x2.q by rw [hx, hx2])] at hS
      (refine RD_callS rfl (hS _ _ (Hv.mem memF) (Hv.mem memF)) rfl rfl ?_; rintro _ _ _ ⟨rfl, rfl, rfl⟩; refine ⟨okF, ?_⟩)
      repeat (refine wXh ?_)
      by_cases hob : b.ok
      · have hok2 := hob
        by_cases hsqb : b.rows.length = (gt b.rows 0).es.length
        · skip
          obtain ⟨B, eB, fB⟩ := ok_raw fb hob
          refine RD_hv (φ := isX B 30) (Hv.shtX eB hsb memF) ?_

          rw [← hsqb] at fB
          have hkb := kb5 hb5
          have hDb := fun M0 I0 h1 => XDeterminant_ok (X := X) (w0 := w0) (M0 := M0) (I0 := I0) (a := B) (n := b.rows.length) (k0 := 30) (by omega) (by omega) fB h1
          rw [← mv_raw B, ← eB] at hDb
          (refine RD_callS rfl (hDb _ _ memF) rfl rfl ?_; rintro _ _ _ ⟨rfl, y, rfl, hy, rfl⟩; refine ⟨okF, ?_⟩)
          repeat (refine wXh ?_)
          (refine RD_alloc rfl rfl ?_; intro b8; refine ⟨okF, ?_⟩)
          repeat (refine wXh ?_)
          by_cases hrn : a.rows.length = b.rows.length
          · skip
            rw [← hrn] at hy hkb

            rw [← hrn] at fB
            have hM := fun M0 I0 h1 h2 => XMul_ok (X := X) (w0 := w0) (M0 := M0) (I0 := I0) (a := A) (b := B) (k := 30) (m := 30) (by omega) (by omega) fA fB h1 h2
            rw [← mv_raw A, ← mv_raw B, ← eA, ← eB] at hM
            (refine RD_callS rfl (hM _ _ memF memF) rfl rfl ?_; rintro _ _ _ ⟨rfl, p, rfl, hp, hpd, rfl⟩; refine ⟨okF, ?_⟩)
            repeat (refine wXh ?_)

            have hk6 := kb6 ha5
            have hDp := fun M0 I0 h1 => XDeterminant_ok (X := X) (w0 := w0) (M0 := M0) (I0 := I0) (a := p) (n := a.rows.length) (k0 := 366) (by omega) (by omega) ⟨hpd, ⟨ra1, ra2⟩, ra1, ra2⟩ h1
            refine RD_hv (φ := isX p 366) (Hv.xm (k := a.rows.length * (30 + 30 + 1)) memF (by omega)) ?_
            (refine RD_callS rfl (hDp _ _ memF) rfl rfl ?_; rintro _ _ _ ⟨rfl, z, rfl, hz, rfl⟩; refine ⟨okF, ?_⟩)
            repeat (refine wXh ?_)
            (refine RD_alloc rfl rfl ?_; intro b12; refine ⟨okF, ?_⟩)
            repeat (refine wXh ?_)
            (repeat refine TD_seq ?_); refine TD_drawn [0, 1, 2, 3, 4, 5, 6, 7, 8, 9] [2, 2, 0, 1, 1, 1, 0, 0, 0, 0] mixed (by kernel_rfl) ?_
            repeat (refine wXh ?_)
            refine RD_hv (φ := isR y (kb 30 a.rows.length)) (by rw [hrn]; exact Hv.mem memF) ?_
            (refine RD_callS rfl (rQMul_ok (a := x) (b := y) (k := kb 30 a.rows.length) (m := kb 30 a.rows.length) (by omega) (Hv.mem memF) (Hv.mem memF)) rfl rfl ?_; rintro _ _ _ ⟨rfl, xy, rfl, hxy, rfl⟩; refine ⟨okF, ?_⟩)
            repeat (refine wXh ?_)
            have hS2 := fun M0 I0 h1 h2 => rSame_ok (X := X) (w0 := w0) (M0 := M0) (I0 := I0) (a := z) (b := xy) (k := kb 366 a.rows.length) (m := kb 30 a.rows.length + kb 30 a.rows.length) (by omega) h1 h2
            rw [B_true (show z.q = xy.q by rw [hz, hxy, hx, hy]; exact det_mul fA.1 hp)] at hS2
            (refine RD_callS rfl (hS2 _ _ (Hv.mem memF) (Hv.mem memF)) rfl rfl ?_; rintro _ _ _ ⟨rfl, rfl, rfl⟩; refine ⟨okF, ?_⟩)
            repeat (refine wXh ?_)
            refine ND_ret1 (by first | exact .inl rfl | exact .inr rfl) rfl rfl _ _ subF incF (⟨rfl, rfl, rfl⟩)
          · have hm0 : mulC a b = 4 := by unfold mulC; rw [if_pos ⟨hoa, hob⟩, if_neg (by omega)]
            have hM := fun M0 I0 h1 h2 => XMul_bad (X := X) (w0 := w0) (M0 := M0) (I0 := I0) (a := a) (b := b) sa sb (by rw [hm0]; decide) h1 h2
            rw [hm0] at hM
            (refine RD_callS rfl (hM _ _ memF memF) rfl rfl ?_; rintro _ _ _ ⟨rfl, rfl, rfl⟩; refine ⟨okF, ?_⟩)
            repeat (refine wXh ?_)
            refine ND_ret1 (by first | exact .inl rfl | exact .inr rfl) rfl rfl _ _ subF incF (⟨rfl, rfl, rfl⟩)
        · have hqb : sqC b = 4 := by unfold sqC; rw [if_pos hob, if_neg hsqb]
          have hDb := fun M0 I0 h1 => XDeterminant_bad (X := X) (w0 := w0) (M0 := M0) (I0 := I0) (a := b) sb (by rw [hqb]; decide) h1
          rw [hqb] at hDb
          (refine RD_callS rfl (hDb _ _ memF) rfl rfl ?_; rintro _ _ _ ⟨rfl, rfl, rfl⟩; refine ⟨okF, ?_⟩)
          repeat (refine wXh ?_)
          (refine RD_alloc rfl rfl ?_; intro b8; refine ⟨okF, ?_⟩)
          repeat (refine wXh ?_)
          by_cases hrn : a.rows.length = b.rows.length
          · skip
            obtain ⟨B, eB, fB⟩ := ok_raw fb hob
            refine RD_hv (φ := isX B 30) (Hv.shtX eB hsb memF) ?_

            rw [← hrn] at fB
            have hM := fun M0 I0 h1 h2 => XMul_ok (X := X) (w0 := w0) (M0 := M0) (I0 := I0) (a := A) (b := B) (k := 30) (m := 30) (by omega) (by omega) fA fB h1 h2
            rw [← mv_raw A, ← mv_raw B, ← eA, ← eB] at hM
            (refine RD_callS rfl (hM _ _ memF memF) rfl rfl ?_; rintro _ _ _ ⟨rfl, p, rfl, hp, hpd, rfl⟩; refine ⟨okF, ?_⟩)
            repeat (refine wXh ?_)
            refine ND_ret1 (by first | exact .inl rfl | exact .inr rfl) rfl rfl _ _ subF incF (⟨rfl, rfl, rfl⟩)
          · have hm0 : mulC a b = 4 := by unfold mulC; rw [if_pos ⟨hoa, hob⟩, if_neg (by omega)]
            have hM := fun M0 I0 h1 h2 => XMul_bad (X := X) (w0 := w0) (M0 := M0) (I0 := I0) (a := a) (b := b) sa sb (by rw [hm0]; decide) h1 h2
            rw [hm0] at hM
            (refine RD_callS rfl (hM _ _ memF memF) rfl rfl ?_; rintro _ _ _ ⟨rfl, rfl, rfl⟩; refine ⟨okF, ?_⟩)
            repeat (refine wXh ?_)
            refine ND_ret1 (by first | exact .inl rfl | exact .inr rfl) rfl rfl _ _ subF incF (⟨rfl, rfl, rfl⟩)
      · have hqb : sqC b = 1 := by unfold sqC; rw [if_neg hob]
        have hDb := fun M0 I0 h1 => XDeterminant_bad (X := X) (w0 := w0) (M0 := M0) (I0 := I0) (a := b) sb (by rw [hqb]; decide) h1
        rw [hqb] at hDb
        (refine RD_callS rfl (hDb _ _ memF) rfl rfl ?_; rintro _ _ _ ⟨rfl, rfl, rfl⟩; refine ⟨okF, ?_⟩)
        repeat (refine wXh ?_)
        (refine RD_alloc rfl rfl ?_; intro b8; refine ⟨okF, ?_⟩)
        repeat (refine wXh ?_)
        have hm0 : mulC a b = 1 := by unfold mulC; rw [if_neg (fun e => hob e.2)]
        have hM := fun M0 I0 h1 h2 => XMul_bad (X := X) (w0 := w0) (M0 := M0) (I0 := I0) (a := a) (b := b) sa sb (by rw [hm0]; decide) h1 h2
        rw [hm0] at hM
        (refine RD_callS rfl (hM _ _ memF memF) rfl rfl ?_; rintro _ _ _ ⟨rfl, rfl, rfl⟩; refine ⟨okF, ?_⟩)
        repeat (refine wXh ?_)
        refine ND_ret1 (by first | exact .inl rfl | exact .inr rfl) rfl rfl _ _ subF incF (⟨rfl, rfl, rfl⟩)
    · rw [WM.code_ok hoa] at hC1
      have hq : sqC a = 4 := by unfold sqC; rw [if_pos hoa, if_neg hsq]
      obtain ⟨q1, q2, q3, q4⟩ := hoa.1
      have hdet := fun M0 I0 h1 => XDeterminant_bad (X := X) (w0 := w0) (M0 := M0) (I0 := I0) (a := a) sa (by rw [hq]; decide) h1
      rw [hq] at hdet
      (refine RD_callS rfl (hdet _ _ memF) rfl rfl ?_; rintro _ _ _ ⟨rfl, rfl, rfl⟩; refine ⟨okF, ?_⟩)
      repeat (refine wXh ?_)
      (refine RD_alloc rfl rfl ?_; intro b5; refine ⟨okF, ?_⟩)
      repeat (refine wXh ?_)

      (refine RD_vals (cs := recs eWM [a]) ([mvW a]) rfl rfl (by intro v hv; repeat (first | exact absurd hv (List.not_mem_nil) | (rcases List.mem_cons.1 hv with rfl | hv; · rfl))) (by omega) rfl rfl rfl ?_; intro c5; refine ⟨okF, ?_⟩)
      refine RD_freezeB .here ?_
      (refine RD_callS rfl (hC1 _ _ _ memF memF) rfl rfl ?_; rintro _ _ _ ⟨rfl, rfl, rfl⟩; refine ⟨okF, ?_⟩)
      repeat (refine wXh ?_)

      (refine RD_callS rfl (rZero_z) rfl rfl ?_; rintro _ _ _ ⟨rfl, rfl, rfl⟩; refine ⟨okF, ?_⟩)
      repeat (refine wXh ?_)
      refine ND_ret1 (by first | exact .inl rfl | exact .inr rfl) rfl rfl _ _ subF incF (⟨rfl, rfl, rfl⟩)
  · rw [WM.code_no hoa] at hC1
    have hq : sqC a = 1 := by unfold sqC; rw [if_neg hoa]
    have hdet := fun M0 I0 h1 => XDeterminant_bad (X := X) (w0 := w0) (M0 := M0) (I0 := I0) (a := a) sa (by rw [hq]; decide) h1
    rw [hq] at hdet
    (refine RD_callS rfl (hdet _ _ memF) rfl rfl ?_; rintro _ _ _ ⟨rfl, rfl, rfl⟩; refine ⟨okF, ?_⟩)
    repeat (refine wXh ?_)
    (refine RD_alloc rfl rfl ?_; intro b5; refine ⟨okF, ?_⟩)
    repeat (refine wXh ?_)

    (refine RD_vals (cs := recs eWM [a]) ([mvW a]) rfl rfl (by intro v hv; repeat (first | exact absurd hv (List.not_mem_nil) | (rcases List.mem_cons.1 hv with rfl | hv; · rfl))) (by omega) rfl rfl rfl ?_; intro c5; refine ⟨okF, ?_⟩)
    refine RD_freezeB .here ?_
    (refine RD_callS rfl (hC1 _ _ _ memF memF) rfl rfl ?_; rintro _ _ _ ⟨rfl, rfl, rfl⟩; refine ⟨okF, ?_⟩)
    repeat (refine wXh ?_)

    (refine RD_callS rfl (rZero_z) rfl rfl ?_; rintro _ _ _ ⟨rfl, rfl, rfl⟩; refine ⟨okF, ?_⟩)
    repeat (refine wXh ?_)
    refine ND_ret1 (by first | exact .inl rfl | exact .inr rfl) rfl rfl _ _ subF incF (⟨rfl, rfl, rfl⟩)
end
end Go.Proofs.YtdmlebigkakplaaGreat
