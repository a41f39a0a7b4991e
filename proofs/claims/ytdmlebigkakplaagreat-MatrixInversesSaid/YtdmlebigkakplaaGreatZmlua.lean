/- The law MatrixInverses, walked. -/
import Derived.Test.YtdmlebigkakplaaGreatZmlmy
import Derived.Test.YtdmlebigkakplaaGreatZmbi
set_option linter.unusedSimpArgs false
set_option linter.unusedVariables false
namespace Go.Proofs.YtdmlebigkakplaaGreat
open Go Go.Fx
section
variable {X : List Nat} {w0 : World} {M0 : List Ent} {I0 : List Imm}
set_option maxRecDepth 100000 in
set_option maxHeartbeats 4000000 in
theorem LInv_ok {a : WM} (ha : isWM a ∈ I0) : CD Tryz.prog 8 [mvW a] X w0 M0 I0 (fun v M I => M0 = M ∧ I0 = I ∧ v = .bool true) := by
  refine xCD_fact (fun w hw => Mem.fitM ha hw) (fun fa => ?_)
  have hF := fun q M0 I0 h1 h2 => few_ok (X := X) (w0 := w0) (M0 := M0) (I0 := I0) (q := q) (c := 1) (ms := [a]) (by simp) h1 h2
  have hf2 : (∀ m ∈ [a], m.sht) ↔ a.sht := by simp
  refine enterD1 Tryz.func8 rfl Tryz.ntmps8 rfl ?_
  repeat (refine wXh ?_)
  (refine RD_callS rfl (known05_ok) rfl rfl ?_; rintro _ _ _ ⟨rfl, rfl, rfl⟩; refine ⟨okF, ?_⟩)
  repeat (refine wXh ?_)
  (refine RD_vals (cs := recs eWM [a]) ([mvW a]) rfl rfl (by intro v hv; repeat (first | exact absurd hv (List.not_mem_nil) | (rcases List.mem_cons.1 hv with rfl | hv; · rfl))) (by omega) rfl rfl rfl ?_; intro c1; refine ⟨okF, ?_⟩)
  refine RD_freezeB .here ?_
  refine RD_hv (φ := allWM [a]) (Hv.wm1 memF) ?_
  (refine RD_callS rfl (hF _ _ _ memF memF) rfl rfl ?_; rintro _ _ _ ⟨rfl, rfl, rfl⟩; refine ⟨okF, ?_⟩)
  by_cases hsa : a.sht
  rotate_left
  · rw [B_false (fun h => hsa (hf2.1 h))]
    repeat (refine wXh ?_)
    refine ND_ret1 (by first | exact .inl rfl | exact .inr rfl) rfl rfl _ _ subF incF (⟨rfl, rfl, rfl⟩)
  rw [B_true (hf2.2 hsa)]
  by_cases ha5 : a.rows.length ≤ 5
  rotate_left
  · repeat (refine wXh ?_)
    refine ND_ret1 (by first | exact .inl rfl | exact .inr rfl) rfl rfl _ _ subF incF (⟨rfl, rfl, rfl⟩)
  clear hF hf2
  have sa := hsa.sml
  have hC1 := fun q M0 I0 h1 h2 => code05_ok (X := X) (w0 := w0) (M0 := M0) (I0 := I0) (q := q) (c := 1) (ms := [a]) (by simp) (fun m hm => by simp at hm; subst hm; assumption) h1 h2
  rw [code_1] at hC1
  refine RD_hv (φ := slI a.p (recs eWL a.rows)) (Hv.wmsl memF) ?_
  repeat (refine wXh ?_)
  by_cases hoa : a.ok
  · by_cases hsq : a.rows.length = (gt a.rows 0).es.length
    · skip
      obtain ⟨A, eA, fA⟩ := ok_raw fa hoa
      rw [← hsq] at fA
      obtain ⟨ra1, ra2⟩ := fA.2.1
      have hk5 := kb5 ha5
      have hd5 := hD5 ra1 ha5
      rw [WM.code_ok hoa] at hC1
      have hI := fun M0 I0 h1 => XInverse_all (X := X) (w0 := w0) (M0 := M0) (I0 := I0) (a := A) (n := a.rows.length) (k0 := 30) (by omega) (by omega) fA h1
      have hR := fun M0 I0 h1 => rDet_ok (X := X) (w0 := w0) (M0 := M0) (I0 := I0) (m := A) a.rows.length (k0 := 30) (by omega) (by omega) (by omega) fA.1 h1
      have hSg := fun (x2 : RE) M0 I0 h1 => rQSign_ok (X := X) (w0 := w0) (M0 := M0) (I0 := I0) (e := x2) (k := hD 30 a.rows.length) (by omega) h1
      rw [← mv_raw A, ← eA] at hI hR
      refine RD_hv (φ := isX A 30) (Hv.shtX eA hsa memF) ?_
      by_cases hd0 : dt a.rows.length (at2 A.q) = 0
      · simp only [if_pos hd0] at hI
        (refine RD_callS rfl (hI _ _ memF) rfl rfl ?_; rintro _ _ _ ⟨rfl, rfl, rfl⟩; refine ⟨okF, ?_⟩)
        repeat (refine wXh ?_)
        (refine RD_vals (cs := recs eWM [a]) ([mvW a]) rfl rfl (by intro v hv; repeat (first | exact absurd hv (List.not_mem_nil) | (rcases List.mem_cons.1 hv with rfl | hv; · rfl))) (by omega) rfl rfl rfl ?_; intro c5; refine ⟨okF, ?_⟩)
        refine RD_freezeB .here ?_
        (refine RD_callS rfl (hC1 _ _ _ memF memF) rfl rfl ?_; rintro _ _ _ ⟨rfl, rfl, rfl⟩; refine ⟨okF, ?_⟩)
        repeat (refine wXh ?_)
        (refine RD_callS rfl (hR _ _ memF) rfl rfl ?_; rintro _ _ _ ⟨rfl, x2, rfl, hx2, rfl⟩; refine ⟨okF, ?_⟩)
        have hs0 : x2.q.num.sign = 0 := (sign0 _).2 (by rw [hx2]; exact hd0)
        have hSg2 := hSg x2
        rw [hs0] at hSg2
        (refine RD_callS rfl (hSg2 _ _ (Hv.mem memF)) rfl rfl ?_; rintro _ _ _ ⟨rfl, rfl, rfl⟩; refine ⟨okF, ?_⟩)
        repeat (refine wXh ?_)
        refine ND_ret1 (by first | exact .inl rfl | exact .inr rfl) rfl rfl _ _ subF incF (⟨rfl, rfl, congrArg Value.bool (B_true rfl)⟩)
      · simp only [if_neg hd0] at hI
        obtain ⟨hm1, hm2⟩ := inv_mul hd0
        generalize hkb : kb 30 a.rows.length = K at *
        (refine RD_callS rfl (hI _ _ memF) rfl rfl ?_; rintro _ _ _ ⟨rfl, b, rfl, hb, hbd, rfl⟩; refine ⟨okF, ?_⟩)
        repeat (refine wXh ?_)
        (refine RD_vals (cs := recs eWM [a]) ([mvW a]) rfl rfl (by intro v hv; repeat (first | exact absurd hv (List.not_mem_nil) | (rcases List.mem_cons.1 hv with rfl | hv; · rfl))) (by omega) rfl rfl rfl ?_; intro c5; refine ⟨okF, ?_⟩)
        refine RD_freezeB .here ?_
        (refine RD_callS rfl (hC1 _ _ _ memF memF) rfl rfl ?_; rintro _ _ _ ⟨rfl, rfl, rfl⟩; refine ⟨okF, ?_⟩)
        repeat (refine wXh ?_)
        (refine RD_callS rfl (hR _ _ memF) rfl rfl ?_; rintro _ _ _ ⟨rfl, x2, rfl, hx2, rfl⟩; refine ⟨okF, ?_⟩)
        have hs0 : ¬ x2.q.num.sign = 0 := fun h => hd0 (by rw [← hx2]; exact (sign0 _).1 h)
        have hSg2 := hSg x2
        generalize x2.q.num.sign = sg1 at *
        (refine RD_callS rfl (hSg2 _ _ (Hv.mem memF)) rfl rfl ?_; rintro _ _ _ ⟨rfl, rfl, rfl⟩; refine ⟨okF, ?_⟩)
        repeat (refine wXh ?_)
        have fb : b.fit a.rows.length a.rows.length := ⟨hbd, ⟨ra1, ra2⟩, ra1, ra2⟩
        have hM1 := fun M0 I0 h1 h2 => XMul_ok (X := X) (w0 := w0) (M0 := M0) (I0 := I0) (a := A) (b := b) (k := 30) (m := K) (by omega) (by omega) fA fb h1 h2
        have hM2 := fun M0 I0 h1 h2 => XMul_ok (X := X) (w0 := w0) (M0 := M0) (I0 := I0) (a := b) (b := A) (k := K) (m := 30) (by omega) (by omega) fb fA h1 h2
        rw [← mv_raw A, ← eA] at hM1 hM2
        (refine RD_callS rfl (hM1 _ _ memF memF) rfl rfl ?_; rintro _ _ _ ⟨rfl, p, rfl, hp, hpd, rfl⟩; refine ⟨okF, ?_⟩)
        repeat (refine wXh ?_)
        (refine RD_callS rfl (hM2 _ _ memF memF) rfl rfl ?_; rintro _ _ _ ⟨rfl, q, rfl, hq, hqd, rfl⟩; refine ⟨okF, ?_⟩)
        repeat (refine wXh ?_)
        have hId := fun M0 I0 => CD_ms (rIdent_own (X := X) (w0 := w0) (M0 := M0) (I0 := I0) (n := a.rows.length) (by omega))
        (refine RD_callS rfl (hId _ _) rfl rfl ?_; rintro _ _ _ ⟨rfl, o, rfl, ho, hod, rfl⟩; refine ⟨okF, ?_⟩)
        repeat (refine wXh ?_)
        (refine RD_callS rfl (XIdentity_ok (n := a.rows.length) (by omega)) rfl rfl ?_; rintro _ _ _ ⟨rfl, i1, rfl, hi1, hi1d, rfl⟩; refine ⟨okF, ?_⟩)
        repeat (refine wXh ?_)
        have hS1 := fun M0 I0 h1 h2 => same05_ok (X := X) (w0 := w0) (M0 := M0) (I0 := I0) (a := i1) (b := o) (k := 0) (m := 0) (by decide) hi1d hod (by omega) h1 h2
        rw [B_true (show i1.q = o.q by rw [hi1, ho])] at hS1
        (refine RD_callS rfl (hS1 _ _ memF memF) rfl rfl ?_; rintro _ _ _ ⟨rfl, rfl, rfl⟩; refine ⟨okF, ?_⟩)
        repeat (refine wXh ?_)
        have hKK : a.rows.length * (30 + K + 1) ≤ 5 * 31092 := Nat.mul_le_mul ha5 (by omega)
        have hKK2 : a.rows.length * (K + 30 + 1) ≤ 5 * 31092 := Nat.mul_le_mul ha5 (by omega)
        have hS2 := fun M0 I0 h1 h2 => same05_ok (X := X) (w0 := w0) (M0 := M0) (I0 := I0) (a := p) (b := o) (k := a.rows.length * (30 + K + 1)) (m := 0) (by omega) hpd hod (by omega) h1 h2
        rw [B_true (show p.q = o.q by rw [hp, ho]; exact mkM_congr (fun i j hi hj => by rw [hb]; exact hm1 i j hi hj))] at hS2
        (refine RD_callS rfl (hS2 _ _ memF memF) rfl rfl ?_; rintro _ _ _ ⟨rfl, rfl, rfl⟩; refine ⟨okF, ?_⟩)
        repeat (refine wXh ?_)
        have hS3 := fun M0 I0 h1 h2 => same05_ok (X := X) (w0 := w0) (M0 := M0) (I0 := I0) (a := q) (b := o) (k := a.rows.length * (K + 30 + 1)) (m := 0) (by omega) hqd hod (by omega) h1 h2
        rw [B_true (show q.q = o.q by rw [hq, ho]; exact mkM_congr (fun i j hi hj => by rw [hb]; exact hm2 i j hi hj))] at hS3
        (refine RD_callS rfl (hS3 _ _ memF memF) rfl rfl ?_; rintro _ _ _ ⟨rfl, rfl, rfl⟩; refine ⟨okF, ?_⟩)
        repeat (refine wXh ?_)
        refine ND_ret1 (by first | exact .inl rfl | exact .inr rfl) rfl rfl _ _ subF incF (⟨rfl, rfl, rfl⟩)
    · rw [WM.code_ok hoa] at hC1
      have hq : sqC a = 4 := by unfold sqC; rw [if_pos hoa, if_neg hsq]
      obtain ⟨q1, q2, q3, q4⟩ := hoa.1
      have hI := fun M0 I0 h1 => XInverse_bad (X := X) (w0 := w0) (M0 := M0) (I0 := I0) (a := a) sa (by rw [hq]; decide) h1
      rw [hq] at hI
      (refine RD_callS rfl (hI _ _ memF) rfl rfl ?_; rintro _ _ _ ⟨rfl, rfl, rfl⟩; refine ⟨okF, ?_⟩)
      repeat (refine wXh ?_)

      (refine RD_vals (cs := recs eWM [a]) ([mvW a]) rfl rfl (by intro v hv; repeat (first | exact absurd hv (List.not_mem_nil) | (rcases List.mem_cons.1 hv with rfl | hv; · rfl))) (by omega) rfl rfl rfl ?_; intro c5; refine ⟨okF, ?_⟩)
      refine RD_freezeB .here ?_
      (refine RD_callS rfl (hC1 _ _ _ memF memF) rfl rfl ?_; rintro _ _ _ ⟨rfl, rfl, rfl⟩; refine ⟨okF, ?_⟩)
      repeat (refine wXh ?_)

      refine ND_ret1 (by first | exact .inl rfl | exact .inr rfl) rfl rfl _ _ subF incF (⟨rfl, rfl, congrArg Value.bool (B_true rfl)⟩)
  · rw [WM.code_no hoa] at hC1
    have hq : sqC a = 1 := by unfold sqC; rw [if_neg hoa]
    have hI := fun M0 I0 h1 => XInverse_bad (X := X) (w0 := w0) (M0 := M0) (I0 := I0) (a := a) sa (by rw [hq]; decide) h1
    rw [hq] at hI
    (refine RD_callS rfl (hI _ _ memF) rfl rfl ?_; rintro _ _ _ ⟨rfl, rfl, rfl⟩; refine ⟨okF, ?_⟩)
    repeat (refine wXh ?_)

    (refine RD_vals (cs := recs eWM [a]) ([mvW a]) rfl rfl (by intro v hv; repeat (first | exact absurd hv (List.not_mem_nil) | (rcases List.mem_cons.1 hv with rfl | hv; · rfl))) (by omega) rfl rfl rfl ?_; intro c5; refine ⟨okF, ?_⟩)
    refine RD_freezeB .here ?_
    (refine RD_callS rfl (hC1 _ _ _ memF memF) rfl rfl ?_; rintro _ _ _ ⟨rfl, rfl, rfl⟩; refine ⟨okF, ?_⟩)
    repeat (refine wXh ?_)

    refine ND_ret1 (by first | exact .inl rfl | exact .inr rfl) rfl rfl _ _ subF incF (⟨rfl, rfl, congrArg Value.bool (B_true rfl)⟩)
end
end Go.Proofs.YtdmlebigkakplaaGreat
