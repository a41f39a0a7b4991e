/- The law MatrixProducts, walked. -/
import Derived.Test.YtdmlebigkakplaaGreatZmbx
import Derived.Test.YtdmlebigkakplaaGreatZmbi
set_option linter.unusedSimpArgs false
set_option linter.unusedVariables false
namespace Go.Proofs.YtdmlebigkakplaaGreat
open Go Go.Fx
section
variable {X : List Nat} {w0 : World} {M0 : List Ent} {I0 : List Imm}
set_option maxRecDepth 100000 in
set_option maxHeartbeats 4000000 in
theorem LProd_ok {a b : WM} {x : WL} (ha : isWM a ∈ I0) (hb : isWM b ∈ I0) (hx : isWL x ∈ I0) : CD Tryz.prog 10 [mvW a, mvW b, lvW x] X w0 M0 I0 (fun v M I => M0 = M ∧ I0 = I ∧ v = .bool true) := by
  refine xCD_fact (fun w hw => Mem.fitM ha hw) (fun fa => xCD_fact (fun w hw => Mem.fitM hb hw) (fun fb => xCD_fact (fun w hw => Mem.fitL hx hw) (fun fx => ?_)))
  have hF := fun q M0 I0 h1 h2 => few_ok (X := X) (w0 := w0) (M0 := M0) (I0 := I0) (q := q) (c := 2) (ms := [a, b]) (by simp) h1 h2
  have hf2 : (∀ m ∈ [a, b], m.sht) ↔ a.sht ∧ b.sht := by simp
  have hSh := fun M0 I0 h1 => mshort_ok (X := X) (w0 := w0) (M0 := M0) (I0 := I0) (r := x) h1
  refine enterD3 Tryz.func10 rfl Tryz.ntmps10 rfl ?_
  repeat (refine wXh ?_)
  (refine RD_callS rfl (known05_ok) rfl rfl ?_; rintro _ _ _ ⟨rfl, rfl, rfl⟩; refine ⟨okF, ?_⟩)
  repeat (refine wXh ?_)
  (refine RD_vals (cs := recs eWM [a, b]) ([mvW a, mvW b]) rfl rfl (by intro v hv; repeat (first | exact absurd hv (List.not_mem_nil) | (rcases List.mem_cons.1 hv with rfl | hv; · rfl))) (by omega) rfl rfl rfl ?_; intro c1; refine ⟨okF, ?_⟩)
  refine RD_freezeB .here ?_
  refine RD_hv (φ := allWM [a, b]) (Hv.wm2 memF memF) ?_
  (refine RD_callS rfl (hF _ _ _ memF memF) rfl rfl ?_; rintro _ _ _ ⟨rfl, rfl, rfl⟩; refine ⟨okF, ?_⟩)
  by_cases hs : a.sht ∧ b.sht
  rotate_left
  · rw [B_false (fun h => hs (hf2.1 h))]
    repeat (refine wXh ?_)
    refine ND_ret1 (by first | exact .inl rfl | exact .inr rfl) rfl rfl _ _ subF incF (⟨rfl, rfl, rfl⟩)
  rw [B_true (hf2.2 hs)]
  repeat (refine wXh ?_)
  (refine RD_callS rfl (hSh _ _ memF) rfl rfl ?_; rintro _ _ _ ⟨rfl, rfl, rfl⟩; refine ⟨okF, ?_⟩)
  by_cases hk : x.sht
  rotate_left
  · rw [B_false hk]
    repeat (refine wXh ?_)
    refine ND_ret1 (by first | exact .inl rfl | exact .inr rfl) rfl rfl _ _ subF incF (⟨rfl, rfl, rfl⟩)
  rw [B_true hk]
  clear hF hf2 hSh
  obtain ⟨hsa, hsb⟩ := hs
  have sa := hsa.sml
  have sb := hsb.sml
  have sx := hk.sml
  have hC1 := fun q M0 I0 h1 h2 => code05_ok (X := X) (w0 := w0) (M0 := M0) (I0 := I0) (q := q) (c := 1) (ms := [a]) (by simp) (fun m hm => by simp at hm; subst hm; assumption) h1 h2
  have hC2 := fun q M0 I0 h1 h2 => code05_ok (X := X) (w0 := w0) (M0 := M0) (I0 := I0) (q := q) (c := 1) (ms := [b]) (by simp) (fun m hm => by simp at hm; subst hm; assumption) h1 h2
  have hVl := fun M0 I0 h1 => rValidList_ok (X := X) (w0 := w0) (M0 := M0) (I0 := I0) (r := x) sx h1
  rw [code_1] at hC1 hC2
  refine RD_hv (φ := slI a.p (recs eWL a.rows)) (Hv.wmsl memF) ?_
  refine RD_hv (φ := allWM [a]) (Hv.wm1 memF) ?_
  refine RD_hv (φ := allWM [b]) (Hv.wm1 memF) ?_
  repeat (refine wXh ?_)
  by_cases hoa : a.ok
  · obtain ⟨A, eA, fA⟩ := ok_raw fa hoa
    obtain ⟨a6, a6c⟩ := sht_dims eA hsa fA
    obtain ⟨ra1, ra2⟩ := fA.2.1
    obtain ⟨ca1, ca2⟩ := fA.2.2
    rw [WM.code_ok hoa] at hC1
    have hTr := fun M0 I0 h1 => XTranspose_ok (X := X) (w0 := w0) (M0 := M0) (I0 := I0) (a := A) (k := 30) (by omega) fA h1
    have hTr2 := fun M0 I0 h1 => CD_ms (rTransp_own (X := X) (w0 := w0) (M0 := M0) (I0 := I0) (a := A) (k0 := 30) fA.2.1 fA.2.2 fA.1 h1)
    rw [← mv_raw A, ← eA] at hTr hTr2
    refine RD_hv (φ := isX A 30) (Hv.shtX eA hsa memF) ?_
    by_cases hob : b.ok
    · obtain ⟨B, eB, fB⟩ := ok_raw fb hob
      obtain ⟨b6, b6c⟩ := sht_dims eB hsb fB
      rw [WM.code_ok hob] at hC2
      by_cases hdm : (gt a.rows 0).es.length = b.rows.length
      · rw [← hdm] at fB
        have hM := fun M0 I0 h1 h2 => XMul_ok (X := X) (w0 := w0) (M0 := M0) (I0 := I0) (a := A) (b := B) (k := 30) (m := 30) (by omega) (by omega) fA fB h1 h2
        have hM2 := fun M0 I0 h1 h2 => CD_ms (rMul_own (X := X) (w0 := w0) (M0 := M0) (I0 := I0) (a := A) (b := B) (k0 := 30) (m := 30) (by omega) (by omega) fA.2.1 fA.2.2 fB.2.2 fA.1 fB.1 h1 h2)
        have hTb := fun M0 I0 h1 => XTranspose_ok (X := X) (w0 := w0) (M0 := M0) (I0 := I0) (a := B) (k := 30) (by omega) fB h1
        rw [← mv_raw A, ← mv_raw B, ← eA, ← eB] at hM hM2
        rw [← mv_raw B, ← eB] at hTb
        refine RD_hv (φ := isX B 30) (Hv.shtX eB hsb memF) ?_
        (refine RD_callS rfl (hM _ _ memF memF) rfl rfl ?_; rintro _ _ _ ⟨rfl, p, rfl, hp, hpd, rfl⟩; refine ⟨okF, ?_⟩)
        repeat (refine wXh ?_)

        (refine RD_callS rfl (hTr _ _ memF) rfl rfl ?_; rintro _ _ _ ⟨rfl, t, rfl, ht, htd, rfl⟩; refine ⟨okF, ?_⟩)
        repeat (refine wXh ?_)
        by_cases hgx : x.good
        · rw [B_true hgx] at hVl
          obtain ⟨Xx, eX, lX⟩ := good_rawL fx hgx
          by_cases hlx : x.es.length = (gt a.rows 0).es.length
          · have hlx2 : Xx.es.length = (gt a.rows 0).es.length := by omega
            have hAp := fun M0 I0 h1 h2 => XApply_ok (X := X) (w0 := w0) (M0 := M0) (I0 := I0) (a := A) (x := Xx) (k := 30) (m := 30) (by omega) (by omega) fA (by omega) h1 h2
            have hAp2 := fun M0 I0 h1 h2 => rApply_ok (X := X) (w0 := w0) (M0 := M0) (I0 := I0) (a := A) (x := Xx) (k0 := 30) (m := 30) (by omega) (by omega) fA.2.1 fA.2.2 fA.1 (by omega) h1 h2
            rw [← mv_raw A, ← lv_raw Xx, ← eA, ← eX] at hAp hAp2
            refine RD_hv (φ := isL Xx 30) (Hv.shtL eX hk memF) ?_
            (refine RD_callS rfl (hAp _ _ memF memF) rfl rfl ?_; rintro _ _ _ ⟨rfl, y, rfl, hy, rfl⟩; refine ⟨okF, ?_⟩)
            repeat (refine wXh ?_)

            (refine RD_vals (cs := recs eWM [a]) ([mvW a]) rfl rfl (by intro v hv; repeat (first | exact absurd hv (List.not_mem_nil) | (rcases List.mem_cons.1 hv with rfl | hv; · rfl))) (by omega) rfl rfl rfl ?_; intro c5; refine ⟨okF, ?_⟩)
            refine RD_freezeB .here ?_
            (refine RD_callS rfl (hC1 _ _ _ memF memF) rfl rfl ?_; rintro _ _ _ ⟨rfl, rfl, rfl⟩; refine ⟨okF, ?_⟩)
            repeat (refine wXh ?_)
            (refine RD_callS rfl (hTr2 _ _ memF) rfl rfl ?_; rintro _ _ _ ⟨rfl, t2, rfl, ht2, htd2, rfl⟩; refine ⟨okF, ?_⟩)
            repeat (refine wXh ?_)
            have hS1 := fun M0 I0 h1 h2 => same05_ok (X := X) (w0 := w0) (M0 := M0) (I0 := I0) (a := t) (b := t2) (k := 30) (m := 30) (by decide) htd htd2 (by omega) h1 h2
            rw [B_true (show t.q = t2.q by rw [ht, ht2])] at hS1
            (refine RD_callS rfl (hS1 _ _ memF memF) rfl rfl ?_; rintro _ _ _ ⟨rfl, rfl, rfl⟩; refine ⟨okF, ?_⟩)
            repeat (refine wXh ?_)
            (refine RD_callS rfl (hVl _ _ memF) rfl rfl ?_; rintro _ _ _ ⟨rfl, rfl, rfl⟩; refine ⟨okF, ?_⟩)
            repeat (refine wXh ?_)

            (refine RD_callS rfl (hAp2 _ _ memF memF) rfl rfl ?_; rintro _ _ _ ⟨rfl, y2, rfl, hy2, rfl⟩; refine ⟨okF, ?_⟩)
            repeat (refine wXh ?_)
            have ly : y.es.length = a.rows.length := by have := congrArg List.length hy; simpa using this
            have ly2 : y2.es.length = a.rows.length := by have := congrArg List.length hy2; simpa using this
            have hS2 := fun M0 I0 h1 h2 => sameList05_ok (X := X) (w0 := w0) (M0 := M0) (I0 := I0) (x := y) (y := y2) (k := (gt a.rows 0).es.length * (30 + 30 + 1)) (m := (gt a.rows 0).es.length * (30 + 30 + 1)) (by omega) (by omega) (by omega) h1 h2
            rw [B_true (show y.q = y2.q by rw [hy, hy2])] at hS2
            (refine RD_callS rfl (hS2 _ _ memF memF) rfl rfl ?_; rintro _ _ _ ⟨rfl, rfl, rfl⟩; refine ⟨okF, ?_⟩)
            repeat (refine wXh ?_)

            (refine RD_vals (cs := recs eWM [b]) ([mvW b]) rfl rfl (by intro v hv; repeat (first | exact absurd hv (List.not_mem_nil) | (rcases List.mem_cons.1 hv with rfl | hv; · rfl))) (by omega) rfl rfl rfl ?_; intro c6; refine ⟨okF, ?_⟩)
            refine RD_freezeB .here ?_
            (refine RD_callS rfl (hC2 _ _ _ memF memF) rfl rfl ?_; rintro _ _ _ ⟨rfl, rfl, rfl⟩; refine ⟨okF, ?_⟩)
            repeat (refine wXh ?_)

            have hTp := fun M0 I0 h1 => XTranspose_ok (X := X) (w0 := w0) (M0 := M0) (I0 := I0) (a := p) (k := (gt a.rows 0).es.length * (30 + 30 + 1)) (by omega) ⟨hpd, ⟨ra1, by omega⟩, fB.2.2⟩ h1
            (refine RD_callS rfl (hTp _ _ memF) rfl rfl ?_; rintro _ _ _ ⟨rfl, q, rfl, hq, hqd, rfl⟩; refine ⟨okF, ?_⟩)
            repeat (refine wXh ?_)
            (refine RD_callS rfl (hTb _ _ memF) rfl rfl ?_; rintro _ _ _ ⟨rfl, u, rfl, hu, hud, rfl⟩; refine ⟨okF, ?_⟩)
            repeat (refine wXh ?_)
            have hMu := fun M0 I0 h1 h2 => XMul_ok (X := X) (w0 := w0) (M0 := M0) (I0 := I0) (a := u) (b := t) (k := 30) (m := 30) (by omega) (by omega) ⟨hud, fB.2.2, fA.2.2⟩ ⟨htd, fA.2.2, fA.2.1⟩ h1 h2
            (refine RD_callS rfl (hMu _ _ memF memF) rfl rfl ?_; rintro _ _ _ ⟨rfl, v, rfl, hv, hvd, rfl⟩; refine ⟨okF, ?_⟩)
            repeat (refine wXh ?_)
            (refine RD_callS rfl (hM2 _ _ memF memF) rfl rfl ?_; rintro _ _ _ ⟨rfl, p2, rfl, hp2, hpd2, rfl⟩; refine ⟨okF, ?_⟩)
            repeat (refine wXh ?_)
            have hS3 := fun M0 I0 h1 h2 => same05_ok (X := X) (w0 := w0) (M0 := M0) (I0 := I0) (a := p) (b := p2) (k := (gt a.rows 0).es.length * (30 + 30 + 1)) (m := (gt a.rows 0).es.length * (30 + 30 + 1)) (by omega) hpd hpd2 (by omega) h1 h2
            rw [B_true (show p.q = p2.q by rw [hp, hp2])] at hS3
            (refine RD_callS rfl (hS3 _ _ memF memF) rfl rfl ?_; rintro _ _ _ ⟨rfl, rfl, rfl⟩; refine ⟨okF, ?_⟩)
            repeat (refine wXh ?_)
            have hS4 := fun M0 I0 h1 h2 => same05_ok (X := X) (w0 := w0) (M0 := M0) (I0 := I0) (a := q) (b := v) (k := (gt a.rows 0).es.length * (30 + 30 + 1)) (m := (gt a.rows 0).es.length * (30 + 30 + 1)) (by omega) hqd hvd (by omega) h1 h2
            rw [B_true (show q.q = v.q by rw [hq, hv]; exact mkM_congr (fun i j hi hj => by rw [hp, mkM_at hj hi]; exact sm_congr (fun k hk => by rw [hu, mkM_at hi hk, ht, mkM_at hk hj]; grind)))] at hS4
            (refine RD_callS rfl (hS4 _ _ memF memF) rfl rfl ?_; rintro _ _ _ ⟨rfl, rfl, rfl⟩; refine ⟨okF, ?_⟩)
            repeat (refine wXh ?_)
            refine ND_ret1 (by first | exact .inl rfl | exact .inr rfl) rfl rfl _ _ subF incF (⟨rfl, rfl, rfl⟩)
          · have hl0 : listC a x (gt a.rows 0).es.length = 4 := by unfold listC; rw [if_pos hoa, if_pos hgx, if_neg hlx]
            have hAp := fun M0 I0 h1 h2 => XApply_bad (X := X) (w0 := w0) (M0 := M0) (I0 := I0) (a := a) (x := x) sa sx (by rw [hl0]; decide) h1 h2
            rw [hl0] at hAp
            (refine RD_callS rfl (hAp _ _ memF memF) rfl rfl ?_; rintro _ _ _ ⟨rfl, rfl, rfl⟩; refine ⟨okF, ?_⟩)
            repeat (refine wXh ?_)

            (refine RD_vals (cs := recs eWM [a]) ([mvW a]) rfl rfl (by intro v hv; repeat (first | exact absurd hv (List.not_mem_nil) | (rcases List.mem_cons.1 hv with rfl | hv; · rfl))) (by omega) rfl rfl rfl ?_; intro c5; refine ⟨okF, ?_⟩)
            refine RD_freezeB .here ?_
            (refine RD_callS rfl (hC1 _ _ _ memF memF) rfl rfl ?_; rintro _ _ _ ⟨rfl, rfl, rfl⟩; refine ⟨okF, ?_⟩)
            repeat (refine wXh ?_)
            (refine RD_callS rfl (hTr2 _ _ memF) rfl rfl ?_; rintro _ _ _ ⟨rfl, t2, rfl, ht2, htd2, rfl⟩; refine ⟨okF, ?_⟩)
            repeat (refine wXh ?_)
            have hS1 := fun M0 I0 h1 h2 => same05_ok (X := X) (w0 := w0) (M0 := M0) (I0 := I0) (a := t) (b := t2) (k := 30) (m := 30) (by decide) htd htd2 (by omega) h1 h2
            rw [B_true (show t.q = t2.q by rw [ht, ht2])] at hS1
            (refine RD_callS rfl (hS1 _ _ memF memF) rfl rfl ?_; rintro _ _ _ ⟨rfl, rfl, rfl⟩; refine ⟨okF, ?_⟩)
            repeat (refine wXh ?_)
            (refine RD_callS rfl (hVl _ _ memF) rfl rfl ?_; rintro _ _ _ ⟨rfl, rfl, rfl⟩; refine ⟨okF, ?_⟩)
            repeat (refine wXh ?_)

            (refine RD_vals (cs := recs eWM [b]) ([mvW b]) rfl rfl (by intro v hv; repeat (first | exact absurd hv (List.not_mem_nil) | (rcases List.mem_cons.1 hv with rfl | hv; · rfl))) (by omega) rfl rfl rfl ?_; intro c6; refine ⟨okF, ?_⟩)
            refine RD_freezeB .here ?_
            (refine RD_callS rfl (hC2 _ _ _ memF memF) rfl rfl ?_; rintro _ _ _ ⟨rfl, rfl, rfl⟩; refine ⟨okF, ?_⟩)
            repeat (refine wXh ?_)

            have hTp := fun M0 I0 h1 => XTranspose_ok (X := X) (w0 := w0) (M0 := M0) (I0 := I0) (a := p) (k := (gt a.rows 0).es.length * (30 + 30 + 1)) (by omega) ⟨hpd, ⟨ra1, by omega⟩, fB.2.2⟩ h1
            (refine RD_callS rfl (hTp _ _ memF) rfl rfl ?_; rintro _ _ _ ⟨rfl, q, rfl, hq, hqd, rfl⟩; refine ⟨okF, ?_⟩)
            repeat (refine wXh ?_)
            (refine RD_callS rfl (hTb _ _ memF) rfl rfl ?_; rintro _ _ _ ⟨rfl, u, rfl, hu, hud, rfl⟩; refine ⟨okF, ?_⟩)
            repeat (refine wXh ?_)
            have hMu := fun M0 I0 h1 h2 => XMul_ok (X := X) (w0 := w0) (M0 := M0) (I0 := I0) (a := u) (b := t) (k := 30) (m := 30) (by omega) (by omega) ⟨hud, fB.2.2, fA.2.2⟩ ⟨htd, fA.2.2, fA.2.1⟩ h1 h2
            (refine RD_callS rfl (hMu _ _ memF memF) rfl rfl ?_; rintro _ _ _ ⟨rfl, v, rfl, hv, hvd, rfl⟩; refine ⟨okF, ?_⟩)
            repeat (refine wXh ?_)
            (refine RD_callS rfl (hM2 _ _ memF memF) rfl rfl ?_; rintro _ _ _ ⟨rfl, p2, rfl, hp2, hpd2, rfl⟩; refine ⟨okF, ?_⟩)
            repeat (refine wXh ?_)
            have hS3 := fun M0 I0 h1 h2 => same05_ok (X := X) (w0 := w0) (M0 := M0) (I0 := I0) (a := p) (b := p2) (k := (gt a.rows 0).es.length * (30 + 30 + 1)) (m := (gt a.rows 0).es.length * (30 + 30 + 1)) (by omega) hpd hpd2 (by omega) h1 h2
            rw [B_true (show p.q = p2.q by rw [hp, hp2])] at hS3
            (refine RD_callS rfl (hS3 _ _ memF memF) rfl rfl ?_; rintro _ _ _ ⟨rfl, rfl, rfl⟩; refine ⟨okF, ?_⟩)
            repeat (refine wXh ?_)
            have hS4 := fun M0 I0 h1 h2 => same05_ok (X := X) (w0 := w0) (M0 := M0) (I0 := I0) (a := q) (b := v) (k := (gt a.rows 0).es.length * (30 + 30 + 1)) (m := (gt a.rows 0).es.length * (30 + 30 + 1)) (by omega) hqd hvd (by omega) h1 h2
            rw [B_true (show q.q = v.q by rw [hq, hv]; exact mkM_congr (fun i j hi hj => by rw [hp, mkM_at hj hi]; exact sm_congr (fun k hk => by rw [hu, mkM_at hi hk, ht, mkM_at hk hj]; grind)))] at hS4
            (refine RD_callS rfl (hS4 _ _ memF memF) rfl rfl ?_; rintro _ _ _ ⟨rfl, rfl, rfl⟩; refine ⟨okF, ?_⟩)
            repeat (refine wXh ?_)
            refine ND_ret1 (by first | exact .inl rfl | exact .inr rfl) rfl rfl _ _ subF incF (⟨rfl, rfl, rfl⟩)
        · rw [B_false hgx] at hVl
          have hl0 : listC a x (gt a.rows 0).es.length = 1 := by unfold listC; rw [if_pos hoa, if_neg hgx]
          have hAp := fun M0 I0 h1 h2 => XApply_bad (X := X) (w0 := w0) (M0 := M0) (I0 := I0) (a := a) (x := x) sa sx (by rw [hl0]; decide) h1 h2
          rw [hl0] at hAp
          (refine RD_callS rfl (hAp _ _ memF memF) rfl rfl ?_; rintro _ _ _ ⟨rfl, rfl, rfl⟩; refine ⟨okF, ?_⟩)
          repeat (refine wXh ?_)

          (refine RD_vals (cs := recs eWM [a]) ([mvW a]) rfl rfl (by intro v hv; repeat (first | exact absurd hv (List.not_mem_nil) | (rcases List.mem_cons.1 hv with rfl | hv; · rfl))) (by omega) rfl rfl rfl ?_; intro c5; refine ⟨okF, ?_⟩)
          refine RD_freezeB .here ?_
          (refine RD_callS rfl (hC1 _ _ _ memF memF) rfl rfl ?_; rintro _ _ _ ⟨rfl, rfl, rfl⟩; refine ⟨okF, ?_⟩)
          repeat (refine wXh ?_)
          (refine RD_callS rfl (hTr2 _ _ memF) rfl rfl ?_; rintro _ _ _ ⟨rfl, t2, rfl, ht2, htd2, rfl⟩; refine ⟨okF, ?_⟩)
          repeat (refine wXh ?_)
          have hS1 := fun M0 I0 h1 h2 => same05_ok (X := X) (w0 := w0) (M0 := M0) (I0 := I0) (a := t) (b := t2) (k := 30) (m := 30) (by decide) htd htd2 (by omega) h1 h2
          rw [B_true (show t.q = t2.q by rw [ht, ht2])] at hS1
          (refine RD_callS rfl (hS1 _ _ memF memF) rfl rfl ?_; rintro _ _ _ ⟨rfl, rfl, rfl⟩; refine ⟨okF, ?_⟩)
          repeat (refine wXh ?_)
          (refine RD_callS rfl (hVl _ _ memF) rfl rfl ?_; rintro _ _ _ ⟨rfl, rfl, rfl⟩; refine ⟨okF, ?_⟩)
          repeat (refine wXh ?_)

          (refine RD_vals (cs := recs eWM [b]) ([mvW b]) rfl rfl (by intro v hv; repeat (first | exact absurd hv (List.not_mem_nil) | (rcases List.mem_cons.1 hv with rfl | hv; · rfl))) (by omega) rfl rfl rfl ?_; intro c6; refine ⟨okF, ?_⟩)
          refine RD_freezeB .here ?_
          (refine RD_callS rfl (hC2 _ _ _ memF memF) rfl rfl ?_; rintro _ _ _ ⟨rfl, rfl, rfl⟩; refine ⟨okF, ?_⟩)
          repeat (refine wXh ?_)

          have hTp := fun M0 I0 h1 => XTranspose_ok (X := X) (w0 := w0) (M0 := M0) (I0 := I0) (a := p) (k := (gt a.rows 0).es.length * (30 + 30 + 1)) (by omega) ⟨hpd, ⟨ra1, by omega⟩, fB.2.2⟩ h1
          (refine RD_callS rfl (hTp _ _ memF) rfl rfl ?_; rintro _ _ _ ⟨rfl, q, rfl, hq, hqd, rfl⟩; refine ⟨okF, ?_⟩)
          repeat (refine wXh ?_)
          (refine RD_callS rfl (hTb _ _ memF) rfl rfl ?_; rintro _ _ _ ⟨rfl, u, rfl, hu, hud, rfl⟩; refine ⟨okF, ?_⟩)
          repeat (refine wXh ?_)
          have hMu := fun M0 I0 h1 h2 => XMul_ok (X := X) (w0 := w0) (M0 := M0) (I0 := I0) (a := u) (b := t) (k := 30) (m := 30) (by omega) (by omega) ⟨hud, fB.2.2, fA.2.2⟩ ⟨htd, fA.2.2, fA.2.1⟩ h1 h2
          (refine RD_callS rfl (hMu _ _ memF memF) rfl rfl ?_; rintro _ _ _ ⟨rfl, v, rfl, hv, hvd, rfl⟩; refine ⟨okF, ?_⟩)
          repeat (refine wXh ?_)
          (refine RD_callS rfl (hM2 _ _ memF memF) rfl rfl ?_; rintro _ _ _ ⟨rfl, p2, rfl, hp2, hpd2, rfl⟩; refine ⟨okF, ?_⟩)
          repeat (refine wXh ?_)
          have hS3 := fun M0 I0 h1 h2 => same05_ok (X := X) (w0 := w0) (M0 := M0) (I0 := I0) (a := p) (b := p2) (k := (gt a.rows 0).es.length * (30 + 30 + 1)) (m := (gt a.rows 0).es.length * (30 + 30 + 1)) (by omega) hpd hpd2 (by omega) h1 h2
          rw [B_true (show p.q = p2.q by rw [hp, hp2])] at hS3
          (refine RD_callS rfl (hS3 _ _ memF memF) rfl rfl ?_; rintro _ _ _ ⟨rfl, rfl, rfl⟩; refine ⟨okF, ?_⟩)
          repeat (refine wXh ?_)
          have hS4 := fun M0 I0 h1 h2 => same05_ok (X := X) (w0 := w0) (M0 := M0) (I0 := I0) (a := q) (b := v) (k := (gt a.rows 0).es.length * (30 + 30 + 1)) (m := (gt a.rows 0).es.length * (30 + 30 + 1)) (by omega) hqd hvd (by omega) h1 h2
          rw [B_true (show q.q = v.q by rw [hq, hv]; exact mkM_congr (fun i j hi hj => by rw [hp, mkM_at hj hi]; exact sm_congr (fun k hk => by rw [hu, mkM_at hi hk, ht, mkM_at hk hj]; grind)))] at hS4
          (refine RD_callS rfl (hS4 _ _ memF memF) rfl rfl ?_; rintro _ _ _ ⟨rfl, rfl, rfl⟩; refine ⟨okF, ?_⟩)
          repeat (refine wXh ?_)
          refine ND_ret1 (by first | exact .inl rfl | exact .inr rfl) rfl rfl _ _ subF incF (⟨rfl, rfl, rfl⟩)
      · have hm0 : mulC a b = 4 := by unfold mulC; rw [if_pos ⟨hoa, hob⟩, if_neg hdm]
        have hM := fun M0 I0 h1 h2 => XMul_bad (X := X) (w0 := w0) (M0 := M0) (I0 := I0) (a := a) (b := b) sa sb (by rw [hm0]; decide) h1 h2
        rw [hm0] at hM
        (refine RD_callS rfl (hM _ _ memF memF) rfl rfl ?_; rintro _ _ _ ⟨rfl, rfl, rfl⟩; refine ⟨okF, ?_⟩)
        repeat (refine wXh ?_)

        (refine RD_callS rfl (hTr _ _ memF) rfl rfl ?_; rintro _ _ _ ⟨rfl, t, rfl, ht, htd, rfl⟩; refine ⟨okF, ?_⟩)
        repeat (refine wXh ?_)
        by_cases hgx : x.good
        · rw [B_true hgx] at hVl
          obtain ⟨Xx, eX, lX⟩ := good_rawL fx hgx
          by_cases hlx : x.es.length = (gt a.rows 0).es.length
          · have hlx2 : Xx.es.length = (gt a.rows 0).es.length := by omega
            have hAp := fun M0 I0 h1 h2 => XApply_ok (X := X) (w0 := w0) (M0 := M0) (I0 := I0) (a := A) (x := Xx) (k := 30) (m := 30) (by omega) (by omega) fA (by omega) h1 h2
            have hAp2 := fun M0 I0 h1 h2 => rApply_ok (X := X) (w0 := w0) (M0 := M0) (I0 := I0) (a := A) (x := Xx) (k0 := 30) (m := 30) (by omega) (by omega) fA.2.1 fA.2.2 fA.1 (by omega) h1 h2
            rw [← mv_raw A, ← lv_raw Xx, ← eA, ← eX] at hAp hAp2
            refine RD_hv (φ := isL Xx 30) (Hv.shtL eX hk memF) ?_
            (refine RD_callS rfl (hAp _ _ memF memF) rfl rfl ?_; rintro _ _ _ ⟨rfl, y, rfl, hy, rfl⟩; refine ⟨okF, ?_⟩)
            repeat (refine wXh ?_)

            (refine RD_vals (cs := recs eWM [a]) ([mvW a]) rfl rfl (by intro v hv; repeat (first | exact absurd hv (List.not_mem_nil) | (rcases List.mem_cons.1 hv with rfl | hv; · rfl))) (by omega) rfl rfl rfl ?_; intro c5; refine ⟨okF, ?_⟩)
            refine RD_freezeB .here ?_
            (refine RD_callS rfl (hC1 _ _ _ memF memF) rfl rfl ?_; rintro _ _ _ ⟨rfl, rfl, rfl⟩; refine ⟨okF, ?_⟩)
            repeat (refine wXh ?_)
            (refine RD_callS rfl (hTr2 _ _ memF) rfl rfl ?_; rintro _ _ _ ⟨rfl, t2, rfl, ht2, htd2, rfl⟩; refine ⟨okF, ?_⟩)
            repeat (refine wXh ?_)
            have hS1 := fun M0 I0 h1 h2 => same05_ok (X := X) (w0 := w0) (M0 := M0) (I0 := I0) (a := t) (b := t2) (k := 30) (m := 30) (by decide) htd htd2 (by omega) h1 h2
            rw [B_true (show t.q = t2.q by rw [ht, ht2])] at hS1
            (refine RD_callS rfl (hS1 _ _ memF memF) rfl rfl ?_; rintro _ _ _ ⟨rfl, rfl, rfl⟩; refine ⟨okF, ?_⟩)
            repeat (refine wXh ?_)
            (refine RD_callS rfl (hVl _ _ memF) rfl rfl ?_; rintro _ _ _ ⟨rfl, rfl, rfl⟩; refine ⟨okF, ?_⟩)
            repeat (refine wXh ?_)

            (refine RD_callS rfl (hAp2 _ _ memF memF) rfl rfl ?_; rintro _ _ _ ⟨rfl, y2, rfl, hy2, rfl⟩; refine ⟨okF, ?_⟩)
            repeat (refine wXh ?_)
            have ly : y.es.length = a.rows.length := by have := congrArg List.length hy; simpa using this
            have ly2 : y2.es.length = a.rows.length := by have := congrArg List.length hy2; simpa using this
            have hS2 := fun M0 I0 h1 h2 => sameList05_ok (X := X) (w0 := w0) (M0 := M0) (I0 := I0) (x := y) (y := y2) (k := (gt a.rows 0).es.length * (30 + 30 + 1)) (m := (gt a.rows 0).es.length * (30 + 30 + 1)) (by omega) (by omega) (by omega) h1 h2
            rw [B_true (show y.q = y2.q by rw [hy, hy2])] at hS2
            (refine RD_callS rfl (hS2 _ _ memF memF) rfl rfl ?_; rintro _ _ _ ⟨rfl, rfl, rfl⟩; refine ⟨okF, ?_⟩)
            repeat (refine wXh ?_)

            (refine RD_vals (cs := recs eWM [b]) ([mvW b]) rfl rfl (by intro v hv; repeat (first | exact absurd hv (List.not_mem_nil) | (rcases List.mem_cons.1 hv with rfl | hv; · rfl))) (by omega) rfl rfl rfl ?_; intro c6; refine ⟨okF, ?_⟩)
            refine RD_freezeB .here ?_
            (refine RD_callS rfl (hC2 _ _ _ memF memF) rfl rfl ?_; rintro _ _ _ ⟨rfl, rfl, rfl⟩; refine ⟨okF, ?_⟩)
            repeat (refine wXh ?_)

            refine ND_ret1 (by first | exact .inl rfl | exact .inr rfl) rfl rfl _ _ subF incF (⟨rfl, rfl, congrArg Value.bool (B_true rfl)⟩)
          · have hl0 : listC a x (gt a.rows 0).es.length = 4 := by unfold listC; rw [if_pos hoa, if_pos hgx, if_neg hlx]
            have hAp := fun M0 I0 h1 h2 => XApply_bad (X := X) (w0 := w0) (M0 := M0) (I0 := I0) (a := a) (x := x) sa sx (by rw [hl0]; decide) h1 h2
            rw [hl0] at hAp
            (refine RD_callS rfl (hAp _ _ memF memF) rfl rfl ?_; rintro _ _ _ ⟨rfl, rfl, rfl⟩; refine ⟨okF, ?_⟩)
            repeat (refine wXh ?_)

            (refine RD_vals (cs := recs eWM [a]) ([mvW a]) rfl rfl (by intro v hv; repeat (first | exact absurd hv (List.not_mem_nil) | (rcases List.mem_cons.1 hv with rfl | hv; · rfl))) (by omega) rfl rfl rfl ?_; intro c5; refine ⟨okF, ?_⟩)
            refine RD_freezeB .here ?_
            (refine RD_callS rfl (hC1 _ _ _ memF memF) rfl rfl ?_; rintro _ _ _ ⟨rfl, rfl, rfl⟩; refine ⟨okF, ?_⟩)
            repeat (refine wXh ?_)
            (refine RD_callS rfl (hTr2 _ _ memF) rfl rfl ?_; rintro _ _ _ ⟨rfl, t2, rfl, ht2, htd2, rfl⟩; refine ⟨okF, ?_⟩)
            repeat (refine wXh ?_)
            have hS1 := fun M0 I0 h1 h2 => same05_ok (X := X) (w0 := w0) (M0 := M0) (I0 := I0) (a := t) (b := t2) (k := 30) (m := 30) (by decide) htd htd2 (by omega) h1 h2
            rw [B_true (show t.q = t2.q by rw [ht, ht2])] at hS1
            (refine RD_callS rfl (hS1 _ _ memF memF) rfl rfl ?_; rintro _ _ _ ⟨rfl, rfl, rfl⟩; refine ⟨okF, ?_⟩)
            repeat (refine wXh ?_)
            (refine RD_callS rfl (hVl _ _ memF) rfl rfl ?_; rintro _ _ _ ⟨rfl, rfl, rfl⟩; refine ⟨okF, ?_⟩)
            repeat (refine wXh ?_)

            (refine RD_vals (cs := recs eWM [b]) ([mvW b]) rfl rfl (by intro v hv; repeat (first | exact absurd hv (List.not_mem_nil) | (rcases List.mem_cons.1 hv with rfl | hv; · rfl))) (by omega) rfl rfl rfl ?_; intro c6; refine ⟨okF, ?_⟩)
            refine RD_freezeB .here ?_
            (refine RD_callS rfl (hC2 _ _ _ memF memF) rfl rfl ?_; rintro _ _ _ ⟨rfl, rfl, rfl⟩; refine ⟨okF, ?_⟩)
            repeat (refine wXh ?_)

            refine ND_ret1 (by first | exact .inl rfl | exact .inr rfl) rfl rfl _ _ subF incF (⟨rfl, rfl, congrArg Value.bool (B_true rfl)⟩)
        · rw [B_false hgx] at hVl
          have hl0 : listC a x (gt a.rows 0).es.length = 1 := by unfold listC; rw [if_pos hoa, if_neg hgx]
          have hAp := fun M0 I0 h1 h2 => XApply_bad (X := X) (w0 := w0) (M0 := M0) (I0 := I0) (a := a) (x := x) sa sx (by rw [hl0]; decide) h1 h2
          rw [hl0] at hAp
          (refine RD_callS rfl (hAp _ _ memF memF) rfl rfl ?_; rintro _ _ _ ⟨rfl, rfl, rfl⟩; refine ⟨okF, ?_⟩)
          repeat (refine wXh ?_)

          (refine RD_vals (cs := recs eWM [a]) ([mvW a]) rfl rfl (by intro v hv; repeat (first | exact absurd hv (List.not_mem_nil) | (rcases List.mem_cons.1 hv with rfl | hv; · rfl))) (by omega) rfl rfl rfl ?_; intro c5; refine ⟨okF, ?_⟩)
          refine RD_freezeB .here ?_
          (refine RD_callS rfl (hC1 _ _ _ memF memF) rfl rfl ?_; rintro _ _ _ ⟨rfl, rfl, rfl⟩; refine ⟨okF, ?_⟩)
          repeat (refine wXh ?_)
          (refine RD_callS rfl (hTr2 _ _ memF) rfl rfl ?_; rintro _ _ _ ⟨rfl, t2, rfl, ht2, htd2, rfl⟩; refine ⟨okF, ?_⟩)
          repeat (refine wXh ?_)
          have hS1 := fun M0 I0 h1 h2 => same05_ok (X := X) (w0 := w0) (M0 := M0) (I0 := I0) (a := t) (b := t2) (k := 30) (m := 30) (by decide) htd htd2 (by omega) h1 h2
          rw [B_true (show t.q = t2.q by rw [ht, ht2])] at hS1
          (refine RD_callS rfl (hS1 _ _ memF memF) rfl rfl ?_; rintro _ _ _ ⟨rfl, rfl, rfl⟩; refine ⟨okF, ?_⟩)
          repeat (refine wXh ?_)
          (refine RD_callS rfl (hVl _ _ memF) rfl rfl ?_; rintro _ _ _ ⟨rfl, rfl, rfl⟩; refine ⟨okF, ?_⟩)
          repeat (refine wXh ?_)

          (refine RD_vals (cs := recs eWM [b]) ([mvW b]) rfl rfl (by intro v hv; repeat (first | exact absurd hv (List.not_mem_nil) | (rcases List.mem_cons.1 hv with rfl | hv; · rfl))) (by omega) rfl rfl rfl ?_; intro c6; refine ⟨okF, ?_⟩)
          refine RD_freezeB .here ?_
          (refine RD_callS rfl (hC2 _ _ _ memF memF) rfl rfl ?_; rintro _ _ _ ⟨rfl, rfl, rfl⟩; refine ⟨okF, ?_⟩)
          repeat (refine wXh ?_)

          refine ND_ret1 (by first | exact .inl rfl | exact .inr rfl) rfl rfl _ _ subF incF (⟨rfl, rfl, congrArg Value.bool (B_true rfl)⟩)
    · rw [WM.code_no hob] at hC2
      have hm0 : mulC a b = 1 := by unfold mulC; rw [if_neg (fun e => hob e.2)]
      have hM := fun M0 I0 h1 h2 => XMul_bad (X := X) (w0 := w0) (M0 := M0) (I0 := I0) (a := a) (b := b) sa sb (by rw [hm0]; decide) h1 h2
      rw [hm0] at hM
      (refine RD_callS rfl (hM _ _ memF memF) rfl rfl ?_; rintro _ _ _ ⟨rfl, rfl, rfl⟩; refine ⟨okF, ?_⟩)
      repeat (refine wXh ?_)

      (refine RD_callS rfl (hTr _ _ memF) rfl rfl ?_; rintro _ _ _ ⟨rfl, t, rfl, ht, htd, rfl⟩; refine ⟨okF, ?_⟩)
      repeat (refine wXh ?_)
      by_cases hgx : x.good
      · rw [B_true hgx] at hVl
        obtain ⟨Xx, eX, lX⟩ := good_rawL fx hgx
        by_cases hlx : x.es.length = (gt a.rows 0).es.length
        · have hlx2 : Xx.es.length = (gt a.rows 0).es.length := by omega
          have hAp := fun M0 I0 h1 h2 => XApply_ok (X := X) (w0 := w0) (M0 := M0) (I0 := I0) (a := A) (x := Xx) (k := 30) (m := 30) (by omega) (by omega) fA (by omega) h1 h2
          have hAp2 := fun M0 I0 h1 h2 => rApply_ok (X := X) (w0 := w0) (M0 := M0) (I0 := I0) (a := A) (x := Xx) (k0 := 30) (m := 30) (by omega) (by omega) fA.2.1 fA.2.2 fA.1 (by omega) h1 h2
          rw [← mv_raw A, ← lv_raw Xx, ← eA, ← eX] at hAp hAp2
          refine RD_hv (φ := isL Xx 30) (Hv.shtL eX hk memF) ?_
          (refine RD_callS rfl (hAp _ _ memF memF) rfl rfl ?_; rintro _ _ _ ⟨rfl, y, rfl, hy, rfl⟩; refine ⟨okF, ?_⟩)
          repeat (refine wXh ?_)

          (refine RD_vals (cs := recs eWM [a]) ([mvW a]) rfl rfl (by intro v hv; repeat (first | exact absurd hv (List.not_mem_nil) | (rcases List.mem_cons.1 hv with rfl | hv; · rfl))) (by omega) rfl rfl rfl ?_; intro c5; refine ⟨okF, ?_⟩)
          refine RD_freezeB .here ?_
          (refine RD_callS rfl (hC1 _ _ _ memF memF) rfl rfl ?_; rintro _ _ _ ⟨rfl, rfl, rfl⟩; refine ⟨okF, ?_⟩)
          repeat (refine wXh ?_)
          (refine RD_callS rfl (hTr2 _ _ memF) rfl rfl ?_; rintro _ _ _ ⟨rfl, t2, rfl, ht2, htd2, rfl⟩; refine ⟨okF, ?_⟩)
          repeat (refine wXh ?_)
          have hS1 := fun M0 I0 h1 h2 => same05_ok (X := X) (w0 := w0) (M0 := M0) (I0 := I0) (a := t) (b := t2) (k := 30) (m := 30) (by decide) htd htd2 (by omega) h1 h2
          rw [B_true (show t.q = t2.q by rw [ht, ht2])] at hS1
          (refine RD_callS rfl (hS1 _ _ memF memF) rfl rfl ?_; rintro _ _ _ ⟨rfl, rfl, rfl⟩; refine ⟨okF, ?_⟩)
          repeat (refine wXh ?_)
          (refine RD_callS rfl (hVl _ _ memF) rfl rfl ?_; rintro _ _ _ ⟨rfl, rfl, rfl⟩; refine ⟨okF, ?_⟩)
          repeat (refine wXh ?_)

          (refine RD_callS rfl (hAp2 _ _ memF memF) rfl rfl ?_; rintro _ _ _ ⟨rfl, y2, rfl, hy2, rfl⟩; refine ⟨okF, ?_⟩)
          repeat (refine wXh ?_)
          have ly : y.es.length = a.rows.length := by have := congrArg List.length hy; simpa using this
          have ly2 : y2.es.length = a.rows.length := by have := congrArg List.length hy2; simpa using this
          have hS2 := fun M0 I0 h1 h2 => sameList05_ok (X := X) (w0 := w0) (M0 := M0) (I0 := I0) (x := y) (y := y2) (k := (gt a.rows 0).es.length * (30 + 30 + 1)) (m := (gt a.rows 0).es.length * (30 + 30 + 1)) (by omega) (by omega) (by omega) h1 h2
          rw [B_true (show y.q = y2.q by rw [hy, hy2])] at hS2
          (refine RD_callS rfl (hS2 _ _ memF memF) rfl rfl ?_; rintro _ _ _ ⟨rfl, rfl, rfl⟩; refine ⟨okF, ?_⟩)
          repeat (refine wXh ?_)

          (refine RD_vals (cs := recs eWM [b]) ([mvW b]) rfl rfl (by intro v hv; repeat (first | exact absurd hv (List.not_mem_nil) | (rcases List.mem_cons.1 hv with rfl | hv; · rfl))) (by omega) rfl rfl rfl ?_; intro c6; refine ⟨okF, ?_⟩)
          refine RD_freezeB .here ?_
          (refine RD_callS rfl (hC2 _ _ _ memF memF) rfl rfl ?_; rintro _ _ _ ⟨rfl, rfl, rfl⟩; refine ⟨okF, ?_⟩)
          repeat (refine wXh ?_)

          refine ND_ret1 (by first | exact .inl rfl | exact .inr rfl) rfl rfl _ _ subF incF (⟨rfl, rfl, congrArg Value.bool (B_true rfl)⟩)
        · have hl0 : listC a x (gt a.rows 0).es.length = 4 := by unfold listC; rw [if_pos hoa, if_pos hgx, if_neg hlx]
          have hAp := fun M0 I0 h1 h2 => XApply_bad (X := X) (w0 := w0) (M0 := M0) (I0 := I0) (a := a) (x := x) sa sx (by rw [hl0]; decide) h1 h2
          rw [hl0] at hAp
          (refine RD_callS rfl (hAp _ _ memF memF) rfl rfl ?_; rintro _ _ _ ⟨rfl, rfl, rfl⟩; refine ⟨okF, ?_⟩)
          repeat (refine wXh ?_)

          (refine RD_vals (cs := recs eWM [a]) ([mvW a]) rfl rfl (by intro v hv; repeat (first | exact absurd hv (List.not_mem_nil) | (rcases List.mem_cons.1 hv with rfl | hv; · rfl))) (by omega) rfl rfl rfl ?_; intro c5; refine ⟨okF, ?_⟩)
          refine RD_freezeB .here ?_
          (refine RD_callS rfl (hC1 _ _ _ memF memF) rfl rfl ?_; rintro _ _ _ ⟨rfl, rfl, rfl⟩; refine ⟨okF, ?_⟩)
          repeat (refine wXh ?_)
          (refine RD_callS rfl (hTr2 _ _ memF) rfl rfl ?_; rintro _ _ _ ⟨rfl, t2, rfl, ht2, htd2, rfl⟩; refine ⟨okF, ?_⟩)
          repeat (refine wXh ?_)
          have hS1 := fun M0 I0 h1 h2 => same05_ok (X := X) (w0 := w0) (M0 := M0) (I0 := I0) (a := t) (b := t2) (k := 30) (m := 30) (by decide) htd htd2 (by omega) h1 h2
          rw [B_true (show t.q = t2.q by rw [ht, ht2])] at hS1
          (refine RD_callS rfl (hS1 _ _ memF memF) rfl rfl ?_; rintro _ _ _ ⟨rfl, rfl, rfl⟩; refine ⟨okF, ?_⟩)
          repeat (refine wXh ?_)
          (refine RD_callS rfl (hVl _ _ memF) rfl rfl ?_; rintro _ _ _ ⟨rfl, rfl, rfl⟩; refine ⟨okF, ?_⟩)
          repeat (refine wXh ?_)

          (refine RD_vals (cs := recs eWM [b]) ([mvW b]) rfl rfl (by intro v hv; repeat (first | exact absurd hv (List.not_mem_nil) | (rcases List.mem_cons.1 hv with rfl | hv; · rfl))) (by omega) rfl rfl rfl ?_; intro c6; refine ⟨okF, ?_⟩)
          refine RD_freezeB .here ?_
          (refine RD_callS rfl (hC2 _ _ _ memF memF) rfl rfl ?_; rintro _ _ _ ⟨rfl, rfl, rfl⟩; refine ⟨okF, ?_⟩)
          repeat (refine wXh ?_)

          refine ND_ret1 (by first | exact .inl rfl | exact .inr rfl) rfl rfl _ _ subF incF (⟨rfl, rfl, congrArg Value.bool (B_true rfl)⟩)
      · rw [B_false hgx] at hVl
        have hl0 : listC a x (gt a.rows 0).es.length = 1 := by unfold listC; rw [if_pos hoa, if_neg hgx]
        have hAp := fun M0 I0 h1 h2 => XApply_bad (X := X) (w0 := w0) (M0 := M0) (I0 := I0) (a := a) (x := x) sa sx (by rw [hl0]; decide) h1 h2
        rw [hl0] at hAp
        (refine RD_callS rfl (hAp _ _ memF memF) rfl rfl ?_; rintro _ _ _ ⟨rfl, rfl, rfl⟩; refine ⟨okF, ?_⟩)
        repeat (refine wXh ?_)

        (refine RD_vals (cs := recs eWM [a]) ([mvW a]) rfl rfl (by intro v hv; repeat (first | exact absurd hv (List.not_mem_nil) | (rcases List.mem_cons.1 hv with rfl | hv; · rfl))) (by omega) rfl rfl rfl ?_; intro c5; refine ⟨okF, ?_⟩)
        refine RD_freezeB .here ?_
        (refine RD_callS rfl (hC1 _ _ _ memF memF) rfl rfl ?_; rintro _ _ _ ⟨rfl, rfl, rfl⟩; refine ⟨okF, ?_⟩)
        repeat (refine wXh ?_)
        (refine RD_callS rfl (hTr2 _ _ memF) rfl rfl ?_; rintro _ _ _ ⟨rfl, t2, rfl, ht2, htd2, rfl⟩; refine ⟨okF, ?_⟩)
        repeat (refine wXh ?_)
        have hS1 := fun M0 I0 h1 h2 => same05_ok (X := X) (w0 := w0) (M0 := M0) (I0 := I0) (a := t) (b := t2) (k := 30) (m := 30) (by decide) htd htd2 (by omega) h1 h2
        rw [B_true (show t.q = t2.q by rw [ht, ht2])] at hS1
        (refine RD_callS rfl (hS1 _ _ memF memF) rfl rfl ?_; rintro _ _ _ ⟨rfl, rfl, rfl⟩; refine ⟨okF, ?_⟩)
        repeat (refine wXh ?_)
        (refine RD_callS rfl (hVl _ _ memF) rfl rfl ?_; rintro _ _ _ ⟨rfl, rfl, rfl⟩; refine ⟨okF, ?_⟩)
        repeat (refine wXh ?_)

        (refine RD_vals (cs := recs eWM [b]) ([mvW b]) rfl rfl (by intro v hv; repeat (first | exact absurd hv (List.not_mem_nil) | (rcases List.mem_cons.1 hv with rfl | hv; · rfl))) (by omega) rfl rfl rfl ?_; intro c6; refine ⟨okF, ?_⟩)
        refine RD_freezeB .here ?_
        (refine RD_callS rfl (hC2 _ _ _ memF memF) rfl rfl ?_; rintro _ _ _ ⟨rfl, rfl, rfl⟩; refine ⟨okF, ?_⟩)
        repeat (refine wXh ?_)

        refine ND_ret1 (by first | exact .inl rfl | exact .inr rfl) rfl rfl _ _ subF incF (⟨rfl, rfl, congrArg Value.bool (B_true rfl)⟩)
  · rw [WM.code_no hoa] at hC1
    have hm0 : mulC a b = 1 := by unfold mulC; rw [if_neg (fun e => hoa e.1)]
    have hl0 : listC a x (gt a.rows 0).es.length = 1 := by unfold listC; rw [if_neg hoa]
    have hTr := fun M0 I0 h1 => XTranspose_bad (X := X) (w0 := w0) (M0 := M0) (I0 := I0) (a := a) sa hoa h1
    have hM := fun M0 I0 h1 h2 => XMul_bad (X := X) (w0 := w0) (M0 := M0) (I0 := I0) (a := a) (b := b) sa sb (by rw [hm0]; decide) h1 h2
    rw [hm0] at hM
    (refine RD_callS rfl (hM _ _ memF memF) rfl rfl ?_; rintro _ _ _ ⟨rfl, rfl, rfl⟩; refine ⟨okF, ?_⟩)
    repeat (refine wXh ?_)

    (refine RD_callS rfl (hTr _ _ memF) rfl rfl ?_; rintro _ _ _ ⟨rfl, rfl, rfl⟩; refine ⟨okF, ?_⟩)
    repeat (refine wXh ?_)

    have hAp := fun M0 I0 h1 h2 => XApply_bad (X := X) (w0 := w0) (M0 := M0) (I0 := I0) (a := a) (x := x) sa sx (by rw [hl0]; decide) h1 h2
    rw [hl0] at hAp
    (refine RD_callS rfl (hAp _ _ memF memF) rfl rfl ?_; rintro _ _ _ ⟨rfl, rfl, rfl⟩; refine ⟨okF, ?_⟩)
    repeat (refine wXh ?_)

    (refine RD_vals (cs := recs eWM [a]) ([mvW a]) rfl rfl (by intro v hv; repeat (first | exact absurd hv (List.not_mem_nil) | (rcases List.mem_cons.1 hv with rfl | hv; · rfl))) (by omega) rfl rfl rfl ?_; intro c5; refine ⟨okF, ?_⟩)
    refine RD_freezeB .here ?_
    (refine RD_callS rfl (hC1 _ _ _ memF memF) rfl rfl ?_; rintro _ _ _ ⟨rfl, rfl, rfl⟩; refine ⟨okF, ?_⟩)
    repeat (refine wXh ?_)

    refine ND_ret1 (by first | exact .inl rfl | exact .inr rfl) rfl rfl _ _ subF incF (⟨rfl, rfl, congrArg Value.bool (B_true rfl)⟩)
end
end Go.Proofs.YtdmlebigkakplaaGreat
