/- The law MatrixSums, walked. -/
import Derived.Test.YtdmlebigkakplaaGreatZmbx
import Derived.Test.YtdmlebigkakplaaGreatZmbi
set_option linter.unusedSimpArgs false
set_option linter.unusedVariables false
namespace Go.Proofs.YtdmlebigkakplaaGreat
open Go Go.Fx
section
variable {X : List Nat} {w0 : World} {M0 : List Ent} {I0 : List Imm}
set_option maxRecDepth 100000 in
set_option maxHeartbeats 4000000 in
theorem LSums_ok {a b : WM} {κ : RW} (ha : isWM a ∈ I0) (hb : isWM b ∈ I0) (hκ : isW κ ∈ I0) : CD Tryz.prog 9 [mvW a, mvW b, wv κ] X w0 M0 I0 (fun v M I => M0 = M ∧ I0 = I ∧ v = .bool true) := by
  refine xCD_fact (fun w hw => Mem.fitM ha hw) (fun fa => xCD_fact (fun w hw => Mem.fitM hb hw) (fun fb => xCD_fact (fun w hw => Mem.fitR hκ hw) (fun fκ => ?_)))
  have hF := fun q M0 I0 h1 h2 => few_ok (X := X) (w0 := w0) (M0 := M0) (I0 := I0) (q := q) (c := 2) (ms := [a, b]) (by simp) h1 h2
  have hf2 : (∀ m ∈ [a, b], m.sht) ↔ a.sht ∧ b.sht := by simp
  have hSh := fun b1 M0 I0 h1 => mshort_ok (X := X) (w0 := w0) (M0 := M0) (I0 := I0) (r := (⟨some ⟨b1, 0, none⟩, 1, [κ]⟩ : WL)) h1
  have hs2 : ∀ b1 : Nat, (⟨some ⟨b1, 0, none⟩, 1, [κ]⟩ : WL).sht ↔ κ.brief := fun b1 => ⟨fun h => h.2 κ (List.Mem.head _), fun h => ⟨by show 1 ≤ 6; omega, fun e he => by rw [List.mem_singleton.1 he]; exact h⟩⟩
  refine enterD3 Tryz.func9 rfl Tryz.ntmps9 rfl ?_
  refine TD_seq ?_
  refine TD_region ?_
  (refine RD_boxA rfl rfl rfl ?_; intro b5; refine ⟨okF, ?_⟩)
  refine RD_freezeB .here ?_
  repeat (refine wXh ?_)
  (refine RD_callS rfl (known05_ok) rfl rfl ?_; rintro _ _ _ ⟨rfl, rfl, rfl⟩; refine ⟨okF, ?_⟩)
  repeat (refine wXh ?_)
  (refine RD_vals (cs := recs eWM [a, b]) ([mvW a, mvW b]) rfl rfl (by intro v hv; repeat (first | exact absurd hv (List.not_mem_nil) | (rcases List.mem_cons.1 hv with rfl | hv; · rfl))) (by omega) rfl rfl rfl ?_; intro c1; refine ⟨okF, ?_⟩)
  refine RD_freezeB .here ?_
  refine RD_hv (φ := allWM [a, b]) (Hv.wm2 memF memF) ?_
  (refine RD_callS rfl (hF _ _ _ memF memF) rfl rfl ?_; rintro _ _ _ ⟨rfl, rfl, rfl⟩; refine ⟨okF, ?_⟩)
  by_cases hs : a.sht ∧ b.sht
  rotate_left
  · rw [B_false (fun h => hs (hf2.1 h))]
    repeat (refine wXh ?_)
    refine ND_ret1 (by first | exact .inl rfl | exact .inr rfl) rfl rfl _ _ subF incF (⟨rfl, rfl, rfl⟩)
  rw [B_true (hf2.2 hs)]
  repeat (refine wXh ?_)
  (refine RD_vals (cs := recs eW [κ]) ([wv κ]) rfl rfl (by intro v hv; repeat (first | exact absurd hv (List.not_mem_nil) | (rcases List.mem_cons.1 hv with rfl | hv; · rfl))) (by omega) rfl rfl rfl ?_; intro c2; refine ⟨okF, ?_⟩)
  refine RD_freezeB .here ?_
  refine RD_hv (φ := isWL ⟨some ⟨c2, 0, none⟩, 1, [κ]⟩) (Hv.wl1 memF memF) ?_
  (refine RD_callS rfl (hSh c2 _ _ memF) rfl rfl ?_; rintro _ _ _ ⟨rfl, rfl, rfl⟩; refine ⟨okF, ?_⟩)
  by_cases hk : κ.brief
  rotate_left
  · rw [B_false (fun h => hk ((hs2 c2).1 h))]
    repeat (refine wXh ?_)
    refine ND_ret1 (by first | exact .inl rfl | exact .inr rfl) rfl rfl _ _ subF incF (⟨rfl, rfl, rfl⟩)
  rw [B_true ((hs2 c2).2 hk)]
  clear hF hf2 hSh hs2
  obtain ⟨hsa, hsb⟩ := hs
  have sa := hsa.sml
  have sb := hsb.sml
  repeat (refine wXh ?_)
  (refine RD_callS rfl (Check_ok (m := a) sa memF) rfl rfl ?_; rintro _ _ _ ⟨rfl, rfl, rfl⟩; refine ⟨okF, ?_⟩)
  repeat (refine wXh ?_)
  (refine RD_callS rfl (rCheck_ok (m := a) sa memF) rfl rfl ?_; rintro _ _ _ ⟨rfl, rfl, rfl⟩; refine ⟨okF, ?_⟩)
  repeat (refine wXh ?_)
  refine RD_hv (φ := slI a.p (recs eWL a.rows)) (Hv.wmsl memF) ?_
  refine RD_hv (φ := slI b.p (recs eWL b.rows)) (Hv.wmsl memF) ?_
  refine RD_hv (φ := allWM [a, b]) (Hv.wm2 memF memF) ?_
  have hC2 := fun q M0 I0 h1 h2 => code05_ok (X := X) (w0 := w0) (M0 := M0) (I0 := I0) (q := q) (c := 2) (ms := [a, b]) (by simp) (fun m hm => by simp at hm; rcases hm with rfl | rfl <;> assumption) h1 h2
  have hC1 := fun q M0 I0 h1 h2 => code05_ok (X := X) (w0 := w0) (M0 := M0) (I0 := I0) (q := q) (c := 1) (ms := [a]) (by simp) (fun m hm => by simp at hm; subst hm; assumption) h1 h2
  rw [code_2] at hC2
  rw [code_1] at hC1
  by_cases hoa : a.ok
  · obtain ⟨A, eA, fA⟩ := ok_raw fa hoa
    obtain ⟨a6, a6c⟩ := sht_dims eA hsa fA
    obtain ⟨ra1, ra2⟩ := fA.2.1
    obtain ⟨ca1, ca2⟩ := fA.2.2
    rw [WM.code_ok hoa] at hC1
    by_cases hob : b.ok
    · obtain ⟨B, eB, fB⟩ := ok_raw fb hob
      obtain ⟨rb1, rb2⟩ := fB.2.1
      obtain ⟨cb1, cb2⟩ := fB.2.2
      rw [if_pos ⟨hoa, hob⟩] at hC2
      by_cases hdm : a.rows.length = b.rows.length ∧ (gt a.rows 0).es.length = (gt b.rows 0).es.length
      · rw [← hdm.1, ← hdm.2] at fB
        have hAd := fun M0 I0 h1 h2 => XAdd_ok (X := X) (w0 := w0) (M0 := M0) (I0 := I0) (a := A) (b := B) (k := 30) (m := 30) (by omega) (by omega) fA fB h1 h2
        have hSb := fun M0 I0 h1 h2 => XSub_ok (X := X) (w0 := w0) (M0 := M0) (I0 := I0) (a := A) (b := B) (k := 30) (m := 30) (by omega) (by omega) fA fB h1 h2
        have hSu2 := fun (e : RE) M0 I0 h1 h2 h3 => CD_ms (Sum_own (X := X) (w0 := w0) (M0 := M0) (I0 := I0) (a := A) (b := B) (κ := e) (k0 := 30) (m := 30) (u := 0) (by omega) (by omega) (by omega) fA.1 fB.1 h1 h2 h3)
        rw [← mv_raw A, ← mv_raw B, ← eA, ← eB] at hAd hSb hSu2
        have hW := fun (x : Int) (hx : x.natAbs ≤ 1) M0 I0 => rQWhole_ok (X := X) (w0 := w0) (M0 := M0) (I0 := I0) (x := x) (by omega) (k := 0) hx
        refine RD_hv (φ := isX A 30) (Hv.shtX eA hsa memF) ?_
        refine RD_hv (φ := isX B 30) (Hv.shtX eB hsb memF) ?_
        (refine RD_callS rfl (hAd _ _ memF memF) rfl rfl ?_; rintro _ _ _ ⟨rfl, s, rfl, hs, hsd, rfl⟩; refine ⟨okF, ?_⟩)
        repeat (refine wXh ?_)
        (refine RD_callS rfl (hSb _ _ memF memF) rfl rfl ?_; rintro _ _ _ ⟨rfl, d, rfl, hd, hdd, rfl⟩; refine ⟨okF, ?_⟩)
        repeat (refine wXh ?_)
        (refine RD_vals (cs := recs eWM [a, b]) ([mvW a, mvW b]) rfl rfl (by intro v hv; repeat (first | exact absurd hv (List.not_mem_nil) | (rcases List.mem_cons.1 hv with rfl | hv; · rfl))) (by omega) rfl rfl rfl ?_; intro c4; refine ⟨okF, ?_⟩)
        refine RD_freezeB .here ?_
        (refine RD_callS rfl (hC2 _ _ _ memF memF) rfl rfl ?_; rintro _ _ _ ⟨rfl, rfl, rfl⟩; refine ⟨okF, ?_⟩)
        repeat (refine wXh ?_)
        (repeat refine TD_seq ?_); refine TD_drawn [0, 1, 2, 3, 4, 5, 6, 7, 8, 9, 10, 11, 12, 13, 14, 15, 16, 17, 18, 19] [0, 0, 0, 0, 0, 0, 0, 0, 0, 0, 0, 0, 0, 0, 0, 0, 0, 0, 0, 0] mixed (by kernel_rfl) ?_
        repeat (refine wXh ?_)
        (refine RD_callS rfl (hW 1 (by decide) _ _) rfl rfl ?_; rintro _ _ _ ⟨rfl, e1, rfl, he1, rfl⟩; refine ⟨okF, ?_⟩)
        repeat (refine wXh ?_)
        (refine RD_callS rfl (hSu2 e1 _ _ memF memF memF) rfl rfl ?_; rintro _ _ _ ⟨rfl, y1, rfl, hy1, hyd1, rfl⟩; refine ⟨okF, ?_⟩)
        repeat (refine wXh ?_)
        have hS1 := fun M0 I0 h1 h2 => same05_ok (X := X) (w0 := w0) (M0 := M0) (I0 := I0) (a := s) (b := y1) (k := 61) (m := 61) (by decide) hsd hyd1 (by omega) h1 h2
        rw [B_true (show s.q = y1.q by rw [hs, hy1, he1]; exact mkM_congr (fun i j hi hj => by grind))] at hS1
        (refine RD_callS rfl (hS1 _ _ memF memF) rfl rfl ?_; rintro _ _ _ ⟨rfl, rfl, rfl⟩; refine ⟨okF, ?_⟩)
        repeat (refine wXh ?_)
        (refine RD_callS rfl (hW (-1) (by decide) _ _) rfl rfl ?_; rintro _ _ _ ⟨rfl, e2, rfl, he2, rfl⟩; refine ⟨okF, ?_⟩)
        repeat (refine wXh ?_)
        (refine RD_callS rfl (hSu2 e2 _ _ memF memF memF) rfl rfl ?_; rintro _ _ _ ⟨rfl, y2, rfl, hy2, hyd2, rfl⟩; refine ⟨okF, ?_⟩)
        repeat (refine wXh ?_)
        have hS2 := fun M0 I0 h1 h2 => same05_ok (X := X) (w0 := w0) (M0 := M0) (I0 := I0) (a := d) (b := y2) (k := 61) (m := 61) (by decide) hdd hyd2 (by omega) h1 h2
        rw [B_true (show d.q = y2.q by rw [hd, hy2, he2]; exact mkM_congr (fun i j hi hj => by grind))] at hS2
        (refine RD_callS rfl (hS2 _ _ memF memF) rfl rfl ?_; rintro _ _ _ ⟨rfl, rfl, rfl⟩; refine ⟨okF, ?_⟩)
        clear hS1 hS2 hSu2 hAd hSb
        have hV := fun M0 I0 h1 => rValid_raw (X := X) (w0 := w0) (M0 := M0) (I0 := I0) (r := κ) hk.sml h1
        by_cases hg : κ.good
        · obtain ⟨K, eK⟩ := RW.good_raw fκ hg
          have hSc := fun M0 I0 h1 h2 => XScale_ok (X := X) (w0 := w0) (M0 := M0) (I0 := I0) (a := A) (κ := K) (k := 30) (m := 30) (by omega) (by omega) fA h1 h2
          rw [← mv_raw A, ← eA] at hSc
          rw [B_true hg] at hV
          have hZe := fun M0 I0 => CD_ms (Zeros_ok (X := X) (w0 := w0) (M0 := M0) (I0 := I0) (R := a.rows.length) (C := (gt a.rows 0).es.length) (by omega) (by omega))
          have hSu := fun (z : MX) (dz : z.dim a.rows.length (gt a.rows 0).es.length) M0 I0 h1 h2 h3 => CD_ms (Sum_own (X := X) (w0 := w0) (M0 := M0) (I0 := I0) (a := z) (b := A) (κ := K) (k0 := 0) (m := 30) (u := 30) (by omega) (by omega) (by omega) dz fA.1 h1 h2 h3)
          rw [← mv_raw A, ← eA] at hSu
          repeat (refine wXh ?_)
          refine RD_hv (φ := isX A 30) (Hv.shtX eA hsa memF) ?_
          refine RD_hv (φ := isR K 30) (Hv.shtR eK hk memF) ?_
          (refine RD_callS (vs := [mvW a, rv K]) (by subst eK; rfl) (hSc _ _ memF memF) rfl rfl ?_; rintro _ _ _ ⟨rfl, p, rfl, hp, hpd, rfl⟩; refine ⟨okF, ?_⟩)
          repeat (refine wXh ?_)
          (refine RD_vals (cs := recs eWM [a]) ([mvW a]) rfl rfl (by intro v hv; repeat (first | exact absurd hv (List.not_mem_nil) | (rcases List.mem_cons.1 hv with rfl | hv; · rfl))) (by omega) rfl rfl rfl ?_; intro c5; refine ⟨okF, ?_⟩)
          refine RD_freezeB .here ?_
          refine RD_hv (φ := allWM [a]) (Hv.wm1 memF) ?_
          (refine RD_callS rfl (hC1 _ _ _ memF memF) rfl rfl ?_; rintro _ _ _ ⟨rfl, rfl, rfl⟩; refine ⟨okF, ?_⟩)
          repeat (refine wXh ?_)
          (refine RD_callS rfl (hV _ _ (Hv.mem memF)) rfl rfl ?_; rintro _ _ _ ⟨rfl, rfl, rfl⟩; refine ⟨okF, ?_⟩)
          repeat (refine wXh ?_)
          (repeat refine TD_seq ?_); refine TD_drawn [0, 1, 2, 3, 4, 5, 6, 7, 8, 9, 11, 12, 10, 13, 14, 15, 16] [3, 3, 0, 2, 3, 2, 3, 3, 3, 2, 2, 2, 0, 0, 0, 0, 0] mixed (by kernel_rfl) ?_
          repeat (refine wXh ?_)
          (refine RD_callS rfl (hZe _ _) rfl rfl ?_; rintro _ _ _ ⟨rfl, z, rfl, hz, hzd, rfl⟩; refine ⟨okF, ?_⟩)
          repeat (refine wXh ?_)
          (refine RD_callS (vs := [mv z, mvW a, rv K]) (by subst eK; rfl) (hSu z hzd _ _ memF memF memF) rfl rfl ?_; rintro _ _ _ ⟨rfl, y, rfl, hy, hyd, rfl⟩; refine ⟨okF, ?_⟩)
          repeat (refine wXh ?_)
          have hSm := fun M0 I0 h1 h2 => same05_ok (X := X) (w0 := w0) (M0 := M0) (I0 := I0) (a := p) (b := y) (k := 60) (m := 61) (by decide) hpd hyd (by omega) h1 h2
          rw [B_true (show p.q = y.q by rw [hp, hy]; exact mkM_congr (fun i j hi hj => by rw [hz, mkM_at hi hj]; grind))] at hSm
          (refine RD_callS rfl (hSm _ _ memF memF) rfl rfl ?_; rintro _ _ _ ⟨rfl, rfl, rfl⟩; refine ⟨okF, ?_⟩)
          repeat (refine wXh ?_)
          refine ND_ret1 (by first | exact .inl rfl | exact .inr rfl) rfl rfl _ _ subF incF (⟨rfl, rfl, rfl⟩)
        · rw [B_false hg] at hV
          have hSc := fun M0 I0 h1 h2 => XScale_bad (X := X) (w0 := w0) (M0 := M0) (I0 := I0) (a := a) (κ := κ) sa hk.sml (fun e => hg e.2) h1 h2
          repeat (refine wXh ?_)
          (refine RD_callS rfl (hSc _ _ memF memF) rfl rfl ?_; rintro _ _ _ ⟨rfl, rfl, rfl⟩; refine ⟨okF, ?_⟩)
          repeat (refine wXh ?_)
          (refine RD_vals (cs := recs eWM [a]) ([mvW a]) rfl rfl (by intro v hv; repeat (first | exact absurd hv (List.not_mem_nil) | (rcases List.mem_cons.1 hv with rfl | hv; · rfl))) (by omega) rfl rfl rfl ?_; intro c5; refine ⟨okF, ?_⟩)
          refine RD_freezeB .here ?_
          refine RD_hv (φ := allWM [a]) (Hv.wm1 memF) ?_
          (refine RD_callS rfl (hC1 _ _ _ memF memF) rfl rfl ?_; rintro _ _ _ ⟨rfl, rfl, rfl⟩; refine ⟨okF, ?_⟩)
          repeat (refine wXh ?_)
          (refine RD_callS rfl (hV _ _ (Hv.mem memF)) rfl rfl ?_; rintro _ _ _ ⟨rfl, rfl, rfl⟩; refine ⟨okF, ?_⟩)
          repeat (refine wXh ?_)
          refine ND_ret1 (by first | exact .inl rfl | exact .inr rfl) rfl rfl _ _ subF incF (⟨rfl, rfl, congrArg Value.bool (B_true rfl)⟩)
      · by_cases hd1 : a.rows.length = b.rows.length
        · have hd2 : ¬ (gt a.rows 0).es.length = (gt b.rows 0).es.length := fun e => hdm ⟨hd1, e⟩
          have hb0 : bothC a b = 4 := by unfold bothC; rw [if_pos ⟨hoa, hob⟩, if_neg hdm]
          have hA := fun M0 I0 h1 h2 => XAdd_bad (X := X) (w0 := w0) (M0 := M0) (I0 := I0) (a := a) (b := b) sa sb (by rw [hb0]; decide) h1 h2
          have hB := fun M0 I0 h1 h2 => XSub_bad (X := X) (w0 := w0) (M0 := M0) (I0 := I0) (a := a) (b := b) sa sb (by rw [hb0]; decide) h1 h2
          rw [hb0] at hA hB
          (refine RD_callS rfl (hA _ _ memF memF) rfl rfl ?_; rintro _ _ _ ⟨rfl, rfl, rfl⟩; refine ⟨okF, ?_⟩)
          repeat (refine wXh ?_)
          (refine RD_callS rfl (hB _ _ memF memF) rfl rfl ?_; rintro _ _ _ ⟨rfl, rfl, rfl⟩; refine ⟨okF, ?_⟩)
          repeat (refine wXh ?_)
          (refine RD_vals (cs := recs eWM [a, b]) ([mvW a, mvW b]) rfl rfl (by intro v hv; repeat (first | exact absurd hv (List.not_mem_nil) | (rcases List.mem_cons.1 hv with rfl | hv; · rfl))) (by omega) rfl rfl rfl ?_; intro c4; refine ⟨okF, ?_⟩)
          refine RD_freezeB .here ?_
          (refine RD_callS rfl (hC2 _ _ _ memF memF) rfl rfl ?_; rintro _ _ _ ⟨rfl, rfl, rfl⟩; refine ⟨okF, ?_⟩)
          repeat (refine wXh ?_)
          (repeat refine TD_seq ?_); refine TD_drawn [0, 1, 2, 3, 4, 5, 6, 7, 8, 9, 10, 11, 12, 13, 14, 15, 16, 17, 18, 19] [0, 0, 0, 0, 0, 0, 0, 0, 0, 0, 0, 0, 0, 0, 0, 0, 0, 0, 0, 0] mixed (by kernel_rfl) ?_
          have hV := fun M0 I0 h1 => rValid_raw (X := X) (w0 := w0) (M0 := M0) (I0 := I0) (r := κ) hk.sml h1
          by_cases hg : κ.good
          · obtain ⟨K, eK⟩ := RW.good_raw fκ hg
            have hSc := fun M0 I0 h1 h2 => XScale_ok (X := X) (w0 := w0) (M0 := M0) (I0 := I0) (a := A) (κ := K) (k := 30) (m := 30) (by omega) (by omega) fA h1 h2
            rw [← mv_raw A, ← eA] at hSc
            rw [B_true hg] at hV
            have hZe := fun M0 I0 => CD_ms (Zeros_ok (X := X) (w0 := w0) (M0 := M0) (I0 := I0) (R := a.rows.length) (C := (gt a.rows 0).es.length) (by omega) (by omega))
            have hSu := fun (z : MX) (dz : z.dim a.rows.length (gt a.rows 0).es.length) M0 I0 h1 h2 h3 => CD_ms (Sum_own (X := X) (w0 := w0) (M0 := M0) (I0 := I0) (a := z) (b := A) (κ := K) (k0 := 0) (m := 30) (u := 30) (by omega) (by omega) (by omega) dz fA.1 h1 h2 h3)
            rw [← mv_raw A, ← eA] at hSu
            repeat (refine wXh ?_)
            refine RD_hv (φ := isX A 30) (Hv.shtX eA hsa memF) ?_
            refine RD_hv (φ := isR K 30) (Hv.shtR eK hk memF) ?_
            (refine RD_callS (vs := [mvW a, rv K]) (by subst eK; rfl) (hSc _ _ memF memF) rfl rfl ?_; rintro _ _ _ ⟨rfl, p, rfl, hp, hpd, rfl⟩; refine ⟨okF, ?_⟩)
            repeat (refine wXh ?_)
            (refine RD_vals (cs := recs eWM [a]) ([mvW a]) rfl rfl (by intro v hv; repeat (first | exact absurd hv (List.not_mem_nil) | (rcases List.mem_cons.1 hv with rfl | hv; · rfl))) (by omega) rfl rfl rfl ?_; intro c5; refine ⟨okF, ?_⟩)
            refine RD_freezeB .here ?_
            refine RD_hv (φ := allWM [a]) (Hv.wm1 memF) ?_
            (refine RD_callS rfl (hC1 _ _ _ memF memF) rfl rfl ?_; rintro _ _ _ ⟨rfl, rfl, rfl⟩; refine ⟨okF, ?_⟩)
            repeat (refine wXh ?_)
            (refine RD_callS rfl (hV _ _ (Hv.mem memF)) rfl rfl ?_; rintro _ _ _ ⟨rfl, rfl, rfl⟩; refine ⟨okF, ?_⟩)
            repeat (refine wXh ?_)
            (repeat refine TD_seq ?_); refine TD_drawn [0, 1, 2, 3, 4, 5, 6, 7, 8, 9, 11, 12, 10, 13, 14, 15, 16] [3, 3, 0, 2, 3, 2, 3, 3, 3, 2, 2, 2, 0, 0, 0, 0, 0] mixed (by kernel_rfl) ?_
            repeat (refine wXh ?_)
            (refine RD_callS rfl (hZe _ _) rfl rfl ?_; rintro _ _ _ ⟨rfl, z, rfl, hz, hzd, rfl⟩; refine ⟨okF, ?_⟩)
            repeat (refine wXh ?_)
            (refine RD_callS (vs := [mv z, mvW a, rv K]) (by subst eK; rfl) (hSu z hzd _ _ memF memF memF) rfl rfl ?_; rintro _ _ _ ⟨rfl, y, rfl, hy, hyd, rfl⟩; refine ⟨okF, ?_⟩)
            repeat (refine wXh ?_)
            have hSm := fun M0 I0 h1 h2 => same05_ok (X := X) (w0 := w0) (M0 := M0) (I0 := I0) (a := p) (b := y) (k := 60) (m := 61) (by decide) hpd hyd (by omega) h1 h2
            rw [B_true (show p.q = y.q by rw [hp, hy]; exact mkM_congr (fun i j hi hj => by rw [hz, mkM_at hi hj]; grind))] at hSm
            (refine RD_callS rfl (hSm _ _ memF memF) rfl rfl ?_; rintro _ _ _ ⟨rfl, rfl, rfl⟩; refine ⟨okF, ?_⟩)
            repeat (refine wXh ?_)
            refine ND_ret1 (by first | exact .inl rfl | exact .inr rfl) rfl rfl _ _ subF incF (⟨rfl, rfl, rfl⟩)
          · rw [B_false hg] at hV
            have hSc := fun M0 I0 h1 h2 => XScale_bad (X := X) (w0 := w0) (M0 := M0) (I0 := I0) (a := a) (κ := κ) sa hk.sml (fun e => hg e.2) h1 h2
            repeat (refine wXh ?_)
            (refine RD_callS rfl (hSc _ _ memF memF) rfl rfl ?_; rintro _ _ _ ⟨rfl, rfl, rfl⟩; refine ⟨okF, ?_⟩)
            repeat (refine wXh ?_)
            (refine RD_vals (cs := recs eWM [a]) ([mvW a]) rfl rfl (by intro v hv; repeat (first | exact absurd hv (List.not_mem_nil) | (rcases List.mem_cons.1 hv with rfl | hv; · rfl))) (by omega) rfl rfl rfl ?_; intro c5; refine ⟨okF, ?_⟩)
            refine RD_freezeB .here ?_
            refine RD_hv (φ := allWM [a]) (Hv.wm1 memF) ?_
            (refine RD_callS rfl (hC1 _ _ _ memF memF) rfl rfl ?_; rintro _ _ _ ⟨rfl, rfl, rfl⟩; refine ⟨okF, ?_⟩)
            repeat (refine wXh ?_)
            (refine RD_callS rfl (hV _ _ (Hv.mem memF)) rfl rfl ?_; rintro _ _ _ ⟨rfl, rfl, rfl⟩; refine ⟨okF, ?_⟩)
            repeat (refine wXh ?_)
            refine ND_ret1 (by first | exact .inl rfl | exact .inr rfl) rfl rfl _ _ subF incF (⟨rfl, rfl, congrArg Value.bool (B_true rfl)⟩)
        · -- as many columns, perhaps
          have hb0 : bothC a b = 4 := by unfold bothC; rw [if_pos ⟨hoa, hob⟩, if_neg hdm]
          have hA := fun M0 I0 h1 h2 => XAdd_bad (X := X) (w0 := w0) (M0 := M0) (I0 := I0) (a := a) (b := b) sa sb (by rw [hb0]; decide) h1 h2
          have hB := fun M0 I0 h1 h2 => XSub_bad (X := X) (w0 := w0) (M0 := M0) (I0 := I0) (a := a) (b := b) sa sb (by rw [hb0]; decide) h1 h2
          rw [hb0] at hA hB
          (refine RD_callS rfl (hA _ _ memF memF) rfl rfl ?_; rintro _ _ _ ⟨rfl, rfl, rfl⟩; refine ⟨okF, ?_⟩)
          repeat (refine wXh ?_)
          (refine RD_callS rfl (hB _ _ memF memF) rfl rfl ?_; rintro _ _ _ ⟨rfl, rfl, rfl⟩; refine ⟨okF, ?_⟩)
          repeat (refine wXh ?_)
          (refine RD_vals (cs := recs eWM [a, b]) ([mvW a, mvW b]) rfl rfl (by intro v hv; repeat (first | exact absurd hv (List.not_mem_nil) | (rcases List.mem_cons.1 hv with rfl | hv; · rfl))) (by omega) rfl rfl rfl ?_; intro c4; refine ⟨okF, ?_⟩)
          refine RD_freezeB .here ?_
          (refine RD_callS rfl (hC2 _ _ _ memF memF) rfl rfl ?_; rintro _ _ _ ⟨rfl, rfl, rfl⟩; refine ⟨okF, ?_⟩)
          repeat (refine wXh ?_)
          (repeat refine TD_seq ?_); refine TD_drawn [0, 1, 2, 3, 4, 5, 6, 7, 8, 9, 10, 11, 12, 13, 14, 15, 16, 17, 18, 19] [0, 0, 0, 0, 0, 0, 0, 0, 0, 0, 0, 0, 0, 0, 0, 0, 0, 0, 0, 0] mixed (by kernel_rfl) ?_
          have hV := fun M0 I0 h1 => rValid_raw (X := X) (w0 := w0) (M0 := M0) (I0 := I0) (r := κ) hk.sml h1
          by_cases hg : κ.good
          · obtain ⟨K, eK⟩ := RW.good_raw fκ hg
            have hSc := fun M0 I0 h1 h2 => XScale_ok (X := X) (w0 := w0) (M0 := M0) (I0 := I0) (a := A) (κ := K) (k := 30) (m := 30) (by omega) (by omega) fA h1 h2
            rw [← mv_raw A, ← eA] at hSc
            rw [B_true hg] at hV
            have hZe := fun M0 I0 => CD_ms (Zeros_ok (X := X) (w0 := w0) (M0 := M0) (I0 := I0) (R := a.rows.length) (C := (gt a.rows 0).es.length) (by omega) (by omega))
            have hSu := fun (z : MX) (dz : z.dim a.rows.length (gt a.rows 0).es.length) M0 I0 h1 h2 h3 => CD_ms (Sum_own (X := X) (w0 := w0) (M0 := M0) (I0 := I0) (a := z) (b := A) (κ := K) (k0 := 0) (m := 30) (u := 30) (by omega) (by omega) (by omega) dz fA.1 h1 h2 h3)
            rw [← mv_raw A, ← eA] at hSu
            repeat (refine wXh ?_)
            refine RD_hv (φ := isX A 30) (Hv.shtX eA hsa memF) ?_
            refine RD_hv (φ := isR K 30) (Hv.shtR eK hk memF) ?_
            (refine RD_callS (vs := [mvW a, rv K]) (by subst eK; rfl) (hSc _ _ memF memF) rfl rfl ?_; rintro _ _ _ ⟨rfl, p, rfl, hp, hpd, rfl⟩; refine ⟨okF, ?_⟩)
            repeat (refine wXh ?_)
            (refine RD_vals (cs := recs eWM [a]) ([mvW a]) rfl rfl (by intro v hv; repeat (first | exact absurd hv (List.not_mem_nil) | (rcases List.mem_cons.1 hv with rfl | hv; · rfl))) (by omega) rfl rfl rfl ?_; intro c5; refine ⟨okF, ?_⟩)
            refine RD_freezeB .here ?_
            refine RD_hv (φ := allWM [a]) (Hv.wm1 memF) ?_
            (refine RD_callS rfl (hC1 _ _ _ memF memF) rfl rfl ?_; rintro _ _ _ ⟨rfl, rfl, rfl⟩; refine ⟨okF, ?_⟩)
            repeat (refine wXh ?_)
            (refine RD_callS rfl (hV _ _ (Hv.mem memF)) rfl rfl ?_; rintro _ _ _ ⟨rfl, rfl, rfl⟩; refine ⟨okF, ?_⟩)
            repeat (refine wXh ?_)
            (repeat refine TD_seq ?_); refine TD_drawn [0, 1, 2, 3, 4, 5, 6, 7, 8, 9, 11, 12, 10, 13, 14, 15, 16] [3, 3, 0, 2, 3, 2, 3, 3, 3, 2, 2, 2, 0, 0, 0, 0, 0] mixed (by kernel_rfl) ?_
            repeat (refine wXh ?_)
            (refine RD_callS rfl (hZe _ _) rfl rfl ?_; rintro _ _ _ ⟨rfl, z, rfl, hz, hzd, rfl⟩; refine ⟨okF, ?_⟩)
            repeat (refine wXh ?_)
            (refine RD_callS (vs := [mv z, mvW a, rv K]) (by subst eK; rfl) (hSu z hzd _ _ memF memF memF) rfl rfl ?_; rintro _ _ _ ⟨rfl, y, rfl, hy, hyd, rfl⟩; refine ⟨okF, ?_⟩)
            repeat (refine wXh ?_)
            have hSm := fun M0 I0 h1 h2 => same05_ok (X := X) (w0 := w0) (M0 := M0) (I0 := I0) (a := p) (b := y) (k := 60) (m := 61) (by decide) hpd hyd (by omega) h1 h2
            rw [B_true (show p.q = y.q by rw [hp, hy]; exact mkM_congr (fun i j hi hj => by rw [hz, mkM_at hi hj]; grind))] at hSm
            (refine RD_callS rfl (hSm _ _ memF memF) rfl rfl ?_; rintro _ _ _ ⟨rfl, rfl, rfl⟩; refine ⟨okF, ?_⟩)
            repeat (refine wXh ?_)
            refine ND_ret1 (by first | exact .inl rfl | exact .inr rfl) rfl rfl _ _ subF incF (⟨rfl, rfl, rfl⟩)
          · rw [B_false hg] at hV
            have hSc := fun M0 I0 h1 h2 => XScale_bad (X := X) (w0 := w0) (M0 := M0) (I0 := I0) (a := a) (κ := κ) sa hk.sml (fun e => hg e.2) h1 h2
            repeat (refine wXh ?_)
            (refine RD_callS rfl (hSc _ _ memF memF) rfl rfl ?_; rintro _ _ _ ⟨rfl, rfl, rfl⟩; refine ⟨okF, ?_⟩)
            repeat (refine wXh ?_)
            (refine RD_vals (cs := recs eWM [a]) ([mvW a]) rfl rfl (by intro v hv; repeat (first | exact absurd hv (List.not_mem_nil) | (rcases List.mem_cons.1 hv with rfl | hv; · rfl))) (by omega) rfl rfl rfl ?_; intro c5; refine ⟨okF, ?_⟩)
            refine RD_freezeB .here ?_
            refine RD_hv (φ := allWM [a]) (Hv.wm1 memF) ?_
            (refine RD_callS rfl (hC1 _ _ _ memF memF) rfl rfl ?_; rintro _ _ _ ⟨rfl, rfl, rfl⟩; refine ⟨okF, ?_⟩)
            repeat (refine wXh ?_)
            (refine RD_callS rfl (hV _ _ (Hv.mem memF)) rfl rfl ?_; rintro _ _ _ ⟨rfl, rfl, rfl⟩; refine ⟨okF, ?_⟩)
            repeat (refine wXh ?_)
            refine ND_ret1 (by first | exact .inl rfl | exact .inr rfl) rfl rfl _ _ subF incF (⟨rfl, rfl, congrArg Value.bool (B_true rfl)⟩)
    · rw [if_neg (fun e => hob e.2)] at hC2
      have hb0 : bothC a b = 1 := by unfold bothC; rw [if_neg (fun e => hob e.2)]
      have hA := fun M0 I0 h1 h2 => XAdd_bad (X := X) (w0 := w0) (M0 := M0) (I0 := I0) (a := a) (b := b) sa sb (by rw [hb0]; decide) h1 h2
      have hB := fun M0 I0 h1 h2 => XSub_bad (X := X) (w0 := w0) (M0 := M0) (I0 := I0) (a := a) (b := b) sa sb (by rw [hb0]; decide) h1 h2
      rw [hb0] at hA hB
      (refine RD_callS rfl (hA _ _ memF memF) rfl rfl ?_; rintro _ _ _ ⟨rfl, rfl, rfl⟩; refine ⟨okF, ?_⟩)
      repeat (refine wXh ?_)
      (refine RD_callS rfl (hB _ _ memF memF) rfl rfl ?_; rintro _ _ _ ⟨rfl, rfl, rfl⟩; refine ⟨okF, ?_⟩)
      repeat (refine wXh ?_)
      (refine RD_vals (cs := recs eWM [a, b]) ([mvW a, mvW b]) rfl rfl (by intro v hv; repeat (first | exact absurd hv (List.not_mem_nil) | (rcases List.mem_cons.1 hv with rfl | hv; · rfl))) (by omega) rfl rfl rfl ?_; intro c4; refine ⟨okF, ?_⟩)
      refine RD_freezeB .here ?_
      (refine RD_callS rfl (hC2 _ _ _ memF memF) rfl rfl ?_; rintro _ _ _ ⟨rfl, rfl, rfl⟩; refine ⟨okF, ?_⟩)
      repeat (refine wXh ?_)
      (repeat refine TD_seq ?_); refine TD_drawn [0, 1, 2, 3, 4, 5, 6, 7, 8, 9, 10, 11, 12, 13, 14, 15, 16, 17, 18, 19] [0, 0, 0, 0, 0, 0, 0, 0, 0, 0, 0, 0, 0, 0, 0, 0, 0, 0, 0, 0] mixed (by kernel_rfl) ?_
      have hV := fun M0 I0 h1 => rValid_raw (X := X) (w0 := w0) (M0 := M0) (I0 := I0) (r := κ) hk.sml h1
      by_cases hg : κ.good
      · obtain ⟨K, eK⟩ := RW.good_raw fκ hg
        have hSc := fun M0 I0 h1 h2 => XScale_ok (X := X) (w0 := w0) (M0 := M0) (I0 := I0) (a := A) (κ := K) (k := 30) (m := 30) (by omega) (by omega) fA h1 h2
        rw [← mv_raw A, ← eA] at hSc
        rw [B_true hg] at hV
        have hZe := fun M0 I0 => CD_ms (Zeros_ok (X := X) (w0 := w0) (M0 := M0) (I0 := I0) (R := a.rows.length) (C := (gt a.rows 0).es.length) (by omega) (by omega))
        have hSu := fun (z : MX) (dz : z.dim a.rows.length (gt a.rows 0).es.length) M0 I0 h1 h2 h3 => CD_ms (Sum_own (X := X) (w0 := w0) (M0 := M0) (I0 := I0) (a := z) (b := A) (κ := K) (k0 := 0) (m := 30) (u := 30) (by omega) (by omega) (by omega) dz fA.1 h1 h2 h3)
        rw [← mv_raw A, ← eA] at hSu
        repeat (refine wXh ?_)
        refine RD_hv (φ := isX A 30) (Hv.shtX eA hsa memF) ?_
        refine RD_hv (φ := isR K 30) (Hv.shtR eK hk memF) ?_
        (refine RD_callS (vs := [mvW a, rv K]) (by subst eK; rfl) (hSc _ _ memF memF) rfl rfl ?_; rintro _ _ _ ⟨rfl, p, rfl, hp, hpd, rfl⟩; refine ⟨okF, ?_⟩)
        repeat (refine wXh ?_)
        (refine RD_vals (cs := recs eWM [a]) ([mvW a]) rfl rfl (by intro v hv; repeat (first | exact absurd hv (List.not_mem_nil) | (rcases List.mem_cons.1 hv with rfl | hv; · rfl))) (by omega) rfl rfl rfl ?_; intro c5; refine ⟨okF, ?_⟩)
        refine RD_freezeB .here ?_
        refine RD_hv (φ := allWM [a]) (Hv.wm1 memF) ?_
        (refine RD_callS rfl (hC1 _ _ _ memF memF) rfl rfl ?_; rintro _ _ _ ⟨rfl, rfl, rfl⟩; refine ⟨okF, ?_⟩)
        repeat (refine wXh ?_)
        (refine RD_callS rfl (hV _ _ (Hv.mem memF)) rfl rfl ?_; rintro _ _ _ ⟨rfl, rfl, rfl⟩; refine ⟨okF, ?_⟩)
        repeat (refine wXh ?_)
        (repeat refine TD_seq ?_); refine TD_drawn [0, 1, 2, 3, 4, 5, 6, 7, 8, 9, 11, 12, 10, 13, 14, 15, 16] [3, 3, 0, 2, 3, 2, 3, 3, 3, 2, 2, 2, 0, 0, 0, 0, 0] mixed (by kernel_rfl) ?_
        repeat (refine wXh ?_)
        (refine RD_callS rfl (hZe _ _) rfl rfl ?_; rintro _ _ _ ⟨rfl, z, rfl, hz, hzd, rfl⟩; refine ⟨okF, ?_⟩)
        repeat (refine wXh ?_)
        (refine RD_callS (vs := [mv z, mvW a, rv K]) (by subst eK; rfl) (hSu z hzd _ _ memF memF memF) rfl rfl ?_; rintro _ _ _ ⟨rfl, y, rfl, hy, hyd, rfl⟩; refine ⟨okF, ?_⟩)
        repeat (refine wXh ?_)
        have hSm := fun M0 I0 h1 h2 => same05_ok (X := X) (w0 := w0) (M0 := M0) (I0 := I0) (a := p) (b := y) (k := 60) (m := 61) (by decide) hpd hyd (by omega) h1 h2
        rw [B_true (show p.q = y.q by rw [hp, hy]; exact mkM_congr (fun i j hi hj => by rw [hz, mkM_at hi hj]; grind))] at hSm
        (refine RD_callS rfl (hSm _ _ memF memF) rfl rfl ?_; rintro _ _ _ ⟨rfl, rfl, rfl⟩; refine ⟨okF, ?_⟩)
        repeat (refine wXh ?_)
        refine ND_ret1 (by first | exact .inl rfl | exact .inr rfl) rfl rfl _ _ subF incF (⟨rfl, rfl, rfl⟩)
      · rw [B_false hg] at hV
        have hSc := fun M0 I0 h1 h2 => XScale_bad (X := X) (w0 := w0) (M0 := M0) (I0 := I0) (a := a) (κ := κ) sa hk.sml (fun e => hg e.2) h1 h2
        repeat (refine wXh ?_)
        (refine RD_callS rfl (hSc _ _ memF memF) rfl rfl ?_; rintro _ _ _ ⟨rfl, rfl, rfl⟩; refine ⟨okF, ?_⟩)
        repeat (refine wXh ?_)
        (refine RD_vals (cs := recs eWM [a]) ([mvW a]) rfl rfl (by intro v hv; repeat (first | exact absurd hv (List.not_mem_nil) | (rcases List.mem_cons.1 hv with rfl | hv; · rfl))) (by omega) rfl rfl rfl ?_; intro c5; refine ⟨okF, ?_⟩)
        refine RD_freezeB .here ?_
        refine RD_hv (φ := allWM [a]) (Hv.wm1 memF) ?_
        (refine RD_callS rfl (hC1 _ _ _ memF memF) rfl rfl ?_; rintro _ _ _ ⟨rfl, rfl, rfl⟩; refine ⟨okF, ?_⟩)
        repeat (refine wXh ?_)
        (refine RD_callS rfl (hV _ _ (Hv.mem memF)) rfl rfl ?_; rintro _ _ _ ⟨rfl, rfl, rfl⟩; refine ⟨okF, ?_⟩)
        repeat (refine wXh ?_)
        refine ND_ret1 (by first | exact .inl rfl | exact .inr rfl) rfl rfl _ _ subF incF (⟨rfl, rfl, congrArg Value.bool (B_true rfl)⟩)
  · rw [WM.code_no hoa] at hC1
    rw [if_neg (fun e => hoa e.1)] at hC2
    have hb0 : bothC a b = 1 := by unfold bothC; rw [if_neg (fun e => hoa e.1)]
    have hA := fun M0 I0 h1 h2 => XAdd_bad (X := X) (w0 := w0) (M0 := M0) (I0 := I0) (a := a) (b := b) sa sb (by rw [hb0]; decide) h1 h2
    have hB := fun M0 I0 h1 h2 => XSub_bad (X := X) (w0 := w0) (M0 := M0) (I0 := I0) (a := a) (b := b) sa sb (by rw [hb0]; decide) h1 h2
    rw [hb0] at hA hB
    (refine RD_callS rfl (hA _ _ memF memF) rfl rfl ?_; rintro _ _ _ ⟨rfl, rfl, rfl⟩; refine ⟨okF, ?_⟩)
    repeat (refine wXh ?_)
    (refine RD_callS rfl (hB _ _ memF memF) rfl rfl ?_; rintro _ _ _ ⟨rfl, rfl, rfl⟩; refine ⟨okF, ?_⟩)
    repeat (refine wXh ?_)
    (refine RD_vals (cs := recs eWM [a, b]) ([mvW a, mvW b]) rfl rfl (by intro v hv; repeat (first | exact absurd hv (List.not_mem_nil) | (rcases List.mem_cons.1 hv with rfl | hv; · rfl))) (by omega) rfl rfl rfl ?_; intro c4; refine ⟨okF, ?_⟩)
    refine RD_freezeB .here ?_
    (refine RD_callS rfl (hC2 _ _ _ memF memF) rfl rfl ?_; rintro _ _ _ ⟨rfl, rfl, rfl⟩; refine ⟨okF, ?_⟩)
    repeat (refine wXh ?_)
    (repeat refine TD_seq ?_); refine TD_drawn [0, 1, 2, 3, 4, 5, 6, 7, 8, 9, 10, 11, 12, 13, 14, 15, 16, 17, 18, 19] [0, 0, 0, 0, 0, 0, 0, 0, 0, 0, 0, 0, 0, 0, 0, 0, 0, 0, 0, 0] mixed (by kernel_rfl) ?_
    have hSc := fun M0 I0 h1 h2 => XScale_bad (X := X) (w0 := w0) (M0 := M0) (I0 := I0) (a := a) (κ := κ) sa hk.sml (fun e => hoa e.1) h1 h2
    repeat (refine wXh ?_)
    (refine RD_callS rfl (hSc _ _ memF memF) rfl rfl ?_; rintro _ _ _ ⟨rfl, rfl, rfl⟩; refine ⟨okF, ?_⟩)
    repeat (refine wXh ?_)
    (refine RD_vals (cs := recs eWM [a]) ([mvW a]) rfl rfl (by intro v hv; repeat (first | exact absurd hv (List.not_mem_nil) | (rcases List.mem_cons.1 hv with rfl | hv; · rfl))) (by omega) rfl rfl rfl ?_; intro c5; refine ⟨okF, ?_⟩)
    refine RD_freezeB .here ?_
    refine RD_hv (φ := allWM [a]) (Hv.wm1 memF) ?_
    (refine RD_callS rfl (hC1 _ _ _ memF memF) rfl rfl ?_; rintro _ _ _ ⟨rfl, rfl, rfl⟩; refine ⟨okF, ?_⟩)
    repeat (refine wXh ?_)
    refine ND_ret1 (by first | exact .inl rfl | exact .inr rfl) rfl rfl _ _ subF incF (⟨rfl, rfl, congrArg Value.bool (B_true rfl)⟩)
end
end Go.Proofs.YtdmlebigkakplaaGreat
