/- The law IntersectParallax, walked (with what known answers as a premise, until it stands). Chapter 25: the example's normal equations, plain; matrices of integers that are owned. -/
import Derived.Test.YtllaoaobnnondaaGreatRZibl
import Derived.Test.YtllaoaobnnondaaGreatRZibb
import Derived.Test.YtllaoaobnnondaaGreatRZibe
set_option linter.unusedSimpArgs false
set_option linter.unusedVariables false
namespace Go.Proofs.YtllaoaobnnondaaGreatR
open Go Go.Fx
section
variable {X : List Nat} {w0 : World} {M0 : List Ent} {I0 : List Imm}
set_option maxRecDepth 100000 in
set_option maxHeartbeats 4000000 in
theorem LPar_ok {r s : YW} (hK : ∀ M0 I0, CD Tryz.prog 13 [] X w0 M0 I0 (fun v M I => M0 = M ∧ I0 = I ∧ v = .bool true)) (hr : isYW r ∈ I0) (hs : isYW s ∈ I0) :
    CD Tryz.prog 4 [ywv r, ywv s] X w0 M0 I0 (fun v M I => M0 = M ∧ I0 = I ∧ v = .bool true) := by
  refine xCD_fact (fun w hw => Hv.fitY (Hv.mem hr) hw) (fun fr => xCD_fact (fun w hw => Hv.fitY (Hv.mem hs) hw) (fun fs => ?_))
  have hSh := fun q M1 M0 I0 h1 h2 h3 h4 => lShort_ok (X := X) (w0 := w0) (M0 := M0) (I0 := I0) (q := q) (pq := none) (c := 2) (pc := 0) (n := 2) (m := 0) (ms := [r, s]) (ps := []) (M1 := M1) rfl (by decide) rfl (by decide) h1 h2 h3 h4
  refine enterD2 Tryz.func4 rfl Tryz.ntmps4 rfl ?_
  refine TD_seq ?_
  refine TD_region ?_
  (refine RD_boxA rfl rfl rfl ?_; intro b2; refine ⟨okF, ?_⟩)
  refine RD_freezeB .here ?_
  (refine RD_boxA rfl rfl rfl ?_; intro b3; refine ⟨okF, ?_⟩)
  refine RD_freezeB .here ?_
  repeat (first | (refine wXh ?_) | (apply RD_ldZIB; exact vwF; exact rfl; exact memF; (first | exact AtsZ.y0 | exact AtsZ.y1 | exact AtsZ.w0 | exact AtsZ.w1); exact rfl; exact rfl))
  repeat (refine wXh ?_)
  (refine RD_callS rfl (hK _ _) rfl rfl ?_; rintro _ _ _ ⟨rfl, rfl, rfl⟩; refine ⟨okF, ?_⟩)
  repeat (first | (refine wXh ?_) | (apply RD_ldZIB; exact vwF; exact rfl; exact memF; (first | exact AtsZ.y0 | exact AtsZ.y1 | exact AtsZ.w0 | exact AtsZ.w1); exact rfl; exact rfl))
  repeat (refine wXh ?_)
  (refine RD_vals (cs := recs eYW [r, s]) ([ywv r, ywv s]) rfl rfl (by intro v hv; repeat (first | exact absurd hv (List.not_mem_nil) | (rcases List.mem_cons.1 hv with rfl | hv; · rfl))) (by omega) rfl rfl rfl ?_; intro c1; refine ⟨okF, ?_⟩)
  refine RD_freezeB .here ?_
  refine RD_hv (φ := allYW [r, s]) (Hv.yw2 (Hv.mem memF) (Hv.mem memF)) ?_
  refine RD_hv (φ := allTW []) ⟨fun X w _ => ⟨fun x hx => by simp at hx⟩⟩ ?_
  refine RD_row0 27 12 ?_
  (refine RD_callS rfl (hSh _ _ _ _ memF memF memF rfl) rfl rfl ?_; rintro _ _ _ ⟨rfl, rfl, rfl⟩; refine ⟨okF, ?_⟩)
  by_cases hb : (r.o.brief ∧ r.a.brief) ∧ (s.o.brief ∧ s.a.brief)
  rotate_left
  · rw [B_false (fun h => hb (brief2.1 h))]
    repeat (first | (refine wXh ?_) | (apply RD_ldZIB; exact vwF; exact rfl; exact memF; (first | exact AtsZ.y0 | exact AtsZ.y1 | exact AtsZ.w0 | exact AtsZ.w1); exact rfl; exact rfl))
    repeat (refine wXh ?_)
    refine ND_ret1 (by first | exact .inl rfl | exact .inr rfl) rfl rfl _ _ subF incF (⟨rfl, rfl, rfl⟩)
  rw [B_true (brief2.2 hb)]
  obtain ⟨⟨hb1, hb2⟩, hb3, hb4⟩ := hb
  have sr := YW.sml_of hb1 hb2
  have ss := YW.sml_of hb3 hb4
  have hVr := fun M0 I0 h => lValid_ok (X := X) (w0 := w0) (M0 := M0) (I0 := I0) (r := r) sr h
  have hVs := fun M0 I0 h => lValid_ok (X := X) (w0 := w0) (M0 := M0) (I0 := I0) (r := s) ss h
  by_cases hok : r.ok ∧ s.ok
  · obtain ⟨a, b, ha, hb, ha0, hb0⟩ := ok_of fr.1 fr.2 fs.1 fs.2 hok
    have hIa : ∀ I, isYW r ∈ I → Hv I (isY a 30) := fun I h => Hv.shY ha hb1 hb2 (Hv.mem h)
    have hIb : ∀ I, isYW s ∈ I → Hv I (isY b 30) := fun I h => Hv.shY hb hb3 hb4 (Hv.mem h)
    have er : ywv r = yv a := by rw [ha]; rfl
    have es : ywv s = yv b := by rw [hb]; rfl
    have era : recs eTW [r.o, r.a] = recs eT [a.o, a.a] := by rw [ha]; rfl
    have esa : recs eTW [s.o, s.a] = recs eT [b.o, b.a] := by rw [hb]; rfl
    rw [B_true hok.1] at hVr
    rw [B_true hok.2] at hVs
    have hP := fun M0 I0 h1 h2 => Parallax_ok (X := X) (w0 := w0) (M0 := M0) (I0 := I0) (r := a) (s := b) (k := 30) (by decide) ha0 hb0 h1 h2
    rw [er] at hVr
    rw [es] at hVs
    obtain ⟨x, hx⟩ : ∃ x, x = gramD a.a.v b.a.v / (a.a.v.dot a.a.v * b.a.v.dot b.a.v) := ⟨_, rfl⟩
    rw [← hx] at hP
    obtain ⟨l1, l2, l3⟩ := parallax_law (a := a.a.v) (b := b.a.v) ha0 hb0
    rw [← hx] at l1 l2 l3
    have hSp := fun M0 I0 h1 h2 => lSpread_ok (X := X) (w0 := w0) (M0 := M0) (I0 := I0) (a := a.a) (b := b.a) (u := 30) (by decide) h1 h2
    have hDo := fun (c : TE) M0 I0 h1 h2 => lDot_ok (X := X) (w0 := w0) (M0 := M0) (I0 := I0) (a := c) (b := c) (k := 30) (m := 30) (by decide) h1 h2
    have hMu := fun (c d : RE) M0 I0 h1 h2 => rQMul_ok (X := X) (w0 := w0) (M0 := M0) (I0 := I0) (a := c) (b := d) (k := 3 * (30 + 30 + 1)) (m := 3 * (30 + 30 + 1)) (by decide) h1 h2
    have hQu := fun (c d : RE) M0 I0 h0 h1 h2 => lQuot_ok (X := X) (w0 := w0) (M0 := M0) (I0 := I0) (a := c) (b := d) (k := 24 * 30 + 13) (m := 3 * (30 + 30 + 1) + 3 * (30 + 30 + 1)) (by decide) h0 h1 h2
    have hPa := fun M0 I0 h1 h2 => lParallel_ok (X := X) (w0 := w0) (M0 := M0) (I0 := I0) (a := a.a) (b := b.a) (u := 30) (by decide) h1 h2
    rw [era, esa]
    repeat (first | (refine wXh ?_) | (apply RD_ldZIB; exact vwF; exact rfl; exact memF; (first | exact AtsZ.y0 | exact AtsZ.y1 | exact AtsZ.w0 | exact AtsZ.w1); exact rfl; exact rfl))
    repeat (refine wXh ?_)
    (refine RD_callS rfl (hP _ _ (hIa _ memF) (hIb _ memF)) rfl rfl ?_; rintro _ _ _ ⟨rfl, e, rfl, he, rfl⟩; refine ⟨okF, ?_⟩)
    repeat (first | (refine wXh ?_) | (apply RD_ldZIB; exact vwF; exact rfl; exact memF; (first | exact AtsZ.y0 | exact AtsZ.y1 | exact AtsZ.w0 | exact AtsZ.w1); exact rfl; exact rfl))
    repeat (refine wXh ?_)
    (refine RD_alloc rfl rfl ?_; intro b5; refine ⟨okF, ?_⟩)
    repeat (first | (refine wXh ?_) | (apply RD_ldZIB; exact vwF; exact rfl; exact memF; (first | exact AtsZ.y0 | exact AtsZ.y1 | exact AtsZ.w0 | exact AtsZ.w1); exact rfl; exact rfl))
    repeat (refine wXh ?_)
    (refine RD_callS rfl (hVr _ _ (Hv.mem memF)) rfl rfl ?_; rintro _ _ _ ⟨rfl, rfl, rfl⟩; refine ⟨okF, ?_⟩)
    repeat (first | (refine wXh ?_) | (apply RD_ldZIB; exact vwF; exact rfl; exact memF; (first | exact AtsZ.y0 | exact AtsZ.y1 | exact AtsZ.w0 | exact AtsZ.w1); exact rfl; exact rfl))
    repeat (refine wXh ?_)
    (refine RD_callS rfl (hVs _ _ (Hv.mem memF)) rfl rfl ?_; rintro _ _ _ ⟨rfl, rfl, rfl⟩; refine ⟨okF, ?_⟩)
    repeat (first | (refine wXh ?_) | (apply RD_ldZIB; exact vwF; exact rfl; exact memF; (first | exact AtsZ.y0 | exact AtsZ.y1 | exact AtsZ.w0 | exact AtsZ.w1); exact rfl; exact rfl))
    repeat (refine wXh ?_)
    refine TD_hv (φ := isT a.a 30) (hIa _ memF).ya ?_
    refine TD_hv (φ := isT b.a 30) (hIb _ memF).ya ?_
    refine TD_cutT (fun G M I => ∃ (b7 : Nat) (f : RE), f.q = x ∧ G = [(2, .pointer (some ⟨b2, 0, none⟩)), (3, .pointer (some ⟨b3, 0, none⟩)), (5, .pointer (some ⟨b5, 0, none⟩)), (6, .int .i64 0), (7, .pointer (some ⟨b7, 0, none⟩))] ∧ M = .blk b7 (eR f) 26 :: .blk b5 (eR e) 26 :: M0 ∧ I = isR f 2000 :: isR e (100 * (30 + 1)) :: isT b.a 30 :: isT a.a 30 :: slI (some ⟨b3, 0, none⟩) (recs eT [b.o, b.a]) :: slI (some ⟨b2, 0, none⟩) (recs eT [a.o, a.a]) :: I0) ?_ ?_
    · ((repeat refine TD_seq ?_); refine TD_rest (M0) (isT b.a 30 :: isT a.a 30 :: slI (some ⟨b3, 0, none⟩) (recs eT [b.o, b.a]) :: slI (some ⟨b2, 0, none⟩) (recs eT [a.o, a.a]) :: I0) mixed ?_)
      refine ND_restPre (fuel := 7) (listed' := #[true, true, true, true, false, true, true, true, true, false, true, true, true, true, false, false, false, false, false]) [0, 1, 2, 3, 5, 6, 7, 8, 10, 11, 12, 13] [6, 5, 6, 5, 6, 5, 6, 5, 6, 5, 6, 5] subF incF (by kernel_rfl) (by kernel_rfl) rfl rfl ?_
      repeat (refine wXh ?_)
      (apply RD_ldZIB; exact vwF; exact rfl; exact memF; (first | exact AtsZ.y0 | exact AtsZ.y1 | exact AtsZ.w0 | exact AtsZ.w1); exact rfl; exact rfl)
      repeat (refine wXh ?_)
      (apply RD_ldZIB; exact vwF; exact rfl; exact memF; (first | exact AtsZ.y0 | exact AtsZ.y1 | exact AtsZ.w0 | exact AtsZ.w1); exact rfl; exact rfl)
      repeat (refine wXh ?_)
      (apply RD_ldZIB; exact vwF; exact rfl; exact memF; (first | exact AtsZ.y0 | exact AtsZ.y1 | exact AtsZ.w0 | exact AtsZ.w1); exact rfl; exact rfl)
      repeat (refine wXh ?_)
      (apply RD_ldZIB; exact vwF; exact rfl; exact memF; (first | exact AtsZ.y0 | exact AtsZ.y1 | exact AtsZ.w0 | exact AtsZ.w1); exact rfl; exact rfl)
      repeat (refine wXh ?_)
      (apply RD_ldZIB; exact vwF; exact rfl; exact memF; (first | exact AtsZ.y0 | exact AtsZ.y1 | exact AtsZ.w0 | exact AtsZ.w1); exact rfl; exact rfl)
      repeat (refine wXh ?_)
      (apply RD_ldZIB; exact vwF; exact rfl; exact memF; (first | exact AtsZ.y0 | exact AtsZ.y1 | exact AtsZ.w0 | exact AtsZ.w1); exact rfl; exact rfl)
      repeat (refine wXh ?_)
      refine ND_restFork (fuel := 6) (i := 4) (j := 17) (by kernel_rfl) ?_ ?_
      · (refine RD_callS rfl (hSp _ _ (Hv.mem memF) (Hv.mem memF)) rfl rfl ?_; rintro _ _ _ ⟨rfl, f1, rfl, hf1, rfl⟩; refine ⟨okF, ?_⟩)
        refine RD_nil ?_
        repeat (refine wXh ?_)
        refine ND_restFork (fuel := 5) (i := 9) (j := 17) (by kernel_rfl) ?_ ?_
        · (refine RD_callS rfl (hDo a.a _ _ (Hv.mem memF) (Hv.mem memF)) rfl rfl ?_; rintro _ _ _ ⟨rfl, f2, rfl, hf2, rfl⟩; refine ⟨okF, ?_⟩)
          refine RD_nil ?_
          repeat (refine wXh ?_)
          refine ND_restFork (fuel := 4) (i := 14) (j := 17) (by kernel_rfl) ?_ ?_
          · (refine RD_callS rfl (hDo b.a _ _ (Hv.mem memF) (Hv.mem memF)) rfl rfl ?_; rintro _ _ _ ⟨rfl, f3, rfl, hf3, rfl⟩; refine ⟨okF, ?_⟩)
            refine RD_nil ?_
            repeat (refine wXh ?_)
            refine ND_restFork (fuel := 3) (i := 15) (j := 17) (by kernel_rfl) ?_ ?_
            · (refine RD_callS rfl (hMu f2 f3 _ _ (Hv.mem memF) (Hv.mem memF)) rfl rfl ?_; rintro _ _ _ ⟨rfl, f4, rfl, hf4, rfl⟩; refine ⟨okF, ?_⟩)
              refine RD_nil ?_
              repeat (refine wXh ?_)
              refine ND_restFork (fuel := 2) (i := 16) (j := 17) (by kernel_rfl) ?_ ?_
              · (refine RD_callS rfl (hQu f1 f4 _ _ (by rw [hf4, hf2, hf3]; intro h; rcases Rat.mul_eq_zero.1 h with h | h; exact ha0 h; exact hb0 h) (Hv.mem memF) (Hv.mem memF)) rfl rfl ?_; rintro _ _ _ ⟨rfl, f, rfl, hf, rfl⟩; refine ⟨okF, ?_⟩)
                refine RD_nil ?_
                refine ND_restEnd [17, 18] [0, 0] subF incF (by kernel_rfl) (by kernel_rfl) rfl rfl ?_
                repeat (refine wXh ?_)
                (refine RD_alloc rfl rfl ?_; intro b7; refine ⟨okF, ?_⟩)
                repeat (refine wXh ?_)
                refine ND_hv (φ := isR f 2000) (Hv.q (k := 24 * 30 + 13 + (3 * (30 + 30 + 1) + 3 * (30 + 30 + 1))) memF (by decide)) (ND_cut _ _ _ subG subF incF ⟨b7, f, by rw [hf, hf1, hf4, hf2, hf3, hx], rfl, rfl, rfl⟩)
              · (refine RD_alloc rfl rfl ?_; intro b7; refine ⟨okF, ?_⟩)
                refine RD_nil ?_
                refine ND_restEnd [16, 18] [0, 0] subF incF (by kernel_rfl) (by kernel_rfl) rfl rfl ?_
                repeat (refine wXh ?_)
                (refine RD_callS rfl (hQu f1 f4 _ _ (by rw [hf4, hf2, hf3]; intro h; rcases Rat.mul_eq_zero.1 h with h | h; exact ha0 h; exact hb0 h) (Hv.mem memF) (Hv.mem memF)) rfl rfl ?_; rintro _ _ _ ⟨rfl, f, rfl, hf, rfl⟩; refine ⟨okF, ?_⟩)
                repeat (refine wXh ?_)
                refine ND_hv (φ := isR f 2000) (Hv.q (k := 24 * 30 + 13 + (3 * (30 + 30 + 1) + 3 * (30 + 30 + 1))) memF (by decide)) (ND_cut _ _ _ subG subF incF ⟨b7, f, by rw [hf, hf1, hf4, hf2, hf3, hx], rfl, rfl, rfl⟩)
            · (refine RD_alloc rfl rfl ?_; intro b7; refine ⟨okF, ?_⟩)
              refine RD_nil ?_
              refine ND_restEnd [15, 16, 18] [0, 0, 0] subF incF (by kernel_rfl) (by kernel_rfl) rfl rfl ?_
              repeat (refine wXh ?_)
              (refine RD_callS rfl (hMu f2 f3 _ _ (Hv.mem memF) (Hv.mem memF)) rfl rfl ?_; rintro _ _ _ ⟨rfl, f4, rfl, hf4, rfl⟩; refine ⟨okF, ?_⟩)
              repeat (refine wXh ?_)
              (refine RD_callS rfl (hQu f1 f4 _ _ (by rw [hf4, hf2, hf3]; intro h; rcases Rat.mul_eq_zero.1 h with h | h; exact ha0 h; exact hb0 h) (Hv.mem memF) (Hv.mem memF)) rfl rfl ?_; rintro _ _ _ ⟨rfl, f, rfl, hf, rfl⟩; refine ⟨okF, ?_⟩)
              repeat (refine wXh ?_)
              refine ND_hv (φ := isR f 2000) (Hv.q (k := 24 * 30 + 13 + (3 * (30 + 30 + 1) + 3 * (30 + 30 + 1))) memF (by decide)) (ND_cut _ _ _ subG subF incF ⟨b7, f, by rw [hf, hf1, hf4, hf2, hf3, hx], rfl, rfl, rfl⟩)
          · (refine RD_alloc rfl rfl ?_; intro b7; refine ⟨okF, ?_⟩)
            refine RD_nil ?_
            refine ND_restEnd [14, 15, 16, 18] [0, 0, 0, 0] subF incF (by kernel_rfl) (by kernel_rfl) rfl rfl ?_
            repeat (refine wXh ?_)
            (refine RD_callS rfl (hDo b.a _ _ (Hv.mem memF) (Hv.mem memF)) rfl rfl ?_; rintro _ _ _ ⟨rfl, f3, rfl, hf3, rfl⟩; refine ⟨okF, ?_⟩)
            repeat (refine wXh ?_)
            (refine RD_callS rfl (hMu f2 f3 _ _ (Hv.mem memF) (Hv.mem memF)) rfl rfl ?_; rintro _ _ _ ⟨rfl, f4, rfl, hf4, rfl⟩; refine ⟨okF, ?_⟩)
            repeat (refine wXh ?_)
            (refine RD_callS rfl (hQu f1 f4 _ _ (by rw [hf4, hf2, hf3]; intro h; rcases Rat.mul_eq_zero.1 h with h | h; exact ha0 h; exact hb0 h) (Hv.mem memF) (Hv.mem memF)) rfl rfl ?_; rintro _ _ _ ⟨rfl, f, rfl, hf, rfl⟩; refine ⟨okF, ?_⟩)
            repeat (refine wXh ?_)
            refine ND_hv (φ := isR f 2000) (Hv.q (k := 24 * 30 + 13 + (3 * (30 + 30 + 1) + 3 * (30 + 30 + 1))) memF (by decide)) (ND_cut _ _ _ subG subF incF ⟨b7, f, by rw [hf, hf1, hf4, hf2, hf3, hx], rfl, rfl, rfl⟩)
        · (refine RD_alloc rfl rfl ?_; intro b7; refine ⟨okF, ?_⟩)
          refine RD_nil ?_
          refine ND_restEnd [9, 14, 15, 16, 18] [0, 0, 0, 0, 0] subF incF (by kernel_rfl) (by kernel_rfl) rfl rfl ?_
          repeat (refine wXh ?_)
          (refine RD_callS rfl (hDo a.a _ _ (Hv.mem memF) (Hv.mem memF)) rfl rfl ?_; rintro _ _ _ ⟨rfl, f2, rfl, hf2, rfl⟩; refine ⟨okF, ?_⟩)
          repeat (refine wXh ?_)
          (refine RD_callS rfl (hDo b.a _ _ (Hv.mem memF) (Hv.mem memF)) rfl rfl ?_; rintro _ _ _ ⟨rfl, f3, rfl, hf3, rfl⟩; refine ⟨okF, ?_⟩)
          repeat (refine wXh ?_)
          (refine RD_callS rfl (hMu f2 f3 _ _ (Hv.mem memF) (Hv.mem memF)) rfl rfl ?_; rintro _ _ _ ⟨rfl, f4, rfl, hf4, rfl⟩; refine ⟨okF, ?_⟩)
          repeat (refine wXh ?_)
          (refine RD_callS rfl (hQu f1 f4 _ _ (by rw [hf4, hf2, hf3]; intro h; rcases Rat.mul_eq_zero.1 h with h | h; exact ha0 h; exact hb0 h) (Hv.mem memF) (Hv.mem memF)) rfl rfl ?_; rintro _ _ _ ⟨rfl, f, rfl, hf, rfl⟩; refine ⟨okF, ?_⟩)
          repeat (refine wXh ?_)
          refine ND_hv (φ := isR f 2000) (Hv.q (k := 24 * 30 + 13 + (3 * (30 + 30 + 1) + 3 * (30 + 30 + 1))) memF (by decide)) (ND_cut _ _ _ subG subF incF ⟨b7, f, by rw [hf, hf1, hf4, hf2, hf3, hx], rfl, rfl, rfl⟩)
      · (refine RD_alloc rfl rfl ?_; intro b7; refine ⟨okF, ?_⟩)
        refine RD_nil ?_
        refine ND_restEnd [4, 9, 14, 15, 16, 18] [0, 0, 0, 0, 0, 0] subF incF (by kernel_rfl) (by kernel_rfl) rfl rfl ?_
        repeat (refine wXh ?_)
        (refine RD_callS rfl (hSp _ _ (Hv.mem memF) (Hv.mem memF)) rfl rfl ?_; rintro _ _ _ ⟨rfl, f1, rfl, hf1, rfl⟩; refine ⟨okF, ?_⟩)
        repeat (refine wXh ?_)
        (refine RD_callS rfl (hDo a.a _ _ (Hv.mem memF) (Hv.mem memF)) rfl rfl ?_; rintro _ _ _ ⟨rfl, f2, rfl, hf2, rfl⟩; refine ⟨okF, ?_⟩)
        repeat (refine wXh ?_)
        (refine RD_callS rfl (hDo b.a _ _ (Hv.mem memF) (Hv.mem memF)) rfl rfl ?_; rintro _ _ _ ⟨rfl, f3, rfl, hf3, rfl⟩; refine ⟨okF, ?_⟩)
        repeat (refine wXh ?_)
        (refine RD_callS rfl (hMu f2 f3 _ _ (Hv.mem memF) (Hv.mem memF)) rfl rfl ?_; rintro _ _ _ ⟨rfl, f4, rfl, hf4, rfl⟩; refine ⟨okF, ?_⟩)
        repeat (refine wXh ?_)
        (refine RD_callS rfl (hQu f1 f4 _ _ (by rw [hf4, hf2, hf3]; intro h; rcases Rat.mul_eq_zero.1 h with h | h; exact ha0 h; exact hb0 h) (Hv.mem memF) (Hv.mem memF)) rfl rfl ?_; rintro _ _ _ ⟨rfl, f, rfl, hf, rfl⟩; refine ⟨okF, ?_⟩)
        repeat (refine wXh ?_)
        refine ND_hv (φ := isR f 2000) (Hv.q (k := 24 * 30 + 13 + (3 * (30 + 30 + 1) + 3 * (30 + 30 + 1))) memF (by decide)) (ND_cut _ _ _ subG subF incF ⟨b7, f, by rw [hf, hf1, hf4, hf2, hf3, hx], rfl, rfl, rfl⟩)
    · rintro G M I ⟨b7, f, hf, rfl, rfl, rfl⟩
      have hSm := fun M0 I0 h1 h2 => rSame_ok (X := X) (w0 := w0) (M0 := M0) (I0 := I0) (a := e) (b := f) (k := 100 * (30 + 1)) (m := 2000) (by decide) h1 h2
      rw [B_true (by rw [he, hf])] at hSm
      have hSg := fun M0 I0 h1 => rQSign_ok (X := X) (w0 := w0) (M0 := M0) (I0 := I0) (e := e) (k := 100 * (30 + 1)) (by decide) h1
      have hWh := fun M0 I0 => rQWhole_ok (X := X) (w0 := w0) (M0 := M0) (I0 := I0) (x := 1) (by decide) (k := 0) (by decide)
      by_cases hg0 : gramD a.a.v b.a.v = 0
      · rw [B_true hg0] at hPa
        rw [(sign0 _).2 (by rw [he]; exact l3.2 hg0)] at hSg
        (repeat refine TD_seq ?_); refine TD_drawnW (.blk b7 (eR f) 26 :: .blk b5 (eR e) 26 :: M0) (isR f 2000 :: isR e (100 * (30 + 1)) :: isT b.a 30 :: isT a.a 30 :: slI (some ⟨b3, 0, none⟩) (recs eT [b.o, b.a]) :: slI (some ⟨b2, 0, none⟩) (recs eT [a.o, a.a]) :: I0) [0, 1, 2, 3, 4, 5, 6, 7, 8, 9, 10, 11, 12, 13, 14, 15, 16, 17, 18, 19, 22, 23, 24, 25, 20, 21, 26, 27, 28, 29] [6, 6, 5, 5, 5, 0, 5, 4, 4, 0, 4, 4, 2, 3, 0, 0, 2, 2, 0, 1, 2, 1, 2, 1, 0, 1, 0, 0, 0, 0] subF incF mixed (by kernel_rfl) ?_
        repeat (first | (refine wXh ?_) | (apply RD_ldZIB; exact vwF; exact rfl; exact memF; (first | exact AtsZ.y0 | exact AtsZ.y1 | exact AtsZ.w0 | exact AtsZ.w1); exact rfl; exact rfl))
        repeat (refine wXh ?_)
        (refine RD_callS rfl (hSm _ _ (Hv.mem memF) (Hv.mem memF)) rfl rfl ?_; rintro _ _ _ ⟨rfl, rfl, rfl⟩; refine ⟨okF, ?_⟩)
        repeat (first | (refine wXh ?_) | (apply RD_ldZIB; exact vwF; exact rfl; exact memF; (first | exact AtsZ.y0 | exact AtsZ.y1 | exact AtsZ.w0 | exact AtsZ.w1); exact rfl; exact rfl))
        repeat (refine wXh ?_)
        (refine RD_callS rfl (hSg _ _ (Hv.mem memF)) rfl rfl ?_; rintro _ _ _ ⟨rfl, rfl, rfl⟩; refine ⟨okF, ?_⟩)
        repeat (first | (refine wXh ?_) | (apply RD_ldZIB; exact vwF; exact rfl; exact memF; (first | exact AtsZ.y0 | exact AtsZ.y1 | exact AtsZ.w0 | exact AtsZ.w1); exact rfl; exact rfl))
        repeat (refine wXh ?_)
        (refine RD_callS rfl (hWh _ _) rfl rfl ?_; rintro _ _ _ ⟨rfl, g, rfl, hg, rfl⟩; refine ⟨okF, ?_⟩)
        have hCm := fun M0 I0 h1 h2 => rQCompare_ok (X := X) (w0 := w0) (M0 := M0) (I0 := I0) (a := e) (b := g) (k := 100 * (30 + 1)) (m := 0) (by decide) h1 h2
        have hc0 : cmpR e.q g.q ≤ 0 := cmpR_le.2 (by rw [he, hg]; exact l2)
        generalize cmpR e.q g.q = cm at *
        (refine RD_callS rfl (hCm _ _ (Hv.mem memF) (Hv.mem memF)) rfl rfl ?_; rintro _ _ _ ⟨rfl, rfl, rfl⟩; refine ⟨okF, ?_⟩)
        repeat (first | (refine wXh ?_) | (apply RD_ldZIB; exact vwF; exact rfl; exact memF; (first | exact AtsZ.y0 | exact AtsZ.y1 | exact AtsZ.w0 | exact AtsZ.w1); exact rfl; exact rfl))
        repeat (refine wXh ?_)
        (refine RD_callS rfl (hSg _ _ (Hv.mem memF)) rfl rfl ?_; rintro _ _ _ ⟨rfl, rfl, rfl⟩; refine ⟨okF, ?_⟩)
        repeat (first | (refine wXh ?_) | (apply RD_ldZIB; exact vwF; exact rfl; exact memF; (first | exact AtsZ.y0 | exact AtsZ.y1 | exact AtsZ.w0 | exact AtsZ.w1); exact rfl; exact rfl))
        repeat (refine wXh ?_)
        (refine RD_callS rfl (hPa _ _ (Hv.mem memF) (Hv.mem memF)) rfl rfl ?_; rintro _ _ _ ⟨rfl, rfl, rfl⟩; refine ⟨okF, ?_⟩)
        repeat (first | (refine wXh ?_) | (apply RD_ldZIB; exact vwF; exact rfl; exact memF; (first | exact AtsZ.y0 | exact AtsZ.y1 | exact AtsZ.w0 | exact AtsZ.w1); exact rfl; exact rfl))
        repeat (refine wXh ?_)
        refine ND_ret1 (by first | exact .inl rfl | exact .inr rfl) rfl rfl _ _ subF incF (⟨rfl, rfl, congrArg Value.bool (by rw [B_true (show (0 : Int) = 0 from rfl)]; rfl)⟩)
      · rw [B_false hg0] at hPa
        have hs1 : 0 < e.q.num.sign := (sgnP3).2 (by rw [he]; have : x ≠ 0 := fun h => hg0 (l3.1 h); grind)
        generalize e.q.num.sign = sg at *
        (repeat refine TD_seq ?_); refine TD_drawnW (.blk b7 (eR f) 26 :: .blk b5 (eR e) 26 :: M0) (isR f 2000 :: isR e (100 * (30 + 1)) :: isT b.a 30 :: isT a.a 30 :: slI (some ⟨b3, 0, none⟩) (recs eT [b.o, b.a]) :: slI (some ⟨b2, 0, none⟩) (recs eT [a.o, a.a]) :: I0) [0, 1, 2, 3, 4, 5, 6, 7, 8, 9, 10, 11, 12, 13, 14, 15, 16, 17, 18, 19, 22, 23, 24, 25, 20, 21, 26, 27, 28, 29] [6, 6, 5, 5, 5, 0, 5, 4, 4, 0, 4, 4, 2, 3, 0, 0, 2, 2, 0, 1, 2, 1, 2, 1, 0, 1, 0, 0, 0, 0] subF incF mixed (by kernel_rfl) ?_
        repeat (first | (refine wXh ?_) | (apply RD_ldZIB; exact vwF; exact rfl; exact memF; (first | exact AtsZ.y0 | exact AtsZ.y1 | exact AtsZ.w0 | exact AtsZ.w1); exact rfl; exact rfl))
        repeat (refine wXh ?_)
        (refine RD_callS rfl (hSm _ _ (Hv.mem memF) (Hv.mem memF)) rfl rfl ?_; rintro _ _ _ ⟨rfl, rfl, rfl⟩; refine ⟨okF, ?_⟩)
        repeat (first | (refine wXh ?_) | (apply RD_ldZIB; exact vwF; exact rfl; exact memF; (first | exact AtsZ.y0 | exact AtsZ.y1 | exact AtsZ.w0 | exact AtsZ.w1); exact rfl; exact rfl))
        repeat (refine wXh ?_)
        (refine RD_callS rfl (hSg _ _ (Hv.mem memF)) rfl rfl ?_; rintro _ _ _ ⟨rfl, rfl, rfl⟩; refine ⟨okF, ?_⟩)
        repeat (first | (refine wXh ?_) | (apply RD_ldZIB; exact vwF; exact rfl; exact memF; (first | exact AtsZ.y0 | exact AtsZ.y1 | exact AtsZ.w0 | exact AtsZ.w1); exact rfl; exact rfl))
        repeat (refine wXh ?_)
        (refine RD_callS rfl (hWh _ _) rfl rfl ?_; rintro _ _ _ ⟨rfl, g, rfl, hg, rfl⟩; refine ⟨okF, ?_⟩)
        have hCm := fun M0 I0 h1 h2 => rQCompare_ok (X := X) (w0 := w0) (M0 := M0) (I0 := I0) (a := e) (b := g) (k := 100 * (30 + 1)) (m := 0) (by decide) h1 h2
        have hc0 : cmpR e.q g.q ≤ 0 := cmpR_le.2 (by rw [he, hg]; exact l2)
        generalize cmpR e.q g.q = cm at *
        (refine RD_callS rfl (hCm _ _ (Hv.mem memF) (Hv.mem memF)) rfl rfl ?_; rintro _ _ _ ⟨rfl, rfl, rfl⟩; refine ⟨okF, ?_⟩)
        repeat (first | (refine wXh ?_) | (apply RD_ldZIB; exact vwF; exact rfl; exact memF; (first | exact AtsZ.y0 | exact AtsZ.y1 | exact AtsZ.w0 | exact AtsZ.w1); exact rfl; exact rfl))
        repeat (refine wXh ?_)
        (refine RD_callS rfl (hSg _ _ (Hv.mem memF)) rfl rfl ?_; rintro _ _ _ ⟨rfl, rfl, rfl⟩; refine ⟨okF, ?_⟩)
        repeat (first | (refine wXh ?_) | (apply RD_ldZIB; exact vwF; exact rfl; exact memF; (first | exact AtsZ.y0 | exact AtsZ.y1 | exact AtsZ.w0 | exact AtsZ.w1); exact rfl; exact rfl))
        repeat (refine wXh ?_)
        (refine RD_callS rfl (hPa _ _ (Hv.mem memF) (Hv.mem memF)) rfl rfl ?_; rintro _ _ _ ⟨rfl, rfl, rfl⟩; refine ⟨okF, ?_⟩)
        repeat (first | (refine wXh ?_) | (apply RD_ldZIB; exact vwF; exact rfl; exact memF; (first | exact AtsZ.y0 | exact AtsZ.y1 | exact AtsZ.w0 | exact AtsZ.w1); exact rfl; exact rfl))
        repeat (refine wXh ?_)
        refine ND_ret1 (by first | exact .inl rfl | exact .inr rfl) rfl rfl _ _ subF incF (⟨rfl, rfl, congrArg Value.bool (by rw [B_false (show ¬ sg = 0 by omega)]; rfl)⟩)
  · have hP := fun M0 I0 h1 h2 => Parallax_bad (X := X) (w0 := w0) (M0 := M0) (I0 := I0) (r := r) (s := s) sr ss hok h1 h2
    by_cases h1 : r.ok
    · have h2 : ¬ s.ok := fun h => hok ⟨h1, h⟩
      rw [B_true h1] at hVr
      rw [B_false h2] at hVs
      repeat (first | (refine wXh ?_) | (apply RD_ldZIB; exact vwF; exact rfl; exact memF; (first | exact AtsZ.y0 | exact AtsZ.y1 | exact AtsZ.w0 | exact AtsZ.w1); exact rfl; exact rfl))
      repeat (refine wXh ?_)
      (refine RD_callS rfl (hP _ _ (Hv.mem memF) (Hv.mem memF)) rfl rfl ?_; rintro _ _ _ ⟨rfl, rfl, rfl⟩; refine ⟨okF, ?_⟩)
      repeat (first | (refine wXh ?_) | (apply RD_ldZIB; exact vwF; exact rfl; exact memF; (first | exact AtsZ.y0 | exact AtsZ.y1 | exact AtsZ.w0 | exact AtsZ.w1); exact rfl; exact rfl))
      repeat (refine wXh ?_)
      (refine RD_alloc rfl rfl ?_; intro b5; refine ⟨okF, ?_⟩)
      repeat (first | (refine wXh ?_) | (apply RD_ldZIB; exact vwF; exact rfl; exact memF; (first | exact AtsZ.y0 | exact AtsZ.y1 | exact AtsZ.w0 | exact AtsZ.w1); exact rfl; exact rfl))
      repeat (refine wXh ?_)
      (refine RD_callS rfl (hVr _ _ (Hv.mem memF)) rfl rfl ?_; rintro _ _ _ ⟨rfl, rfl, rfl⟩; refine ⟨okF, ?_⟩)
      repeat (first | (refine wXh ?_) | (apply RD_ldZIB; exact vwF; exact rfl; exact memF; (first | exact AtsZ.y0 | exact AtsZ.y1 | exact AtsZ.w0 | exact AtsZ.w1); exact rfl; exact rfl))
      repeat (refine wXh ?_)
      (refine RD_callS rfl (hVs _ _ (Hv.mem memF)) rfl rfl ?_; rintro _ _ _ ⟨rfl, rfl, rfl⟩; refine ⟨okF, ?_⟩)
      repeat (first | (refine wXh ?_) | (apply RD_ldZIB; exact vwF; exact rfl; exact memF; (first | exact AtsZ.y0 | exact AtsZ.y1 | exact AtsZ.w0 | exact AtsZ.w1); exact rfl; exact rfl))
      repeat (refine wXh ?_)
      (refine RD_callS rfl (rZero25) rfl rfl ?_; rintro _ _ _ ⟨rfl, rfl, rfl⟩; refine ⟨okF, ?_⟩)
      repeat (first | (refine wXh ?_) | (apply RD_ldZIB; exact vwF; exact rfl; exact memF; (first | exact AtsZ.y0 | exact AtsZ.y1 | exact AtsZ.w0 | exact AtsZ.w1); exact rfl; exact rfl))
      repeat (refine wXh ?_)
      refine ND_ret1 (by first | exact .inl rfl | exact .inr rfl) rfl rfl _ _ subF incF (⟨rfl, rfl, rfl⟩)
    · rw [B_false h1] at hVr
      repeat (first | (refine wXh ?_) | (apply RD_ldZIB; exact vwF; exact rfl; exact memF; (first | exact AtsZ.y0 | exact AtsZ.y1 | exact AtsZ.w0 | exact AtsZ.w1); exact rfl; exact rfl))
      repeat (refine wXh ?_)
      (refine RD_callS rfl (hP _ _ (Hv.mem memF) (Hv.mem memF)) rfl rfl ?_; rintro _ _ _ ⟨rfl, rfl, rfl⟩; refine ⟨okF, ?_⟩)
      repeat (first | (refine wXh ?_) | (apply RD_ldZIB; exact vwF; exact rfl; exact memF; (first | exact AtsZ.y0 | exact AtsZ.y1 | exact AtsZ.w0 | exact AtsZ.w1); exact rfl; exact rfl))
      repeat (refine wXh ?_)
      (refine RD_alloc rfl rfl ?_; intro b5; refine ⟨okF, ?_⟩)
      repeat (first | (refine wXh ?_) | (apply RD_ldZIB; exact vwF; exact rfl; exact memF; (first | exact AtsZ.y0 | exact AtsZ.y1 | exact AtsZ.w0 | exact AtsZ.w1); exact rfl; exact rfl))
      repeat (refine wXh ?_)
      (refine RD_callS rfl (hVr _ _ (Hv.mem memF)) rfl rfl ?_; rintro _ _ _ ⟨rfl, rfl, rfl⟩; refine ⟨okF, ?_⟩)
      repeat (first | (refine wXh ?_) | (apply RD_ldZIB; exact vwF; exact rfl; exact memF; (first | exact AtsZ.y0 | exact AtsZ.y1 | exact AtsZ.w0 | exact AtsZ.w1); exact rfl; exact rfl))
      repeat (refine wXh ?_)
      (refine RD_callS rfl (rZero25) rfl rfl ?_; rintro _ _ _ ⟨rfl, rfl, rfl⟩; refine ⟨okF, ?_⟩)
      repeat (first | (refine wXh ?_) | (apply RD_ldZIB; exact vwF; exact rfl; exact memF; (first | exact AtsZ.y0 | exact AtsZ.y1 | exact AtsZ.w0 | exact AtsZ.w1); exact rfl; exact rfl))
      repeat (refine wXh ?_)
      refine ND_ret1 (by first | exact .inl rfl | exact .inr rfl) rfl rfl _ _ subF incF (⟨rfl, rfl, rfl⟩)
end
end Go.Proofs.YtllaoaobnnondaaGreatR
namespace Go.Proofs.YtllaoaobnnondaaGreatR
open Go Go.Fx
/-- the state of the sum: three rows, the right sides -/
structure LS where
  n0 : List Rat
  n1 : List Rat
  n2 : List Rat
  r : List Rat
def LS.zero : LS := ⟨[0, 0, 0], [0, 0, 0], [0, 0, 0], [0, 0, 0]⟩
def lrow (s : LS) (i : Nat) : List Rat := if i = 0 then s.n0 else if i = 1 then s.n1 else s.n2
def lput (s : LS) (i : Nat) (x : List Rat) : LS := if i = 0 then { s with n0 := x } else if i = 1 then { s with n1 := x } else { s with n2 := x }
/-- 1 - a a^T / |a|^2, times a weight -/
def lx (a : List Rat) (l w : Rat) (i j : Nat) : Rat := w * (if i = j then -(a.getD i 0 * a.getD j 0 / l) + 1 else -(a.getD i 0 * a.getD j 0 / l))
def lstep (s : LS) (a o : List Rat) (l w : Rat) (i j : Nat) : LS :=
  let x := lx a l w i j
  let t := lput s i ((lrow s i).set j ((lrow s i).getD j 0 + x))
  { t with r := t.r.set i (t.r.getD i 0 + x * o.getD j 0) }
/-- the example's rays -/
def kal (k : Nat) : List Rat := if k = 0 then [1, 0, 0] else [0, 1, 0]
def kor (k : Nat) : List Rat := if k = 0 then [0, 0, 0] else [0, 0, 2]
def lrun : Nat → LS
  | 0 => LS.zero
  | t + 1 => lstep (lrun t) (kal (t / 9)) (kor (t / 9)) 1 1 (t / 3 % 3) (t % 3)
def lsm (q : Rat) : Prop := q.num.natAbs ≤ 2 ^ 8 ∧ q.den ≤ 2 ^ 8
instance (q : Rat) : Decidable (lsm q) := inferInstanceAs (Decidable (_ ∧ _))
def LS.small (s : LS) : Prop := (s.n0.length = 3 ∧ s.n1.length = 3 ∧ s.n2.length = 3 ∧ s.r.length = 3) ∧ (∀ q ∈ s.n0, lsm q) ∧ (∀ q ∈ s.n1, lsm q) ∧ (∀ q ∈ s.n2, lsm q) ∧ ∀ q ∈ s.r, lsm q
instance (s : LS) : Decidable s.small := inferInstanceAs (Decidable (_ ∧ _))
theorem lrun_small : ∀ t : Nat, t < 19 → (lrun t).small := by decide +kernel
theorem lrun_end : ((lrun 18).n0 = [1, 0, 0] ∧ (lrun 18).n1 = [0, 1, 0]) ∧ (lrun 18).n2 = [0, 0, 2] ∧ (lrun 18).r = [0, 0, 2] := by decide +kernel
theorem lend_det : ¬ dt 3 (at2 [[1, 0, 0], [0, 1, 0], [0, 0, 2]]) = 0 := by decide +kernel
theorem lend_inv : invM 3 [[1, 0, 0], [0, 1, 0], [0, 0, 2]] = [[1, 0, 0], [0, 1, 0], [0, 0, (1 : Rat) / 2]] := by decide +kernel
theorem lrun_at {k i j : Nat} (hi : i < 3) (hj : j < 3) : lrun (9 * k + 3 * i + j + 1) = lstep (lrun (9 * k + 3 * i + j)) (kal k) (kor k) 1 1 i j := by
  rw [lrun, show (9 * k + 3 * i + j) / 9 = k by omega, show (9 * k + 3 * i + j) / 3 % 3 = i by omega, show (9 * k + 3 * i + j) % 3 = j by omega]
theorem IsR.tight {e : RE} {k m : Nat} {X : List Nat} {w : World} (h : IsR e k X w) (h1 : e.q.num.natAbs ≤ 2 ^ m) (h2 : e.q.den ≤ 2 ^ m) : IsR e m X w := ⟨h.num.tight h1, h.den.tight (by omega)⟩
/-- the post of Of, owned -/
def MkPc (R C : Nat) (F : Nat → Nat → Rat) (k : Nat) (M0 : List Ent) (I0 : List Imm) (v : Value) (M : List Ent) (I : List Imm) : Prop :=
  ∃ (bo : Nat) (rows : List MR), v = .tuple #[.slice (some ⟨bo, 0, none⟩) R R, .int .i64 0] ∧ rows.length = R ∧ (∀ r ∈ rows, r.es.length = C) ∧ (rows.map (fun r => r.es.map (·.q)) = (List.range R).map (fun i => (List.range C).map (F i))) ∧
    M = .blk bo (recs eM rows) 58 :: (rows.map entM ++ M0) ∧ I = allM rows k :: I0
section
variable {X : List Nat} {w0 : World} {M0 : List Ent} {I0 : List Imm}
set_option maxRecDepth 100000 in
set_option maxHeartbeats 1000000 in
theorem OfO_ok {rows : List IL} {R C k0 : Nat} {q : Option Addr} {c : Nat} (hl : rows.length = R) (hc : ∀ r ∈ rows, r.xs.length = C) (hR : 1 ≤ R ∧ R ≤ 64) (hC : 1 ≤ C ∧ C ≤ 64)
    (hx : ∀ r ∈ rows, ∀ x ∈ r.xs, x.natAbs ≤ 2 ^ k0 ∧ -9223372036854775808 ≤ x ∧ x ≤ 9223372036854775807) (hq : slI q (recs eIL rows) ∈ I0) (hw : allIL rows ∈ I0) :
    CD Tryz.prog 138 [.slice q rows.length c] X w0 M0 I0 (MkPc R C (fun i j => ((gt (gt rows (i : Int)).xs (j : Int) : Int) : Rat)) k0 M0 I0) := by
  have hcg : ∀ i : Nat, i < R → (gt rows (i : Int)).xs.length = C := fun i hi => hc _ (gt_mem (by omega))
  have hc0 : (gt rows 0).xs.length = C := hcg 0 (by omega)
  have hno : ¬ ∃ x ∈ rows, ¬ (x.xs.length = (gt rows 0).xs.length) := fun ⟨x, hx, hn⟩ => hn (by rw [hc x hx, hc0])
  refine enterD1 Tryz.func138 rfl Tryz.ntmps138 rfl ?_
  refine TD_seq ?_
  refine TD_region ?_
  (refine RD_boxL rfl rfl rfl ?_; intro p1; refine ⟨okF, ?_⟩)
  repeat (refine wXh ?_)
  (refine RD_callS rfl (hasIL_ok (g := 213) (fs := #[]) (cs := #[pb p1]) (fun (r : IL) => ¬ (r.xs.length = (gt rows 0).xs.length)) (by omega) memF (fun i hi => Of1_ok (q := q) (c := c) (b := p1) (by omega) memF memF)) rfl rfl ?_; rintro _ _ _ ⟨rfl, rfl, rfl⟩; refine ⟨okF, ?_⟩)
  rw [B_false hno]
  repeat (refine wXh ?_)
  (repeat refine TD_seq ?_); refine TD_drawn [0, 1, 2, 3, 4, 5, 6, 7, 8, 9] [1, 0, 1, 1, 1, 0, 0, 0, 0, 0] mixed (by kernel_rfl) ?_
  repeat (refine wXh ?_)
  have hg := fun M I (hI : ∀ φ ∈ slI (some ⟨p1, 0, none⟩) [.slice q rows.length c] :: I0, φ ∈ I) (i j : Nat) (hi : i < rows.length) (hj : j < (gt rows 0).xs.length) => Of2_ok (X := X) (w0 := w0) (M0 := M) (I0 := I) (rows := rows) (q := q) (c := c) (b := p1) (i := i) (j := j) (k0 := k0) hi (by rw [hcg i (by omega)]; omega) (hx _ (gt_mem (by omega)) _ (gt_mem (by rw [hcg i (by omega)]; omega))) (hI _ memF) (hI _ memF) (hI _ memF)
  (refine RD_callS rfl (mmade_ok (R := rows.length) (C := (gt rows 0).xs.length) (g := 214) (fs := #[]) (cs := #[pb p1]) (k0 := k0) (by omega) (by omega) (fun i j => ((gt (gt rows (i : Int)).xs (j : Int) : Int) : Rat)) hg) rfl rfl ?_; rintro _ _ _ ⟨bo, ro, rfl, h1, h2, h3, rfl, rfl⟩; refine ⟨OkD.any (SubP.drop (SubP_dropA SubP.refl)) incF, ?_⟩)
  rw [hl] at h1
  rw [hc0] at h2
  rw [hl, hc0] at h3
  repeat (refine wXh ?_)
  refine ND_rets [2, 3] (by first | exact .inl rfl | exact .inr rfl) rfl rfl rfl _ _ subF incF (⟨bo, ro, by rw [hl], h1, h2, h3, rfl, rfl⟩)
end
end Go.Proofs.YtllaoaobnnondaaGreatR
