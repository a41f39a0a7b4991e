/- The law IntersectFeet, walked. -/
import Derived.Test.YtllaoaobnnondaaGreatRZibm
import Derived.Test.YtllaoaobnnondaaGreatRZibp
import Derived.Test.YtllaoaobnnondaaGreatRZibb
set_option linter.unusedSimpArgs false
set_option linter.unusedVariables false
namespace Go.Proofs.YtllaoaobnnondaaGreatR
open Go Go.Fx
section
variable {X : List Nat} {w0 : World} {M0 : List Ent} {I0 : List Imm}
set_option maxRecDepth 100000 in
set_option maxHeartbeats 4000000 in
theorem LFeet_ok {r s : YW} (hr : isYW r ∈ I0) (hs : isYW s ∈ I0) :
    CD Tryz.prog 3 [ywv r, ywv s] X w0 M0 I0 (fun v M I => M0 = M ∧ I0 = I ∧ v = .bool true) := by
  refine xCD_fact (fun w hw => Hv.fitY (Hv.mem hr) hw) (fun fr => xCD_fact (fun w hw => Hv.fitY (Hv.mem hs) hw) (fun fs => ?_))
  have hSh := fun q M1 M0 I0 h1 h2 h3 h4 => lShort_ok (X := X) (w0 := w0) (M0 := M0) (I0 := I0) (q := q) (pq := none) (c := 2) (pc := 0) (n := 2) (m := 0) (ms := [r, s]) (ps := []) (M1 := M1) rfl (by decide) rfl (by decide) h1 h2 h3 h4
  refine enterD2 Tryz.func3 rfl Tryz.ntmps3 rfl ?_
  refine TD_seq ?_
  refine TD_region ?_
  (refine RD_boxA rfl rfl rfl ?_; intro b2; refine ⟨okF, ?_⟩)
  refine RD_freezeB .here ?_
  (refine RD_boxA rfl rfl rfl ?_; intro b3; refine ⟨okF, ?_⟩)
  refine RD_freezeB .here ?_
  repeat (first | (refine wXh ?_) | (apply RD_ldZIB; exact vwF; exact rfl; exact memF; (first | exact AtsZ.y0 | exact AtsZ.y1 | exact AtsZ.w0 | exact AtsZ.w1); exact rfl; exact rfl))
  repeat (refine wXh ?_)
  (refine RD_callS rfl (known25_ok) rfl rfl ?_; rintro _ _ _ ⟨rfl, rfl, rfl⟩; refine ⟨okF, ?_⟩)
  repeat (first | (refine wXh ?_) | (apply RD_ldZIB; exact vwF; exact rfl; exact memF; (first | exact AtsZ.y0 | exact AtsZ.y1 | exact AtsZ.w0 | exact AtsZ.w1); exact rfl; exact rfl))
  repeat (refine wXh ?_)
  (refine RD_vals (cs := recs eYW [r, s]) ([ywv r, ywv s]) rfl rfl (by intro v hv; repeat (first | exact absurd hv (List.not_mem_nil) | (rcases List.mem_cons.1 hv with rfl | hv; · rfl))) (by omega) rfl rfl rfl ?_; intro c1; refine ⟨okF, ?_⟩)
  refine RD_freezeB .here ?_
  refine RD_hv (φ := allYW [r, s]) (Hv.yw2 (Hv.mem memF) (Hv.mem memF)) ?_
  refine RD_hv (φ := allTW []) ⟨fun X w _ => ⟨fun x hx => by simp at hx⟩⟩ ?_
  refine RD_row0 27 12 ?_
  (refine RD_callS rfl (hSh _ _ _ _ memF memF memF rfl) rfl rfl ?_; rintro _ _ _ ⟨rfl, rfl, rfl⟩; refine ⟨okF, ?_⟩)
  by_cases hb : (r.o.brief ∧ r.a.brief) ∧ (s.o.brief ∧ s.a.brief)
  rotate_left
  · rw [B_false (fun h => hb (brief2.1 h))]
    repeat (first | (refine wXh ?_) | (apply RD_ldZIB; exact vwF; exact rfl; exact memF; (first | exact AtsZ.y0 | exact AtsZ.y1 | exact AtsZ.w0 | exact AtsZ.w1); exact rfl; exact rfl))
    repeat (refine wXh ?_)
    refine ND_ret1 (by first | exact .inl rfl | exact .inr rfl) rfl rfl _ _ subF incF (⟨rfl, rfl, rfl⟩)
  rw [B_true (brief2.2 hb)]
  obtain ⟨⟨hb1, hb2⟩, hb3, hb4⟩ := hb
  have sr := YW.sml_of hb1 hb2
  have ss := YW.sml_of hb3 hb4
  have hVr := fun M0 I0 h => lValid_ok (X := X) (w0 := w0) (M0 := M0) (I0 := I0) (r := r) sr h
  have hVs := fun M0 I0 h => lValid_ok (X := X) (w0 := w0) (M0 := M0) (I0 := I0) (r := s) ss h
  by_cases hok : r.ok ∧ s.ok
  · obtain ⟨a, b, ha, hb, ha0, hb0⟩ := ok_of fr.1 fr.2 fs.1 fs.2 hok
    have hIa : ∀ I, isYW r ∈ I → Hv I (isY a 30) := fun I h => Hv.shY ha hb1 hb2 (Hv.mem h)
    have hIb : ∀ I, isYW s ∈ I → Hv I (isY b 30) := fun I h => Hv.shY hb hb3 hb4 (Hv.mem h)
    have er : ywv r = yv a := by rw [ha]; rfl
    have es : ywv s = yv b := by rw [hb]; rfl
    have era : recs eTW [r.o, r.a] = recs eT [a.o, a.a] := by rw [ha]; rfl
    have esa : recs eTW [s.o, s.a] = recs eT [b.o, b.a] := by rw [hb]; rfl
    rw [B_true hok.1] at hVr
    rw [B_true hok.2] at hVs
    rw [er] at hVr
    rw [es] at hVs
    rw [era, esa]
    have hPa := fun M0 I0 h1 h2 => lParallel_ok (X := X) (w0 := w0) (M0 := M0) (I0 := I0) (a := a.a) (b := b.a) (u := 30) (by decide) h1 h2
    by_cases hg0 : gramD a.a.v b.a.v = 0
    · rw [B_true hg0] at hPa
      have hF := fun M0 I0 h1 h2 => Foot_deg (X := X) (w0 := w0) (M0 := M0) (I0 := I0) (r := a) (s := b) (k := 30) (by decide) ha0 hb0 hg0 h1 h2
      have hG := fun M0 I0 h1 h2 => Gap_par (X := X) (w0 := w0) (M0 := M0) (I0 := I0) (r := a) (s := b) (k := 30) (by decide) ha0 hb0 hg0 h1 h2
      have hM := fun M0 I0 h1 h2 => lMiss_ok (X := X) (w0 := w0) (M0 := M0) (I0 := I0) (r := a) (p := b.o) (k := 30) (by decide) ha0 h1 h2
      repeat (first | (refine wXh ?_) | (apply RD_ldZIB; exact vwF; exact rfl; exact memF; (first | exact AtsZ.y0 | exact AtsZ.y1 | exact AtsZ.w0 | exact AtsZ.w1); exact rfl; exact rfl))
      repeat (refine wXh ?_)
      (refine RD_callS rfl (hF _ _ (hIa _ memF) (hIb _ memF)) rfl rfl ?_; rintro _ _ _ ⟨rfl, rfl, rfl⟩; refine ⟨okF, ?_⟩)
      repeat (first | (refine wXh ?_) | (apply RD_ldZIB; exact vwF; exact rfl; exact memF; (first | exact AtsZ.y0 | exact AtsZ.y1 | exact AtsZ.w0 | exact AtsZ.w1); exact rfl; exact rfl))
      repeat (refine wXh ?_)
      (refine RD_alloc rfl rfl ?_; intro b5; refine ⟨okF, ?_⟩)
      (refine RD_alloc rfl rfl ?_; intro b6; refine ⟨okF, ?_⟩)
      repeat (first | (refine wXh ?_) | (apply RD_ldZIB; exact vwF; exact rfl; exact memF; (first | exact AtsZ.y0 | exact AtsZ.y1 | exact AtsZ.w0 | exact AtsZ.w1); exact rfl; exact rfl))
      repeat (refine wXh ?_)
      (refine RD_callS rfl (hG _ _ (hIa _ memF) (hIb _ memF)) rfl rfl ?_; rintro _ _ _ ⟨rfl, g, rfl, hgq, rfl⟩; refine ⟨okF, ?_⟩)
      repeat (first | (refine wXh ?_) | (apply RD_ldZIB; exact vwF; exact rfl; exact memF; (first | exact AtsZ.y0 | exact AtsZ.y1 | exact AtsZ.w0 | exact AtsZ.w1); exact rfl; exact rfl))
      repeat (refine wXh ?_)
      (refine RD_alloc rfl rfl ?_; intro b8; refine ⟨okF, ?_⟩)
      repeat (first | (refine wXh ?_) | (apply RD_ldZIB; exact vwF; exact rfl; exact memF; (first | exact AtsZ.y0 | exact AtsZ.y1 | exact AtsZ.w0 | exact AtsZ.w1); exact rfl; exact rfl))
      repeat (refine wXh ?_)
      (refine RD_callS rfl (hVr _ _ (Hv.mem memF)) rfl rfl ?_; rintro _ _ _ ⟨rfl, rfl, rfl⟩; refine ⟨okF, ?_⟩)
      repeat (first | (refine wXh ?_) | (apply RD_ldZIB; exact vwF; exact rfl; exact memF; (first | exact AtsZ.y0 | exact AtsZ.y1 | exact AtsZ.w0 | exact AtsZ.w1); exact rfl; exact rfl))
      repeat (refine wXh ?_)
      (refine RD_callS rfl (hVs _ _ (Hv.mem memF)) rfl rfl ?_; rintro _ _ _ ⟨rfl, rfl, rfl⟩; refine ⟨okF, ?_⟩)
      repeat (first | (refine wXh ?_) | (apply RD_ldZIB; exact vwF; exact rfl; exact memF; (first | exact AtsZ.y0 | exact AtsZ.y1 | exact AtsZ.w0 | exact AtsZ.w1); exact rfl; exact rfl))
      repeat (refine wXh ?_)
      (refine RD_callS rfl (hPa _ _ (Hv.ya (hIa _ memF)) (Hv.ya (hIb _ memF))) rfl rfl ?_; rintro _ _ _ ⟨rfl, rfl, rfl⟩; refine ⟨okF, ?_⟩)
      repeat (first | (refine wXh ?_) | (apply RD_ldZIB; exact vwF; exact rfl; exact memF; (first | exact AtsZ.y0 | exact AtsZ.y1 | exact AtsZ.w0 | exact AtsZ.w1); exact rfl; exact rfl))
      repeat (refine wXh ?_)
      refine TD_hv (φ := isY a 30) (hIa _ memF) ?_
      refine TD_hv (φ := isT b.o 30) (hIb _ memF).yo ?_
      (repeat refine TD_seq ?_); refine TD_drawnW (.blk b8 (eR g) 26 :: M0) (isT b.o 30 :: isY a 30 :: isR g (2000 * (30 + 1)) :: slI (some ⟨b3, 0, none⟩) (recs eT [b.o, b.a]) :: slI (some ⟨b2, 0, none⟩) (recs eT [a.o, a.a]) :: I0) [0, 1, 2, 3, 4, 5, 6, 7, 8, 9, 10, 11, 12, 13, 14] [2, 2, 2, 2, 2, 2, 0, 1, 1, 2, 1, 0, 0, 0, 0] subF incF mixed (by kernel_rfl) ?_
      repeat (first | (refine wXh ?_) | (apply RD_ldZIB; exact vwF; exact rfl; exact memF; (first | exact AtsZ.y0 | exact AtsZ.y1 | exact AtsZ.w0 | exact AtsZ.w1); exact rfl; exact rfl))
      repeat (refine wXh ?_)
      (refine RD_callS rfl (hM _ _ (Hv.mem memF) (Hv.mem memF)) rfl rfl ?_; rintro _ _ _ ⟨rfl, m, rfl, hmq, rfl⟩; refine ⟨okF, ?_⟩)
      have hSm := fun M0 I0 h1 h2 => rSame_ok (X := X) (w0 := w0) (M0 := M0) (I0 := I0) (a := g) (b := m) (k := 2000 * (30 + 1)) (m := 100 * (30 + 1)) (by decide) h1 h2
      rw [B_true (by rw [hgq, hmq])] at hSm
      (refine RD_callS rfl (hSm _ _ (Hv.mem memF) (Hv.mem memF)) rfl rfl ?_; rintro _ _ _ ⟨rfl, rfl, rfl⟩; refine ⟨okF, ?_⟩)
      repeat (first | (refine wXh ?_) | (apply RD_ldZIB; exact vwF; exact rfl; exact memF; (first | exact AtsZ.y0 | exact AtsZ.y1 | exact AtsZ.w0 | exact AtsZ.w1); exact rfl; exact rfl))
      repeat (refine wXh ?_)
      refine ND_ret1 (by first | exact .inl rfl | exact .inr rfl) rfl rfl _ _ subF incF (⟨rfl, rfl, rfl⟩)
    · rw [B_false hg0] at hPa
      have hF := fun M0 I0 h1 h2 => Foot_ok (X := X) (w0 := w0) (M0 := M0) (I0 := I0) (r := a) (s := b) (k := 30) (by decide) ha0 hb0 hg0 h1 h2
      have hG := fun M0 I0 h1 h2 => Gap_ok (X := X) (w0 := w0) (M0 := M0) (I0 := I0) (r := a) (s := b) (k := 30) (by decide) ha0 hb0 hg0 h1 h2
      have hVl := fun (e : RE) M0 I0 h1 => rValid_okR (X := X) (w0 := w0) (M0 := M0) (I0 := I0) (e := e) (k := 100 * (30 + 1)) (by decide) h1
      have hPl := fun (x y : TE) (e : RE) M0 I0 h1 h2 h3 => lPlus_ok (X := X) (w0 := w0) (M0 := M0) (I0 := I0) (a := x) (b := y) (s := e) (u := 30) (m := 30) (v := 100 * (30 + 1)) (by decide) h1 h2 h3
      have hMi := fun (x y : TE) M0 I0 h1 h2 => lMinus_ok (X := X) (w0 := w0) (M0 := M0) (I0 := I0) (a := x) (b := y) (u := 30 + (100 * (30 + 1) + 30) + 1) (m := 30 + (100 * (30 + 1) + 30) + 1) (by decide) h1 h2
      have hD := fun (x y : TE) M0 I0 h1 h2 => lDot_ok (X := X) (w0 := w0) (M0 := M0) (I0 := I0) (a := x) (b := y) (k := 7000) (m := 30) (by decide) h1 h2
      have hDD := fun (x : TE) M0 I0 h1 h2 => lDot_ok (X := X) (w0 := w0) (M0 := M0) (I0 := I0) (a := x) (b := x) (k := 7000) (m := 7000) (by decide) h1 h2
      have hSg := fun (e : RE) (h : e.q = 0) M0 I0 h1 => by
        have := rQSign_ok (X := X) (w0 := w0) (M0 := M0) (I0 := I0) (e := e) (k := 3 * (7000 + 30 + 1)) (by decide) h1
        rw [(sign0 _).2 h] at this
        exact this
      repeat (first | (refine wXh ?_) | (apply RD_ldZIB; exact vwF; exact rfl; exact memF; (first | exact AtsZ.y0 | exact AtsZ.y1 | exact AtsZ.w0 | exact AtsZ.w1); exact rfl; exact rfl))
      repeat (refine wXh ?_)
      (refine RD_callS rfl (hF _ _ (hIa _ memF) (hIb _ memF)) rfl rfl ?_; rintro _ _ _ ⟨rfl, e, f, rfl, he, hf, rfl⟩; refine ⟨okF, ?_⟩)
      repeat (first | (refine wXh ?_) | (apply RD_ldZIB; exact vwF; exact rfl; exact memF; (first | exact AtsZ.y0 | exact AtsZ.y1 | exact AtsZ.w0 | exact AtsZ.w1); exact rfl; exact rfl))
      repeat (refine wXh ?_)
      (refine RD_alloc rfl rfl ?_; intro b5; refine ⟨okF, ?_⟩)
      (refine RD_alloc rfl rfl ?_; intro b6; refine ⟨okF, ?_⟩)
      repeat (first | (refine wXh ?_) | (apply RD_ldZIB; exact vwF; exact rfl; exact memF; (first | exact AtsZ.y0 | exact AtsZ.y1 | exact AtsZ.w0 | exact AtsZ.w1); exact rfl; exact rfl))
      repeat (refine wXh ?_)
      (refine RD_callS rfl (hG _ _ (hIa _ memF) (hIb _ memF)) rfl rfl ?_; rintro _ _ _ ⟨rfl, g, rfl, hgq, rfl⟩; refine ⟨okF, ?_⟩)
      repeat (first | (refine wXh ?_) | (apply RD_ldZIB; exact vwF; exact rfl; exact memF; (first | exact AtsZ.y0 | exact AtsZ.y1 | exact AtsZ.w0 | exact AtsZ.w1); exact rfl; exact rfl))
      repeat (refine wXh ?_)
      (refine RD_alloc rfl rfl ?_; intro b8; refine ⟨okF, ?_⟩)
      repeat (first | (refine wXh ?_) | (apply RD_ldZIB; exact vwF; exact rfl; exact memF; (first | exact AtsZ.y0 | exact AtsZ.y1 | exact AtsZ.w0 | exact AtsZ.w1); exact rfl; exact rfl))
      repeat (refine wXh ?_)
      (refine RD_callS rfl (hVr _ _ (Hv.mem memF)) rfl rfl ?_; rintro _ _ _ ⟨rfl, rfl, rfl⟩; refine ⟨okF, ?_⟩)
      repeat (first | (refine wXh ?_) | (apply RD_ldZIB; exact vwF; exact rfl; exact memF; (first | exact AtsZ.y0 | exact AtsZ.y1 | exact AtsZ.w0 | exact AtsZ.w1); exact rfl; exact rfl))
      repeat (refine wXh ?_)
      (refine RD_callS rfl (hVs _ _ (Hv.mem memF)) rfl rfl ?_; rintro _ _ _ ⟨rfl, rfl, rfl⟩; refine ⟨okF, ?_⟩)
      repeat (first | (refine wXh ?_) | (apply RD_ldZIB; exact vwF; exact rfl; exact memF; (first | exact AtsZ.y0 | exact AtsZ.y1 | exact AtsZ.w0 | exact AtsZ.w1); exact rfl; exact rfl))
      repeat (refine wXh ?_)
      (refine RD_callS rfl (hPa _ _ (Hv.ya (hIa _ memF)) (Hv.ya (hIb _ memF))) rfl rfl ?_; rintro _ _ _ ⟨rfl, rfl, rfl⟩; refine ⟨okF, ?_⟩)
      repeat (first | (refine wXh ?_) | (apply RD_ldZIB; exact vwF; exact rfl; exact memF; (first | exact AtsZ.y0 | exact AtsZ.y1 | exact AtsZ.w0 | exact AtsZ.w1); exact rfl; exact rfl))
      repeat (refine wXh ?_)
      (refine RD_callS rfl (hVl e _ _ (Hv.mem memF)) rfl rfl ?_; rintro _ _ _ ⟨rfl, rfl, rfl⟩; refine ⟨okF, ?_⟩)
      repeat (first | (refine wXh ?_) | (apply RD_ldZIB; exact vwF; exact rfl; exact memF; (first | exact AtsZ.y0 | exact AtsZ.y1 | exact AtsZ.w0 | exact AtsZ.w1); exact rfl; exact rfl))
      repeat (refine wXh ?_)
      (refine RD_callS rfl (hVl f _ _ (Hv.mem memF)) rfl rfl ?_; rintro _ _ _ ⟨rfl, rfl, rfl⟩; refine ⟨okF, ?_⟩)
      repeat (first | (refine wXh ?_) | (apply RD_ldZIB; exact vwF; exact rfl; exact memF; (first | exact AtsZ.y0 | exact AtsZ.y1 | exact AtsZ.w0 | exact AtsZ.w1); exact rfl; exact rfl))
      repeat (refine wXh ?_)
      refine TD_hv (φ := isY a 30) (hIa _ memF) ?_
      refine TD_hv (φ := isY b 30) (hIb _ memF) ?_
      refine TD_cutT (fun G M I => ∃ (b10 : Nat) (d : TE), d.v = gapV a.o.v a.a.v b.o.v b.a.v ∧ G = [(2, .pointer (some ⟨b2, 0, none⟩)), (3, .pointer (some ⟨b3, 0, none⟩)), (8, .pointer (some ⟨b8, 0, none⟩)), (10, .pointer (some ⟨b10, 0, none⟩))] ∧ M = .blk b10 (eT d) 27 :: .blk b8 (eR g) 26 :: M0 ∧ I = isT d 7000 :: isY b 30 :: isY a 30 :: isR g (2000 * (30 + 1)) :: slI (some ⟨b3, 0, none⟩) (recs eT [b.o, b.a]) :: slI (some ⟨b2, 0, none⟩) (recs eT [a.o, a.a]) :: I0) ?_ ?_
      · ((repeat refine TD_seq ?_); refine TD_rest (.blk b8 (eR g) 26 :: .blk b6 (eR f) 26 :: .blk b5 (eR e) 26 :: M0) (isY b 30 :: isY a 30 :: isR g (2000 * (30 + 1)) :: isR f (100 * (30 + 1)) :: isR e (100 * (30 + 1)) :: slI (some ⟨b3, 0, none⟩) (recs eT [b.o, b.a]) :: slI (some ⟨b2, 0, none⟩) (recs eT [a.o, a.a]) :: I0) mixed ?_)
        refine ND_restPre (fuel := 5) (listed' := #[true, true, true, true, true, false, true, true, true, true, true, false, false, false, false]) [0, 1, 2, 3, 4, 6, 7, 8, 9, 10] [4, 3, 3, 4, 3, 4, 3, 3, 4, 3] subF incF (by kernel_rfl) (by kernel_rfl) rfl rfl ?_
        repeat (refine wXh ?_)
        (apply RD_ldZIB; exact vwF; exact rfl; exact memF; (first | exact AtsZ.y0 | exact AtsZ.y1 | exact AtsZ.w0 | exact AtsZ.w1); exact rfl; exact rfl)
        repeat (refine wXh ?_)
        (apply RD_ldZIB; exact vwF; exact rfl; exact memF; (first | exact AtsZ.y0 | exact AtsZ.y1 | exact AtsZ.w0 | exact AtsZ.w1); exact rfl; exact rfl)
        repeat (refine wXh ?_)
        (apply RD_ldZIB; exact vwF; exact rfl; exact memF; (first | exact AtsZ.y0 | exact AtsZ.y1 | exact AtsZ.w0 | exact AtsZ.w1); exact rfl; exact rfl)
        repeat (refine wXh ?_)
        (apply RD_ldZIB; exact vwF; exact rfl; exact memF; (first | exact AtsZ.y0 | exact AtsZ.y1 | exact AtsZ.w0 | exact AtsZ.w1); exact rfl; exact rfl)
        repeat (refine wXh ?_)
        refine ND_restFork (fuel := 4) (i := 5) (j := 13) (by kernel_rfl) ?_ ?_
        · (refine RD_callS rfl (hPl a.o a.a e _ _ (Hv.yo (Hv.mem (φ := isY a 30) memF)) (Hv.ya (Hv.mem (φ := isY a 30) memF)) (Hv.mem memF)) rfl rfl ?_; rintro _ _ _ ⟨rfl, x, rfl, hx, rfl⟩; refine ⟨okF, ?_⟩)
          refine RD_nil ?_
          repeat (refine wXh ?_)
          refine ND_restFork (fuel := 3) (i := 11) (j := 13) (by kernel_rfl) ?_ ?_
          · (refine RD_callS rfl (hPl b.o b.a f _ _ (Hv.yo (Hv.mem (φ := isY b 30) memF)) (Hv.ya (Hv.mem (φ := isY b 30) memF)) (Hv.mem memF)) rfl rfl ?_; rintro _ _ _ ⟨rfl, y, rfl, hy, rfl⟩; refine ⟨okF, ?_⟩)
            refine RD_nil ?_
            repeat (refine wXh ?_)
            refine ND_restFork (fuel := 2) (i := 12) (j := 13) (by kernel_rfl) ?_ ?_
            · (refine RD_callS rfl (hMi x y _ _ (Hv.mem memF) (Hv.mem memF)) rfl rfl ?_; rintro _ _ _ ⟨rfl, d, rfl, hdv, rfl⟩; refine ⟨okF, ?_⟩)
              refine RD_nil ?_
              refine ND_restEnd [13, 14] [0, 0] subF incF (by kernel_rfl) (by kernel_rfl) rfl rfl ?_
              repeat (refine wXh ?_)
              (refine RD_alloc rfl rfl ?_; intro b10; refine ⟨okF, ?_⟩)
              repeat (refine wXh ?_)
              (refine ND_hv (φ := isT d 7000) (Hv.upT (k := 30 + (100 * (30 + 1) + 30) + 1 + (30 + (100 * (30 + 1) + 30) + 1) + 1) (Hv.mem memF) (by decide)) ?_; exact ND_cut _ _ _ subG subF incF ⟨b10, d, by rw [hdv, hx, hy, he, hf]; rfl, rfl, rfl, rfl⟩)
            · (refine RD_alloc rfl rfl ?_; intro b10; refine ⟨okF, ?_⟩)
              refine RD_nil ?_
              refine ND_restEnd [12, 14] [0, 0] subF incF (by kernel_rfl) (by kernel_rfl) rfl rfl ?_
              repeat (refine wXh ?_)
              (refine RD_callS rfl (hMi x y _ _ (Hv.mem memF) (Hv.mem memF)) rfl rfl ?_; rintro _ _ _ ⟨rfl, d, rfl, hdv, rfl⟩; refine ⟨okF, ?_⟩)
              repeat (refine wXh ?_)
              (refine ND_hv (φ := isT d 7000) (Hv.upT (k := 30 + (100 * (30 + 1) + 30) + 1 + (30 + (100 * (30 + 1) + 30) + 1) + 1) (Hv.mem memF) (by decide)) ?_; exact ND_cut _ _ _ subG subF incF ⟨b10, d, by rw [hdv, hx, hy, he, hf]; rfl, rfl, rfl, rfl⟩)
          · (refine RD_alloc rfl rfl ?_; intro b10; refine ⟨okF, ?_⟩)
            refine RD_nil ?_
            refine ND_restEnd [11, 12, 14] [0, 0, 0] subF incF (by kernel_rfl) (by kernel_rfl) rfl rfl ?_
            repeat (refine wXh ?_)
            (refine RD_callS rfl (hPl b.o b.a f _ _ (Hv.yo (Hv.mem (φ := isY b 30) memF)) (Hv.ya (Hv.mem (φ := isY b 30) memF)) (Hv.mem memF)) rfl rfl ?_; rintro _ _ _ ⟨rfl, y, rfl, hy, rfl⟩; refine ⟨okF, ?_⟩)
            repeat (refine wXh ?_)
            (refine RD_callS rfl (hMi x y _ _ (Hv.mem memF) (Hv.mem memF)) rfl rfl ?_; rintro _ _ _ ⟨rfl, d, rfl, hdv, rfl⟩; refine ⟨okF, ?_⟩)
            repeat (refine wXh ?_)
            (refine ND_hv (φ := isT d 7000) (Hv.upT (k := 30 + (100 * (30 + 1) + 30) + 1 + (30 + (100 * (30 + 1) + 30) + 1) + 1) (Hv.mem memF) (by decide)) ?_; exact ND_cut _ _ _ subG subF incF ⟨b10, d, by rw [hdv, hx, hy, he, hf]; rfl, rfl, rfl, rfl⟩)
        · (refine RD_alloc rfl rfl ?_; intro b10; refine ⟨okF, ?_⟩)
          refine RD_nil ?_
          refine ND_restEnd [5, 11, 12, 14] [0, 0, 0, 0] subF incF (by kernel_rfl) (by kernel_rfl) rfl rfl ?_
          repeat (refine wXh ?_)
          (refine RD_callS rfl (hPl a.o a.a e _ _ (Hv.yo (Hv.mem (φ := isY a 30) memF)) (Hv.ya (Hv.mem (φ := isY a 30) memF)) (Hv.mem memF)) rfl rfl ?_; rintro _ _ _ ⟨rfl, x, rfl, hx, rfl⟩; refine ⟨okF, ?_⟩)
          repeat (refine wXh ?_)
          (refine RD_callS rfl (hPl b.o b.a f _ _ (Hv.yo (Hv.mem (φ := isY b 30) memF)) (Hv.ya (Hv.mem (φ := isY b 30) memF)) (Hv.mem memF)) rfl rfl ?_; rintro _ _ _ ⟨rfl, y, rfl, hy, rfl⟩; refine ⟨okF, ?_⟩)
          repeat (refine wXh ?_)
          (refine RD_callS rfl (hMi x y _ _ (Hv.mem memF) (Hv.mem memF)) rfl rfl ?_; rintro _ _ _ ⟨rfl, d, rfl, hdv, rfl⟩; refine ⟨okF, ?_⟩)
          repeat (refine wXh ?_)
          (refine ND_hv (φ := isT d 7000) (Hv.upT (k := 30 + (100 * (30 + 1) + 30) + 1 + (30 + (100 * (30 + 1) + 30) + 1) + 1) (Hv.mem memF) (by decide)) ?_; exact ND_cut _ _ _ subG subF incF ⟨b10, d, by rw [hdv, hx, hy, he, hf]; rfl, rfl, rfl, rfl⟩)
      · rintro G M I ⟨b10, d, hdv, rfl, rfl, rfl⟩
        (repeat refine TD_seq ?_); refine TD_drawnW (.blk b10 (eT d) 27 :: .blk b8 (eR g) 26 :: M0) (isT d 7000 :: isY b 30 :: isY a 30 :: isR g (2000 * (30 + 1)) :: slI (some ⟨b3, 0, none⟩) (recs eT [b.o, b.a]) :: slI (some ⟨b2, 0, none⟩) (recs eT [a.o, a.a]) :: I0) [0, 1, 2, 3, 4, 5, 6, 7, 8, 9, 10, 11, 12, 13, 14, 15, 16, 17, 18, 19, 20, 21] [5, 6, 5, 0, 0, 4, 2, 3, 4, 3, 0, 0, 2, 2, 0, 1, 1, 1, 0, 0, 0, 0] subF incF mixed (by kernel_rfl) ?_
        repeat (first | (refine wXh ?_) | (apply RD_ldZIB; exact vwF; exact rfl; exact memF; (first | exact AtsZ.y0 | exact AtsZ.y1 | exact AtsZ.w0 | exact AtsZ.w1); exact rfl; exact rfl))
        repeat (refine wXh ?_)
        (refine RD_callS rfl (hD d a.a _ _ (Hv.mem memF) (Hv.ya (Hv.mem (φ := isY a 30) memF))) rfl rfl ?_; rintro _ _ _ ⟨rfl, f1, rfl, hf1, rfl⟩; refine ⟨okF, ?_⟩)
        (refine RD_callS rfl (hSg f1 (by rw [hf1, hdv]; exact gap_a hg0) _ _ (Hv.mem memF)) rfl rfl ?_; rintro _ _ _ ⟨rfl, rfl, rfl⟩; refine ⟨okF, ?_⟩)
        repeat (first | (refine wXh ?_) | (apply RD_ldZIB; exact vwF; exact rfl; exact memF; (first | exact AtsZ.y0 | exact AtsZ.y1 | exact AtsZ.w0 | exact AtsZ.w1); exact rfl; exact rfl))
        repeat (refine wXh ?_)
        (refine RD_callS rfl (hD d b.a _ _ (Hv.mem memF) (Hv.ya (Hv.mem (φ := isY b 30) memF))) rfl rfl ?_; rintro _ _ _ ⟨rfl, f2, rfl, hf2, rfl⟩; refine ⟨okF, ?_⟩)
        (refine RD_callS rfl (hSg f2 (by rw [hf2, hdv]; exact gap_b hg0) _ _ (Hv.mem memF)) rfl rfl ?_; rintro _ _ _ ⟨rfl, rfl, rfl⟩; refine ⟨okF, ?_⟩)
        repeat (first | (refine wXh ?_) | (apply RD_ldZIB; exact vwF; exact rfl; exact memF; (first | exact AtsZ.y0 | exact AtsZ.y1 | exact AtsZ.w0 | exact AtsZ.w1); exact rfl; exact rfl))
        repeat (refine wXh ?_)
        (refine RD_callS rfl (hDD d _ _ (Hv.mem memF) (Hv.mem memF)) rfl rfl ?_; rintro _ _ _ ⟨rfl, f3, rfl, hf3, rfl⟩; refine ⟨okF, ?_⟩)
        have hSm := fun M0 I0 h1 h2 => rSame_ok (X := X) (w0 := w0) (M0 := M0) (I0 := I0) (a := g) (b := f3) (k := 2000 * (30 + 1)) (m := 3 * (7000 + 7000 + 1)) (by decide) h1 h2
        rw [B_true (by rw [hgq, hf3, hdv])] at hSm
        (refine RD_callS rfl (hSm _ _ (Hv.mem memF) (Hv.mem memF)) rfl rfl ?_; rintro _ _ _ ⟨rfl, rfl, rfl⟩; refine ⟨okF, ?_⟩)
        repeat (first | (refine wXh ?_) | (apply RD_ldZIB; exact vwF; exact rfl; exact memF; (first | exact AtsZ.y0 | exact AtsZ.y1 | exact AtsZ.w0 | exact AtsZ.w1); exact rfl; exact rfl))
        repeat (refine wXh ?_)
        refine ND_ret1 (by first | exact .inl rfl | exact .inr rfl) rfl rfl _ _ subF incF (⟨rfl, rfl, rfl⟩)
  · have hF := fun M0 I0 h1 h2 => Foot_bad (X := X) (w0 := w0) (M0 := M0) (I0 := I0) (r := r) (s := s) sr ss hok h1 h2
    have hG := fun M0 I0 h1 h2 => Gap_bad (X := X) (w0 := w0) (M0 := M0) (I0 := I0) (r := r) (s := s) sr ss hok h1 h2
    by_cases h1 : r.ok
    · have h2 : ¬ s.ok := fun h => hok ⟨h1, h⟩
      rw [B_true h1] at hVr
      rw [B_false h2] at hVs
      repeat (first | (refine wXh ?_) | (apply RD_ldZIB; exact vwF; exact rfl; exact memF; (first | exact AtsZ.y0 | exact AtsZ.y1 | exact AtsZ.w0 | exact AtsZ.w1); exact rfl; exact rfl))
      repeat (refine wXh ?_)
      (refine RD_callS rfl (hF _ _ (Hv.mem memF) (Hv.mem memF)) rfl rfl ?_; rintro _ _ _ ⟨rfl, rfl, rfl⟩; refine ⟨okF, ?_⟩)
      repeat (first | (refine wXh ?_) | (apply RD_ldZIB; exact vwF; exact rfl; exact memF; (first | exact AtsZ.y0 | exact AtsZ.y1 | exact AtsZ.w0 | exact AtsZ.w1); exact rfl; exact rfl))
      repeat (refine wXh ?_)
      (refine RD_alloc rfl rfl ?_; intro b5; refine ⟨okF, ?_⟩)
      (refine RD_alloc rfl rfl ?_; intro b6; refine ⟨okF, ?_⟩)
      repeat (first | (refine wXh ?_) | (apply RD_ldZIB; exact vwF; exact rfl; exact memF; (first | exact AtsZ.y0 | exact AtsZ.y1 | exact AtsZ.w0 | exact AtsZ.w1); exact rfl; exact rfl))
      repeat (refine wXh ?_)
      (refine RD_callS rfl (hG _ _ (Hv.mem memF) (Hv.mem memF)) rfl rfl ?_; rintro _ _ _ ⟨rfl, rfl, rfl⟩; refine ⟨okF, ?_⟩)
      repeat (first | (refine wXh ?_) | (apply RD_ldZIB; exact vwF; exact rfl; exact memF; (first | exact AtsZ.y0 | exact AtsZ.y1 | exact AtsZ.w0 | exact AtsZ.w1); exact rfl; exact rfl))
      repeat (refine wXh ?_)
      (refine RD_alloc rfl rfl ?_; intro b8; refine ⟨okF, ?_⟩)
      repeat (first | (refine wXh ?_) | (apply RD_ldZIB; exact vwF; exact rfl; exact memF; (first | exact AtsZ.y0 | exact AtsZ.y1 | exact AtsZ.w0 | exact AtsZ.w1); exact rfl; exact rfl))
      repeat (refine wXh ?_)
      (refine RD_callS rfl (hVr _ _ (Hv.mem memF)) rfl rfl ?_; rintro _ _ _ ⟨rfl, rfl, rfl⟩; refine ⟨okF, ?_⟩)
      repeat (first | (refine wXh ?_) | (apply RD_ldZIB; exact vwF; exact rfl; exact memF; (first | exact AtsZ.y0 | exact AtsZ.y1 | exact AtsZ.w0 | exact AtsZ.w1); exact rfl; exact rfl))
      repeat (refine wXh ?_)
      (refine RD_callS rfl (hVs _ _ (Hv.mem memF)) rfl rfl ?_; rintro _ _ _ ⟨rfl, rfl, rfl⟩; refine ⟨okF, ?_⟩)
      repeat (first | (refine wXh ?_) | (apply RD_ldZIB; exact vwF; exact rfl; exact memF; (first | exact AtsZ.y0 | exact AtsZ.y1 | exact AtsZ.w0 | exact AtsZ.w1); exact rfl; exact rfl))
      repeat (refine wXh ?_)
      (refine RD_callS rfl (rZero25) rfl rfl ?_; rintro _ _ _ ⟨rfl, rfl, rfl⟩; refine ⟨okF, ?_⟩)
      repeat (first | (refine wXh ?_) | (apply RD_ldZIB; exact vwF; exact rfl; exact memF; (first | exact AtsZ.y0 | exact AtsZ.y1 | exact AtsZ.w0 | exact AtsZ.w1); exact rfl; exact rfl))
      repeat (refine wXh ?_)
      (refine RD_callS rfl (rZero25) rfl rfl ?_; rintro _ _ _ ⟨rfl, rfl, rfl⟩; refine ⟨okF, ?_⟩)
      repeat (first | (refine wXh ?_) | (apply RD_ldZIB; exact vwF; exact rfl; exact memF; (first | exact AtsZ.y0 | exact AtsZ.y1 | exact AtsZ.w0 | exact AtsZ.w1); exact rfl; exact rfl))
      repeat (refine wXh ?_)
      (refine RD_callS rfl (rZero25) rfl rfl ?_; rintro _ _ _ ⟨rfl, rfl, rfl⟩; refine ⟨okF, ?_⟩)
      repeat (first | (refine wXh ?_) | (apply RD_ldZIB; exact vwF; exact rfl; exact memF; (first | exact AtsZ.y0 | exact AtsZ.y1 | exact AtsZ.w0 | exact AtsZ.w1); exact rfl; exact rfl))
      repeat (refine wXh ?_)
      refine ND_ret1 (by first | exact .inl rfl | exact .inr rfl) rfl rfl _ _ subF incF (⟨rfl, rfl, rfl⟩)
    · rw [B_false h1] at hVr
      repeat (first | (refine wXh ?_) | (apply RD_ldZIB; exact vwF; exact rfl; exact memF; (first | exact AtsZ.y0 | exact AtsZ.y1 | exact AtsZ.w0 | exact AtsZ.w1); exact rfl; exact rfl))
      repeat (refine wXh ?_)
      (refine RD_callS rfl (hF _ _ (Hv.mem memF) (Hv.mem memF)) rfl rfl ?_; rintro _ _ _ ⟨rfl, rfl, rfl⟩; refine ⟨okF, ?_⟩)
      repeat (first | (refine wXh ?_) | (apply RD_ldZIB; exact vwF; exact rfl; exact memF; (first | exact AtsZ.y0 | exact AtsZ.y1 | exact AtsZ.w0 | exact AtsZ.w1); exact rfl; exact rfl))
      repeat (refine wXh ?_)
      (refine RD_alloc rfl rfl ?_; intro b5; refine ⟨okF, ?_⟩)
      (refine RD_alloc rfl rfl ?_; intro b6; refine ⟨okF, ?_⟩)
      repeat (first | (refine wXh ?_) | (apply RD_ldZIB; exact vwF; exact rfl; exact memF; (first | exact AtsZ.y0 | exact AtsZ.y1 | exact AtsZ.w0 | exact AtsZ.w1); exact rfl; exact rfl))
      repeat (refine wXh ?_)
      (refine RD_callS rfl (hG _ _ (Hv.mem memF) (Hv.mem memF)) rfl rfl ?_; rintro _ _ _ ⟨rfl, rfl, rfl⟩; refine ⟨okF, ?_⟩)
      repeat (first | (refine wXh ?_) | (apply RD_ldZIB; exact vwF; exact rfl; exact memF; (first | exact AtsZ.y0 | exact AtsZ.y1 | exact AtsZ.w0 | exact AtsZ.w1); exact rfl; exact rfl))
      repeat (refine wXh ?_)
      (refine RD_alloc rfl rfl ?_; intro b8; refine ⟨okF, ?_⟩)
      repeat (first | (refine wXh ?_) | (apply RD_ldZIB; exact vwF; exact rfl; exact memF; (first | exact AtsZ.y0 | exact AtsZ.y1 | exact AtsZ.w0 | exact AtsZ.w1); exact rfl; exact rfl))
      repeat (refine wXh ?_)
      (refine RD_callS rfl (hVr _ _ (Hv.mem memF)) rfl rfl ?_; rintro _ _ _ ⟨rfl, rfl, rfl⟩; refine ⟨okF, ?_⟩)
      repeat (first | (refine wXh ?_) | (apply RD_ldZIB; exact vwF; exact rfl; exact memF; (first | exact AtsZ.y0 | exact AtsZ.y1 | exact AtsZ.w0 | exact AtsZ.w1); exact rfl; exact rfl))
      repeat (refine wXh ?_)
      (refine RD_callS rfl (rZero25) rfl rfl ?_; rintro _ _ _ ⟨rfl, rfl, rfl⟩; refine ⟨okF, ?_⟩)
      repeat (first | (refine wXh ?_) | (apply RD_ldZIB; exact vwF; exact rfl; exact memF; (first | exact AtsZ.y0 | exact AtsZ.y1 | exact AtsZ.w0 | exact AtsZ.w1); exact rfl; exact rfl))
      repeat (refine wXh ?_)
      (refine RD_callS rfl (rZero25) rfl rfl ?_; rintro _ _ _ ⟨rfl, rfl, rfl⟩; refine ⟨okF, ?_⟩)
      repeat (first | (refine wXh ?_) | (apply RD_ldZIB; exact vwF; exact rfl; exact memF; (first | exact AtsZ.y0 | exact AtsZ.y1 | exact AtsZ.w0 | exact AtsZ.w1); exact rfl; exact rfl))
      repeat (refine wXh ?_)
      (refine RD_callS rfl (rZero25) rfl rfl ?_; rintro _ _ _ ⟨rfl, rfl, rfl⟩; refine ⟨okF, ?_⟩)
      repeat (first | (refine wXh ?_) | (apply RD_ldZIB; exact vwF; exact rfl; exact memF; (first | exact AtsZ.y0 | exact AtsZ.y1 | exact AtsZ.w0 | exact AtsZ.w1); exact rfl; exact rfl))
      repeat (refine wXh ?_)
      refine ND_ret1 (by first | exact .inl rfl | exact .inr rfl) rfl rfl _ _ subF incF (⟨rfl, rfl, rfl⟩)
end
end Go.Proofs.YtllaoaobnnondaaGreatR
