/- The law IntersectForms, walked. -/
import Derived.Test.YtllaoaobnnondaaGreatRZibm
import Derived.Test.YtllaoaobnnondaaGreatRZibp
import Derived.Test.YtllaoaobnnondaaGreatRZibb
set_option linter.unusedSimpArgs false
set_option linter.unusedVariables false
namespace Go.Proofs.YtllaoaobnnondaaGreatR
open Go Go.Fx
theorem formsB {r : YW} {σ : RW} {π : TW} : (∀ p ∈ [π, (⟨σ, σ, σ⟩ : TW)] ++ flatY [r], p.brief) ↔ (π.brief ∧ σ.brief) ∧ r.o.brief ∧ r.a.brief := by
  show (∀ p ∈ [π, (⟨σ, σ, σ⟩ : TW), r.o, r.a], p.brief) ↔ _
  constructor
  · intro h
    exact ⟨⟨h _ (by simp), h ⟨σ, σ, σ⟩ (by simp) σ (by simp)⟩, h _ (by simp), h _ (by simp)⟩
  · rintro ⟨⟨h1, h2⟩, h3, h4⟩ p hp
    simp only [List.mem_cons, List.not_mem_nil, or_false] at hp
    rcases hp with rfl | rfl | rfl | rfl
    · exact h1
    · intro e he
      simp only [List.mem_cons, List.not_mem_nil, or_false, or_self] at he
      subst he; exact h2
    · exact h3
    · exact h4
theorem ok_one {r : YW} (hr : ∀ e ∈ r.o.es, e.Fit) (hr2 : ∀ e ∈ r.a.es, e.Fit) (h : r.ok) : ∃ a : YE, r = a.raw ∧ a.a.v.dot a.a.v ≠ 0 := YW.ok_raw hr hr2 h
theorem Hv.fitT {I : List Imm} {p : TW} {X : List Nat} {w0 w : World} {M : List Ent} (h : Hv I (isTW p)) (hw : Mem X w0 M I w) : ∀ e ∈ p.es, e.Fit := fun e he => ((h.go _ w (fun φ hφ => (hw.imm φ hφ).2)).el e he).fit
theorem Hv.fitW {I : List Imm} {p : RW} {X : List Nat} {w0 w : World} {M : List Ent} (h : Hv I (isW p)) (hw : Mem X w0 M I w) : p.Fit := (h.go _ w (fun φ hφ => (hw.imm φ hφ).2)).fit
theorem Hv.yw0 {I : List Imm} {r : YW} (h : Hv I (isYW r)) : Hv I (allYW [r]) := ⟨fun X w hw => ⟨fun x hx => by rw [List.mem_singleton.1 hx]; exact h.go X w hw⟩⟩
theorem Hv.tw2 {I : List Imm} {π : TW} {σ : RW} (h : isTW π ∈ I) (h2 : isW σ ∈ I) : Hv I (allTW [π, ⟨σ, σ, σ⟩]) := ⟨fun X w hw => ⟨fun x hx => by
  simp only [List.mem_cons, List.not_mem_nil, or_false] at hx
  rcases hx with rfl | rfl
  · exact hw _ h
  · exact ⟨fun e he => by
      simp only [List.mem_cons, List.not_mem_nil, or_false, or_self] at he
      subst he
      exact hw _ h2⟩⟩⟩
section
variable {X : List Nat} {w0 : World} {M0 : List Ent} {I0 : List Imm}
set_option maxRecDepth 100000 in
set_option maxHeartbeats 8000000 in
theorem LForms_ok {r : YW} {σ : RW} {π : TW} (hr : isYW r ∈ I0) (hσ : isW σ ∈ I0) (hπ : isTW π ∈ I0) :
    CD Tryz.prog 5 [ywv r, wv σ, twv π] X w0 M0 I0 (fun v M I => M0 = M ∧ I0 = I ∧ v = .bool true) := by
  refine xCD_fact (fun w hw => Hv.fitY (Hv.mem hr) hw) (fun fr => xCD_fact (fun w hw => Hv.fitW (Hv.mem hσ) hw) (fun fs => xCD_fact (fun w hw => Hv.fitT (Hv.mem hπ) hw) (fun fp => ?_)))
  have hSh := fun q pq M1 M0 I0 h1 h2 h3 h4 => lShort_ok (X := X) (w0 := w0) (M0 := M0) (I0 := I0) (q := q) (pq := pq) (c := 1) (pc := 2) (n := 1) (m := 2) (ms := [r]) (ps := [π, ⟨σ, σ, σ⟩]) (M1 := M1) rfl (by decide) rfl (by decide) h1 h2 h3 h4
  refine enterD3 Tryz.func5 rfl Tryz.ntmps5 rfl ?_
  refine TD_seq ?_
  refine TD_region ?_
  (refine RD_boxA rfl rfl rfl ?_; intro b3; refine ⟨okF, ?_⟩)
  refine RD_freezeB .here ?_
  (refine RD_boxA rfl rfl rfl ?_; intro b4; refine ⟨okF, ?_⟩)
  refine RD_freezeB .here ?_
  (refine RD_boxA rfl rfl rfl ?_; intro b5; refine ⟨okF, ?_⟩)
  refine RD_freezeB .here ?_
  repeat (first | (refine wXh ?_) | (apply RD_ldZIB; exact vwF; exact rfl; exact memF; (first | exact AtsZ.y0 | exact AtsZ.y1 | exact AtsZ.w0 | exact AtsZ.w1); exact rfl; exact rfl))
  repeat (refine wXh ?_)
  (refine RD_callS rfl (known25_ok) rfl rfl ?_; rintro _ _ _ ⟨rfl, rfl, rfl⟩; refine ⟨okF, ?_⟩)
  repeat (first | (refine wXh ?_) | (apply RD_ldZIB; exact vwF; exact rfl; exact memF; (first | exact AtsZ.y0 | exact AtsZ.y1 | exact AtsZ.w0 | exact AtsZ.w1); exact rfl; exact rfl))
  repeat (refine wXh ?_)
  (refine RD_vals (cs := recs eYW [r]) ([ywv r]) rfl rfl (by intro v hv; repeat (first | exact absurd hv (List.not_mem_nil) | (rcases List.mem_cons.1 hv with rfl | hv; · rfl))) (by omega) rfl rfl rfl ?_; intro c1; refine ⟨okF, ?_⟩)
  refine RD_freezeB .here ?_
  repeat (first | (refine wXh ?_) | (apply RD_ldZIB; exact vwF; exact rfl; exact memF; (first | exact AtsZ.y0 | exact AtsZ.y1 | exact AtsZ.w0 | exact AtsZ.w1); exact rfl; exact rfl))
  repeat (refine wXh ?_)
  (refine RD_c rfl (fun _ => Const_arrC (vals := [wv σ, wv σ, wv σ]) (cells := recs eW [σ, σ, σ]) rfl ?hpl rfl ?hz) rfl rfl ?_; (case hpl => exact (by intro v hv; repeat (first | exact absurd hv (List.not_mem_nil) | (rcases List.mem_cons.1 hv with rfl | hv; · rfl)))); (case hz => rfl))
  (refine RD_vals (cs := recs eTW [π, ⟨σ, σ, σ⟩]) ([twv π, twv ⟨σ, σ, σ⟩]) rfl rfl (by intro v hv; repeat (first | exact absurd hv (List.not_mem_nil) | (rcases List.mem_cons.1 hv with rfl | hv; · rfl))) (by omega) rfl rfl rfl ?_; intro c2; refine ⟨okF, ?_⟩)
  refine RD_toRow (mm := 2) 12 repF rfl (by decide) ?_
  refine RD_hv (φ := allYW [r]) (Hv.yw0 (Hv.mem memF)) ?_
  refine RD_hv (φ := allTW [π, ⟨σ, σ, σ⟩]) (Hv.tw2 memF memF) ?_
  (refine RD_callS rfl (hSh _ _ _ _ _ memF memF memF rfl) rfl rfl ?_; rintro _ _ _ ⟨rfl, rfl, rfl⟩; refine ⟨okF, ?_⟩)
  by_cases hb : (π.brief ∧ σ.brief) ∧ r.o.brief ∧ r.a.brief
  rotate_left
  · rw [B_false (fun h => hb (formsB.1 h))]
    repeat (first | (refine wXh ?_) | (apply RD_ldZIB; exact vwF; exact rfl; exact memF; (first | exact AtsZ.y0 | exact AtsZ.y1 | exact AtsZ.w0 | exact AtsZ.w1); exact rfl; exact rfl))
    repeat (refine wXh ?_)
    refine ND_ret1 (by first | exact .inl rfl | exact .inr rfl) rfl rfl _ _ subF incF (⟨rfl, rfl, rfl⟩)
  rw [B_true (formsB.2 hb)]
  obtain ⟨⟨hb1, hb2⟩, hb3, hb4⟩ := hb
  have sr := YW.sml_of hb3 hb4
  have sp := hb1.sml
  have ss : σ.sml := ⟨by have := hb2.1; omega, by have := hb2.2.1; omega⟩
  have hVr := fun M0 I0 h => lValid_ok (X := X) (w0 := w0) (M0 := M0) (I0 := I0) (r := r) sr h
  have hVs := fun M0 I0 h => rValid_raw (X := X) (w0 := w0) (M0 := M0) (I0 := I0) (r := σ) ss h
  have hVp := fun b M0 I0 h1 => rValidList_ok (X := X) (w0 := w0) (M0 := M0) (I0 := I0) (r := π.wl b 0) ⟨by show 3 ≤ 1000000; omega, sp⟩ h1
  have hAb := fun h M0 I0 h1 h2 => At_bad (X := X) (w0 := w0) (M0 := M0) (I0 := I0) (r := r) (s := σ) sr ss h h1 h2
  have hFb := fun h M0 I0 h1 h2 => Front_bad (X := X) (w0 := w0) (M0 := M0) (I0 := I0) (r := r) (p := π) sr sp h h1 h2
  have hCb := fun q M0 I0 h1 h2 => iCheck_ok (X := X) (w0 := w0) (M0 := M0) (I0 := I0) (q := q) (c := 1) (n := 1) (ms := [r]) rfl (by decide) (fun x hx => by rw [List.mem_singleton.1 hx]; exact sr) h1 h2
  by_cases hok : r.ok
  · obtain ⟨a, ha, ha0⟩ := ok_one fr.1 fr.2 hok
    have hIa : ∀ I, isYW r ∈ I → Hv I (isY a 30) := fun I h => Hv.shY ha hb3 hb4 (Hv.mem h)
    have er : ywv r = yv a := by rw [ha]; rfl
    have era : recs eTW [r.o, r.a] = recs eT [a.o, a.a] := by rw [ha]; rfl
    rw [B_true hok] at hVr
    rw [er] at hVr hAb hFb
    have hC := fun q M0 I0 h1 h2 => Check1X_ok (X := X) (w0 := w0) (M0 := M0) (I0 := I0) (q := q) (c := 1) (k := 30) (r := a) (by decide) ha0 h1 h2
    rw [era]
    by_cases hsg : σ.good
    · rw [B_true hsg] at hVs
      obtain ⟨e, he⟩ := RW.good_raw fs hsg
      have hIe : ∀ I, isW σ ∈ I → Hv I (isR e 30) := fun I h => Hv.shtR he hb2 h
      have es : wv σ = rv e := by rw [he]; rfl
      have es2 : eW σ = eR e := by rw [he]; rfl
      rw [es] at hVs hAb
      have hA := fun M0 I0 h1 h2 => At_ok (X := X) (w0 := w0) (M0 := M0) (I0 := I0) (r := a) (s := e) (k := 30) (by decide) ha0 h1 h2
      refine RD_hv (φ := slI (some ⟨b4, 0, none⟩) (eR e)) (by rw [← es2]; exact Hv.mem memF) ?_
      by_cases hpg : π.good
      · have hVp2 : ∀ b, B (π.wl b 0).good = true := fun b => B_true hpg
        simp only [hVp2] at hVp
        obtain ⟨t, ht⟩ := TW.good_raw fp hpg
        have hIt : ∀ I, isTW π ∈ I → Hv I (isT t 30) := fun I h => Hv.shT ht hb1 (Hv.mem h)
        have hEt : recs eW [π.x, π.y, π.z] = recs eR [t.x, t.y, t.z] := by rw [ht]; rfl
        have etv : twv π = tv t := by rw [ht]; rfl
        rw [etv] at hFb
        have hF := fun M0 I0 h1 h2 => Front_ok (X := X) (w0 := w0) (M0 := M0) (I0 := I0) (r := a) (p := t) (k := 30) (by decide) ha0 h1 h2
        have hVpl : ∀ b, lvW (π.wl b 0) = lv (t.l b) := fun b => rfl
        rw [hEt]
        repeat (first | (refine wXh ?_) | (apply RD_ldZIB; exact vwF; exact rfl; exact memF; (first | exact AtsZ.y0 | exact AtsZ.y1 | exact AtsZ.w0 | exact AtsZ.w1); exact rfl; exact rfl))
        repeat (refine wXh ?_)
        (repeat refine TD_seq ?_); refine TD_drawnW (M0) (slI (some ⟨b5, 0, none⟩) (recs eR [t.x, t.y, t.z]) :: slI (some ⟨b4, 0, none⟩) (eR e) :: slI (some ⟨b3, 0, none⟩) (recs eT [a.o, a.a]) :: I0) [0, 4, 1, 2, 3, 5, 6] [2, 2, 0, 0, 1, 0, 0] subF incF mixed (by kernel_rfl) ?_
        repeat (first | (refine wXh ?_) | (apply RD_ldZIB; exact vwF; exact rfl; exact memF; (first | exact AtsZ.y0 | exact AtsZ.y1 | exact AtsZ.w0 | exact AtsZ.w1); exact rfl; exact rfl))
        repeat (refine wXh ?_)
        (refine RD_vals (cs := recs eY [a]) ([yv a]) rfl rfl (by intro v hv; repeat (first | exact absurd hv (List.not_mem_nil) | (rcases List.mem_cons.1 hv with rfl | hv; · rfl))) (by omega) rfl rfl rfl ?_; intro c3; refine ⟨okF, ?_⟩)
        refine RD_freezeB .here ?_
        (refine RD_callS rfl (hC _ _ _ (hIa _ memF) memF) rfl rfl ?_; rintro _ _ _ ⟨rfl, rfl, rfl⟩; refine ⟨okF, ?_⟩)
        repeat (first | (refine wXh ?_) | (apply RD_ldZIB; exact vwF; exact rfl; exact memF; (first | exact AtsZ.y0 | exact AtsZ.y1 | exact AtsZ.w0 | exact AtsZ.w1); exact rfl; exact rfl))
        repeat (refine wXh ?_)
        (refine RD_callS rfl (hVr _ _ (Hv.mem memF)) rfl rfl ?_; rintro _ _ _ ⟨rfl, rfl, rfl⟩; refine ⟨okF, ?_⟩)
        repeat (first | (refine wXh ?_) | (apply RD_ldZIB; exact vwF; exact rfl; exact memF; (first | exact AtsZ.y0 | exact AtsZ.y1 | exact AtsZ.w0 | exact AtsZ.w1); exact rfl; exact rfl))
        repeat (refine wXh ?_)
        rw [B_true (p := (0 : Int) = 0) rfl]
        repeat (first | (refine wXh ?_) | (apply RD_ldZIB; exact vwF; exact rfl; exact memF; (first | exact AtsZ.y0 | exact AtsZ.y1 | exact AtsZ.w0 | exact AtsZ.w1); exact rfl; exact rfl))
        repeat (refine wXh ?_)
        (refine RD_callS rfl (hA _ _ (hIa _ memF) (hIe _ memF)) rfl rfl ?_; rintro _ _ _ ⟨rfl, q, rfl, hq, rfl⟩; refine ⟨okF, ?_⟩)
        repeat (first | (refine wXh ?_) | (apply RD_ldZIB; exact vwF; exact rfl; exact memF; (first | exact AtsZ.y0 | exact AtsZ.y1 | exact AtsZ.w0 | exact AtsZ.w1); exact rfl; exact rfl))
        repeat (refine wXh ?_)
        (refine RD_alloc rfl rfl ?_; intro b7; refine ⟨okF, ?_⟩)
        repeat (first | (refine wXh ?_) | (apply RD_ldZIB; exact vwF; exact rfl; exact memF; (first | exact AtsZ.y0 | exact AtsZ.y1 | exact AtsZ.w0 | exact AtsZ.w1); exact rfl; exact rfl))
        repeat (refine wXh ?_)
        (refine RD_callS rfl (hF _ _ (hIa _ memF) (hIt _ memF)) rfl rfl ?_; rintro _ _ _ ⟨rfl, rfl, rfl⟩; refine ⟨okF, ?_⟩)
        repeat (first | (refine wXh ?_) | (apply RD_ldZIB; exact vwF; exact rfl; exact memF; (first | exact AtsZ.y0 | exact AtsZ.y1 | exact AtsZ.w0 | exact AtsZ.w1); exact rfl; exact rfl))
        repeat (refine wXh ?_)
        (refine RD_callS rfl (hVr _ _ (Hv.mem memF)) rfl rfl ?_; rintro _ _ _ ⟨rfl, rfl, rfl⟩; refine ⟨okF, ?_⟩)
        repeat (first | (refine wXh ?_) | (apply RD_ldZIB; exact vwF; exact rfl; exact memF; (first | exact AtsZ.y0 | exact AtsZ.y1 | exact AtsZ.w0 | exact AtsZ.w1); exact rfl; exact rfl))
        repeat (refine wXh ?_)
        (refine RD_callS rfl (hVs _ _ (Hv.mem memF)) rfl rfl ?_; rintro _ _ _ ⟨rfl, rfl, rfl⟩; refine ⟨okF, ?_⟩)
        repeat (first | (refine wXh ?_) | (apply RD_ldZIB; exact vwF; exact rfl; exact memF; (first | exact AtsZ.y0 | exact AtsZ.y1 | exact AtsZ.w0 | exact AtsZ.w1); exact rfl; exact rfl))
        repeat (refine wXh ?_)
        refine TD_hv (φ := isY a 30) (hIa _ memF) ?_
        refine TD_hv (φ := isR e 30) (hIe _ memF) ?_
        (repeat refine TD_seq ?_); refine TD_drawnW (.blk b7 (eT q) 27 :: M0) (isR e 30 :: isY a 30 :: isT q (100 * (30 + 1)) :: slI (some ⟨b5, 0, none⟩) (recs eR [t.x, t.y, t.z]) :: slI (some ⟨b4, 0, none⟩) (eR e) :: slI (some ⟨b3, 0, none⟩) (recs eT [a.o, a.a]) :: I0) [0, 1, 2, 3, 4, 5, 6, 7, 8, 9, 10, 11, 12] [2, 2, 0, 1, 2, 1, 1, 2, 1, 0, 0, 0, 0] subF incF mixed (by kernel_rfl) ?_
        repeat (first | (refine wXh ?_) | (apply RD_ldZIB; exact vwF; exact rfl; exact memF; (first | exact AtsZ.y0 | exact AtsZ.y1 | exact AtsZ.w0 | exact AtsZ.w1); exact rfl; exact rfl))
        repeat (refine wXh ?_)
        (refine RD_callS rfl (lPlus_ok (a := a.o) (b := a.a) (s := e) (u := 30) (m := 30) (v := 30) (by decide) (Hv.yo (Hv.mem (φ := isY a 30) memF)) (Hv.ya (Hv.mem (φ := isY a 30) memF)) (Hv.mem memF)) rfl rfl ?_; rintro _ _ _ ⟨rfl, z, rfl, hz, rfl⟩; refine ⟨okF, ?_⟩)
        have hS := fun M0 I0 h1 h2 => lSame_ok (X := X) (w0 := w0) (M0 := M0) (I0 := I0) (a := q) (b := z) (u := 100 * (30 + 1)) (m := 30 + (30 + 30) + 1) (by decide) h1 h2
        rw [B_true (by rw [hq, hz])] at hS
        (refine RD_callS rfl (hS _ _ (Hv.mem memF) (Hv.mem memF)) rfl rfl ?_; rintro _ _ _ ⟨rfl, rfl, rfl⟩; refine ⟨okF, ?_⟩)
        repeat (first | (refine wXh ?_) | (apply RD_ldZIB; exact vwF; exact rfl; exact memF; (first | exact AtsZ.y0 | exact AtsZ.y1 | exact AtsZ.w0 | exact AtsZ.w1); exact rfl; exact rfl))
        repeat (refine wXh ?_)
        (refine RD_callS rfl (hVr _ _ (Hv.mem memF)) rfl rfl ?_; rintro _ _ _ ⟨rfl, rfl, rfl⟩; refine ⟨okF, ?_⟩)
        repeat (first | (refine wXh ?_) | (apply RD_ldZIB; exact vwF; exact rfl; exact memF; (first | exact AtsZ.y0 | exact AtsZ.y1 | exact AtsZ.w0 | exact AtsZ.w1); exact rfl; exact rfl))
        repeat (refine wXh ?_)
        (refine RD_c rfl (fun _ => Const_sliceA rfl) rfl rfl ?_)
        refine RD_hv (φ := isWL (π.wl b5 0)) (Hv.twl (Hv.mem (φ := isTW π) memF) (by rw [hEt]; exact memF)) ?_
        (refine RD_callS rfl (hVp b5 _ _ memF) rfl rfl ?_; rintro _ _ _ ⟨rfl, rfl, rfl⟩; refine ⟨okF, ?_⟩)
        repeat (first | (refine wXh ?_) | (apply RD_ldZIB; exact vwF; exact rfl; exact memF; (first | exact AtsZ.y0 | exact AtsZ.y1 | exact AtsZ.w0 | exact AtsZ.w1); exact rfl; exact rfl))
        repeat (refine wXh ?_)
        refine TD_hv (φ := isY a 30) (hIa _ memF) ?_
        refine TD_hv (φ := isT t 30) (hIt _ memF) ?_
        (repeat refine TD_seq ?_); refine TD_drawnW (M0) (isT t 30 :: isY a 30 :: slI (some ⟨b5, 0, none⟩) (recs eR [t.x, t.y, t.z]) :: slI (some ⟨b4, 0, none⟩) (eR e) :: slI (some ⟨b3, 0, none⟩) (recs eT [a.o, a.a]) :: I0) [0, 1, 2, 3, 4, 5, 6, 8, 9, 7, 10, 11, 12, 13, 14, 15] [3, 3, 0, 3, 2, 3, 2, 3, 2, 0, 0, 0, 0, 0, 0, 0] subF incF mixed (by kernel_rfl) ?_
        repeat (first | (refine wXh ?_) | (apply RD_ldZIB; exact vwF; exact rfl; exact memF; (first | exact AtsZ.y0 | exact AtsZ.y1 | exact AtsZ.w0 | exact AtsZ.w1); exact rfl; exact rfl))
        repeat (refine wXh ?_)
        (refine RD_callS rfl (lMinus_ok (a := t) (b := a.o) (u := 30) (m := 30) (by decide) (Hv.mem memF) (Hv.yo (Hv.mem (φ := isY a 30) memF))) rfl rfl ?_; rintro _ _ _ ⟨rfl, d, rfl, hd, rfl⟩; refine ⟨okF, ?_⟩)
        repeat (first | (refine wXh ?_) | (apply RD_ldZIB; exact vwF; exact rfl; exact memF; (first | exact AtsZ.y0 | exact AtsZ.y1 | exact AtsZ.w0 | exact AtsZ.w1); exact rfl; exact rfl))
        repeat (refine wXh ?_)
        (refine RD_callS rfl (lDot_ok (a := d) (b := a.a) (k := 30 + 30 + 1) (m := 30) (by decide) (Hv.mem memF) (Hv.ya (Hv.mem (φ := isY a 30) memF))) rfl rfl ?_; rintro _ _ _ ⟨rfl, f, rfl, hf, rfl⟩; refine ⟨okF, ?_⟩)
        (refine RD_callS rfl (rQSign_ok (e := f) (k := 3 * (30 + 30 + 1 + 30 + 1)) (by decide) (Hv.mem memF)) rfl rfl ?_; rintro _ _ _ ⟨rfl, rfl, rfl⟩; refine ⟨okF, ?_⟩)
        have hsg2 : 0 < f.q.num.sign ↔ 0 < (t.v.sub a.o.v).dot a.a.v := by rw [sgnP3, hf, hd]
        generalize f.q.num.sign = sg at *
        by_cases hpos : 0 < (t.v.sub a.o.v).dot a.a.v
        · rw [B_true hpos]
          have h0 : 0 < sg := hsg2.2 hpos
          repeat (first | (refine wXh ?_) | (apply RD_ldZIB; exact vwF; exact rfl; exact memF; (first | exact AtsZ.y0 | exact AtsZ.y1 | exact AtsZ.w0 | exact AtsZ.w1); exact rfl; exact rfl))
          repeat (refine wXh ?_)
          refine ND_ret1 (by first | exact .inl rfl | exact .inr rfl) rfl rfl _ _ subF incF (⟨rfl, rfl, congrArg Value.bool (by rw [B_true (show sg > 0 from h0)]; rfl)⟩)
        · rw [B_false hpos]
          have h0 : ¬ 0 < sg := fun h => hpos (hsg2.1 h)
          repeat (first | (refine wXh ?_) | (apply RD_ldZIB; exact vwF; exact rfl; exact memF; (first | exact AtsZ.y0 | exact AtsZ.y1 | exact AtsZ.w0 | exact AtsZ.w1); exact rfl; exact rfl))
          repeat (refine wXh ?_)
          refine ND_ret1 (by first | exact .inl rfl | exact .inr rfl) rfl rfl _ _ subF incF (⟨rfl, rfl, congrArg Value.bool (by rw [B_false (show ¬ sg > 0 from h0)]; rfl)⟩)
      · have hVp2 : ∀ b, B (π.wl b 0).good = false := fun b => B_false hpg
        simp only [hVp2] at hVp
        repeat (first | (refine wXh ?_) | (apply RD_ldZIB; exact vwF; exact rfl; exact memF; (first | exact AtsZ.y0 | exact AtsZ.y1 | exact AtsZ.w0 | exact AtsZ.w1); exact rfl; exact rfl))
        repeat (refine wXh ?_)
        (repeat refine TD_seq ?_); refine TD_drawnW (M0) (slI (some ⟨b5, 0, none⟩) (recs eW [π.x, π.y, π.z]) :: slI (some ⟨b4, 0, none⟩) (eR e) :: slI (some ⟨b3, 0, none⟩) (recs eT [a.o, a.a]) :: I0) [0, 4, 1, 2, 3, 5, 6] [2, 2, 0, 0, 1, 0, 0] subF incF mixed (by kernel_rfl) ?_
        repeat (first | (refine wXh ?_) | (apply RD_ldZIB; exact vwF; exact rfl; exact memF; (first | exact AtsZ.y0 | exact AtsZ.y1 | exact AtsZ.w0 | exact AtsZ.w1); exact rfl; exact rfl))
        repeat (refine wXh ?_)
        (refine RD_vals (cs := recs eY [a]) ([yv a]) rfl rfl (by intro v hv; repeat (first | exact absurd hv (List.not_mem_nil) | (rcases List.mem_cons.1 hv with rfl | hv; · rfl))) (by omega) rfl rfl rfl ?_; intro c3; refine ⟨okF, ?_⟩)
        refine RD_freezeB .here ?_
        (refine RD_callS rfl (hC _ _ _ (hIa _ memF) memF) rfl rfl ?_; rintro _ _ _ ⟨rfl, rfl, rfl⟩; refine ⟨okF, ?_⟩)
        repeat (first | (refine wXh ?_) | (apply RD_ldZIB; exact vwF; exact rfl; exact memF; (first | exact AtsZ.y0 | exact AtsZ.y1 | exact AtsZ.w0 | exact AtsZ.w1); exact rfl; exact rfl))
        repeat (refine wXh ?_)
        (refine RD_callS rfl (hVr _ _ (Hv.mem memF)) rfl rfl ?_; rintro _ _ _ ⟨rfl, rfl, rfl⟩; refine ⟨okF, ?_⟩)
        repeat (first | (refine wXh ?_) | (apply RD_ldZIB; exact vwF; exact rfl; exact memF; (first | exact AtsZ.y0 | exact AtsZ.y1 | exact AtsZ.w0 | exact AtsZ.w1); exact rfl; exact rfl))
        repeat (refine wXh ?_)
        rw [B_true (p := (0 : Int) = 0) rfl]
        repeat (first | (refine wXh ?_) | (apply RD_ldZIB; exact vwF; exact rfl; exact memF; (first | exact AtsZ.y0 | exact AtsZ.y1 | exact AtsZ.w0 | exact AtsZ.w1); exact rfl; exact rfl))
        repeat (refine wXh ?_)
        (refine RD_callS rfl (hA _ _ (hIa _ memF) (hIe _ memF)) rfl rfl ?_; rintro _ _ _ ⟨rfl, q, rfl, hq, rfl⟩; refine ⟨okF, ?_⟩)
        repeat (first | (refine wXh ?_) | (apply RD_ldZIB; exact vwF; exact rfl; exact memF; (first | exact AtsZ.y0 | exact AtsZ.y1 | exact AtsZ.w0 | exact AtsZ.w1); exact rfl; exact rfl))
        repeat (refine wXh ?_)
        (refine RD_alloc rfl rfl ?_; intro b7; refine ⟨okF, ?_⟩)
        repeat (first | (refine wXh ?_) | (apply RD_ldZIB; exact vwF; exact rfl; exact memF; (first | exact AtsZ.y0 | exact AtsZ.y1 | exact AtsZ.w0 | exact AtsZ.w1); exact rfl; exact rfl))
        repeat (refine wXh ?_)
        (refine RD_callS rfl (hFb (fun h => hpg h.2) _ _ (Hv.mem memF) (Hv.mem memF)) rfl rfl ?_; rintro _ _ _ ⟨rfl, rfl, rfl⟩; refine ⟨okF, ?_⟩)
        repeat (first | (refine wXh ?_) | (apply RD_ldZIB; exact vwF; exact rfl; exact memF; (first | exact AtsZ.y0 | exact AtsZ.y1 | exact AtsZ.w0 | exact AtsZ.w1); exact rfl; exact rfl))
        repeat (refine wXh ?_)
        (refine RD_callS rfl (hVr _ _ (Hv.mem memF)) rfl rfl ?_; rintro _ _ _ ⟨rfl, rfl, rfl⟩; refine ⟨okF, ?_⟩)
        repeat (first | (refine wXh ?_) | (apply RD_ldZIB; exact vwF; exact rfl; exact memF; (first | exact AtsZ.y0 | exact AtsZ.y1 | exact AtsZ.w0 | exact AtsZ.w1); exact rfl; exact rfl))
        repeat (refine wXh ?_)
        (refine RD_callS rfl (hVs _ _ (Hv.mem memF)) rfl rfl ?_; rintro _ _ _ ⟨rfl, rfl, rfl⟩; refine ⟨okF, ?_⟩)
        repeat (first | (refine wXh ?_) | (apply RD_ldZIB; exact vwF; exact rfl; exact memF; (first | exact AtsZ.y0 | exact AtsZ.y1 | exact AtsZ.w0 | exact AtsZ.w1); exact rfl; exact rfl))
        repeat (refine wXh ?_)
        refine TD_hv (φ := isY a 30) (hIa _ memF) ?_
        refine TD_hv (φ := isR e 30) (hIe _ memF) ?_
        (repeat refine TD_seq ?_); refine TD_drawnW (.blk b7 (eT q) 27 :: M0) (isR e 30 :: isY a 30 :: isT q (100 * (30 + 1)) :: slI (some ⟨b5, 0, none⟩) (recs eW [π.x, π.y, π.z]) :: slI (some ⟨b4, 0, none⟩) (eR e) :: slI (some ⟨b3, 0, none⟩) (recs eT [a.o, a.a]) :: I0) [0, 1, 2, 3, 4, 5, 6, 7, 8, 9, 10, 11, 12] [2, 2, 0, 1, 2, 1, 1, 2, 1, 0, 0, 0, 0] subF incF mixed (by kernel_rfl) ?_
        repeat (first | (refine wXh ?_) | (apply RD_ldZIB; exact vwF; exact rfl; exact memF; (first | exact AtsZ.y0 | exact AtsZ.y1 | exact AtsZ.w0 | exact AtsZ.w1); exact rfl; exact rfl))
        repeat (refine wXh ?_)
        (refine RD_callS rfl (lPlus_ok (a := a.o) (b := a.a) (s := e) (u := 30) (m := 30) (v := 30) (by decide) (Hv.yo (Hv.mem (φ := isY a 30) memF)) (Hv.ya (Hv.mem (φ := isY a 30) memF)) (Hv.mem memF)) rfl rfl ?_; rintro _ _ _ ⟨rfl, z, rfl, hz, rfl⟩; refine ⟨okF, ?_⟩)
        have hS := fun M0 I0 h1 h2 => lSame_ok (X := X) (w0 := w0) (M0 := M0) (I0 := I0) (a := q) (b := z) (u := 100 * (30 + 1)) (m := 30 + (30 + 30) + 1) (by decide) h1 h2
        rw [B_true (by rw [hq, hz])] at hS
        (refine RD_callS rfl (hS _ _ (Hv.mem memF) (Hv.mem memF)) rfl rfl ?_; rintro _ _ _ ⟨rfl, rfl, rfl⟩; refine ⟨okF, ?_⟩)
        repeat (first | (refine wXh ?_) | (apply RD_ldZIB; exact vwF; exact rfl; exact memF; (first | exact AtsZ.y0 | exact AtsZ.y1 | exact AtsZ.w0 | exact AtsZ.w1); exact rfl; exact rfl))
        repeat (refine wXh ?_)
        (refine RD_callS rfl (hVr _ _ (Hv.mem memF)) rfl rfl ?_; rintro _ _ _ ⟨rfl, rfl, rfl⟩; refine ⟨okF, ?_⟩)
        repeat (first | (refine wXh ?_) | (apply RD_ldZIB; exact vwF; exact rfl; exact memF; (first | exact AtsZ.y0 | exact AtsZ.y1 | exact AtsZ.w0 | exact AtsZ.w1); exact rfl; exact rfl))
        repeat (refine wXh ?_)
        (refine RD_c rfl (fun _ => Const_sliceA rfl) rfl rfl ?_)
        refine RD_hv (φ := isWL (π.wl b5 0)) (Hv.twl (Hv.mem (φ := isTW π) memF) memF) ?_
        (refine RD_callS rfl (hVp b5 _ _ memF) rfl rfl ?_; rintro _ _ _ ⟨rfl, rfl, rfl⟩; refine ⟨okF, ?_⟩)
        repeat (first | (refine wXh ?_) | (apply RD_ldZIB; exact vwF; exact rfl; exact memF; (first | exact AtsZ.y0 | exact AtsZ.y1 | exact AtsZ.w0 | exact AtsZ.w1); exact rfl; exact rfl))
        repeat (refine wXh ?_)
        refine ND_ret1 (by first | exact .inl rfl | exact .inr rfl) rfl rfl _ _ subF incF (⟨rfl, rfl, rfl⟩)
    · rw [B_false hsg] at hVs
      by_cases hpg : π.good
      · have hVp2 : ∀ b, B (π.wl b 0).good = true := fun b => B_true hpg
        simp only [hVp2] at hVp
        obtain ⟨t, ht⟩ := TW.good_raw fp hpg
        have hIt : ∀ I, isTW π ∈ I → Hv I (isT t 30) := fun I h => Hv.shT ht hb1 (Hv.mem h)
        have hEt : recs eW [π.x, π.y, π.z] = recs eR [t.x, t.y, t.z] := by rw [ht]; rfl
        have etv : twv π = tv t := by rw [ht]; rfl
        rw [etv] at hFb
        have hF := fun M0 I0 h1 h2 => Front_ok (X := X) (w0 := w0) (M0 := M0) (I0 := I0) (r := a) (p := t) (k := 30) (by decide) ha0 h1 h2
        have hVpl : ∀ b, lvW (π.wl b 0) = lv (t.l b) := fun b => rfl
        rw [hEt]
        repeat (first | (refine wXh ?_) | (apply RD_ldZIB; exact vwF; exact rfl; exact memF; (first | exact AtsZ.y0 | exact AtsZ.y1 | exact AtsZ.w0 | exact AtsZ.w1); exact rfl; exact rfl))
        repeat (refine wXh ?_)
        (repeat refine TD_seq ?_); refine TD_drawnW (M0) (slI (some ⟨b5, 0, none⟩) (recs eR [t.x, t.y, t.z]) :: slI (some ⟨b4, 0, none⟩) (eW σ) :: slI (some ⟨b3, 0, none⟩) (recs eT [a.o, a.a]) :: I0) [0, 4, 1, 2, 3, 5, 6] [2, 2, 0, 0, 1, 0, 0] subF incF mixed (by kernel_rfl) ?_
        repeat (first | (refine wXh ?_) | (apply RD_ldZIB; exact vwF; exact rfl; exact memF; (first | exact AtsZ.y0 | exact AtsZ.y1 | exact AtsZ.w0 | exact AtsZ.w1); exact rfl; exact rfl))
        repeat (refine wXh ?_)
        (refine RD_vals (cs := recs eY [a]) ([yv a]) rfl rfl (by intro v hv; repeat (first | exact absurd hv (List.not_mem_nil) | (rcases List.mem_cons.1 hv with rfl | hv; · rfl))) (by omega) rfl rfl rfl ?_; intro c3; refine ⟨okF, ?_⟩)
        refine RD_freezeB .here ?_
        (refine RD_callS rfl (hC _ _ _ (hIa _ memF) memF) rfl rfl ?_; rintro _ _ _ ⟨rfl, rfl, rfl⟩; refine ⟨okF, ?_⟩)
        repeat (first | (refine wXh ?_) | (apply RD_ldZIB; exact vwF; exact rfl; exact memF; (first | exact AtsZ.y0 | exact AtsZ.y1 | exact AtsZ.w0 | exact AtsZ.w1); exact rfl; exact rfl))
        repeat (refine wXh ?_)
        (refine RD_callS rfl (hVr _ _ (Hv.mem memF)) rfl rfl ?_; rintro _ _ _ ⟨rfl, rfl, rfl⟩; refine ⟨okF, ?_⟩)
        repeat (first | (refine wXh ?_) | (apply RD_ldZIB; exact vwF; exact rfl; exact memF; (first | exact AtsZ.y0 | exact AtsZ.y1 | exact AtsZ.w0 | exact AtsZ.w1); exact rfl; exact rfl))
        repeat (refine wXh ?_)
        rw [B_true (p := (0 : Int) = 0) rfl]
        repeat (first | (refine wXh ?_) | (apply RD_ldZIB; exact vwF; exact rfl; exact memF; (first | exact AtsZ.y0 | exact AtsZ.y1 | exact AtsZ.w0 | exact AtsZ.w1); exact rfl; exact rfl))
        repeat (refine wXh ?_)
        (refine RD_callS rfl (hAb (fun h => hsg h.2) _ _ (Hv.mem memF) (Hv.mem memF)) rfl rfl ?_; rintro _ _ _ ⟨rfl, rfl, rfl⟩; refine ⟨okF, ?_⟩)
        repeat (first | (refine wXh ?_) | (apply RD_ldZIB; exact vwF; exact rfl; exact memF; (first | exact AtsZ.y0 | exact AtsZ.y1 | exact AtsZ.w0 | exact AtsZ.w1); exact rfl; exact rfl))
        repeat (refine wXh ?_)
        (refine RD_alloc rfl rfl ?_; intro b7; refine ⟨okF, ?_⟩)
        repeat (first | (refine wXh ?_) | (apply RD_ldZIB; exact vwF; exact rfl; exact memF; (first | exact AtsZ.y0 | exact AtsZ.y1 | exact AtsZ.w0 | exact AtsZ.w1); exact rfl; exact rfl))
        repeat (refine wXh ?_)
        (refine RD_callS rfl (hF _ _ (hIa _ memF) (hIt _ memF)) rfl rfl ?_; rintro _ _ _ ⟨rfl, rfl, rfl⟩; refine ⟨okF, ?_⟩)
        repeat (first | (refine wXh ?_) | (apply RD_ldZIB; exact vwF; exact rfl; exact memF; (first | exact AtsZ.y0 | exact AtsZ.y1 | exact AtsZ.w0 | exact AtsZ.w1); exact rfl; exact rfl))
        repeat (refine wXh ?_)
        (refine RD_callS rfl (hVr _ _ (Hv.mem memF)) rfl rfl ?_; rintro _ _ _ ⟨rfl, rfl, rfl⟩; refine ⟨okF, ?_⟩)
        repeat (first | (refine wXh ?_) | (apply RD_ldZIB; exact vwF; exact rfl; exact memF; (first | exact AtsZ.y0 | exact AtsZ.y1 | exact AtsZ.w0 | exact AtsZ.w1); exact rfl; exact rfl))
        repeat (refine wXh ?_)
        (refine RD_callS rfl (hVs _ _ (Hv.mem memF)) rfl rfl ?_; rintro _ _ _ ⟨rfl, rfl, rfl⟩; refine ⟨okF, ?_⟩)
        repeat (first | (refine wXh ?_) | (apply RD_ldZIB; exact vwF; exact rfl; exact memF; (first | exact AtsZ.y0 | exact AtsZ.y1 | exact AtsZ.w0 | exact AtsZ.w1); exact rfl; exact rfl))
        repeat (refine wXh ?_)
        (refine RD_callS rfl (lZero_z) rfl rfl ?_; rintro _ _ _ ⟨rfl, rfl, rfl⟩; refine ⟨okF, ?_⟩)
        repeat (first | (refine wXh ?_) | (apply RD_ldZIB; exact vwF; exact rfl; exact memF; (first | exact AtsZ.y0 | exact AtsZ.y1 | exact AtsZ.w0 | exact AtsZ.w1); exact rfl; exact rfl))
        repeat (refine wXh ?_)
        (refine RD_callS rfl (hVr _ _ (Hv.mem memF)) rfl rfl ?_; rintro _ _ _ ⟨rfl, rfl, rfl⟩; refine ⟨okF, ?_⟩)
        repeat (first | (refine wXh ?_) | (apply RD_ldZIB; exact vwF; exact rfl; exact memF; (first | exact AtsZ.y0 | exact AtsZ.y1 | exact AtsZ.w0 | exact AtsZ.w1); exact rfl; exact rfl))
        repeat (refine wXh ?_)
        (refine RD_c rfl (fun _ => Const_sliceA rfl) rfl rfl ?_)
        refine RD_hv (φ := isWL (π.wl b5 0)) (Hv.twl (Hv.mem (φ := isTW π) memF) (by rw [hEt]; exact memF)) ?_
        (refine RD_callS rfl (hVp b5 _ _ memF) rfl rfl ?_; rintro _ _ _ ⟨rfl, rfl, rfl⟩; refine ⟨okF, ?_⟩)
        repeat (first | (refine wXh ?_) | (apply RD_ldZIB; exact vwF; exact rfl; exact memF; (first | exact AtsZ.y0 | exact AtsZ.y1 | exact AtsZ.w0 | exact AtsZ.w1); exact rfl; exact rfl))
        repeat (refine wXh ?_)
        refine TD_hv (φ := isY a 30) (hIa _ memF) ?_
        refine TD_hv (φ := isT t 30) (hIt _ memF) ?_
        (repeat refine TD_seq ?_); refine TD_drawnW (M0) (isT t 30 :: isY a 30 :: slI (some ⟨b5, 0, none⟩) (recs eR [t.x, t.y, t.z]) :: slI (some ⟨b4, 0, none⟩) (eW σ) :: slI (some ⟨b3, 0, none⟩) (recs eT [a.o, a.a]) :: I0) [0, 1, 2, 3, 4, 5, 6, 8, 9, 7, 10, 11, 12, 13, 14, 15] [3, 3, 0, 3, 2, 3, 2, 3, 2, 0, 0, 0, 0, 0, 0, 0] subF incF mixed (by kernel_rfl) ?_
        repeat (first | (refine wXh ?_) | (apply RD_ldZIB; exact vwF; exact rfl; exact memF; (first | exact AtsZ.y0 | exact AtsZ.y1 | exact AtsZ.w0 | exact AtsZ.w1); exact rfl; exact rfl))
        repeat (refine wXh ?_)
        (refine RD_callS rfl (lMinus_ok (a := t) (b := a.o) (u := 30) (m := 30) (by decide) (Hv.mem memF) (Hv.yo (Hv.mem (φ := isY a 30) memF))) rfl rfl ?_; rintro _ _ _ ⟨rfl, d, rfl, hd, rfl⟩; refine ⟨okF, ?_⟩)
        repeat (first | (refine wXh ?_) | (apply RD_ldZIB; exact vwF; exact rfl; exact memF; (first | exact AtsZ.y0 | exact AtsZ.y1 | exact AtsZ.w0 | exact AtsZ.w1); exact rfl; exact rfl))
        repeat (refine wXh ?_)
        (refine RD_callS rfl (lDot_ok (a := d) (b := a.a) (k := 30 + 30 + 1) (m := 30) (by decide) (Hv.mem memF) (Hv.ya (Hv.mem (φ := isY a 30) memF))) rfl rfl ?_; rintro _ _ _ ⟨rfl, f, rfl, hf, rfl⟩; refine ⟨okF, ?_⟩)
        (refine RD_callS rfl (rQSign_ok (e := f) (k := 3 * (30 + 30 + 1 + 30 + 1)) (by decide) (Hv.mem memF)) rfl rfl ?_; rintro _ _ _ ⟨rfl, rfl, rfl⟩; refine ⟨okF, ?_⟩)
        have hsg2 : 0 < f.q.num.sign ↔ 0 < (t.v.sub a.o.v).dot a.a.v := by rw [sgnP3, hf, hd]
        generalize f.q.num.sign = sg at *
        by_cases hpos : 0 < (t.v.sub a.o.v).dot a.a.v
        · rw [B_true hpos]
          have h0 : 0 < sg := hsg2.2 hpos
          repeat (first | (refine wXh ?_) | (apply RD_ldZIB; exact vwF; exact rfl; exact memF; (first | exact AtsZ.y0 | exact AtsZ.y1 | exact AtsZ.w0 | exact AtsZ.w1); exact rfl; exact rfl))
          repeat (refine wXh ?_)
          refine ND_ret1 (by first | exact .inl rfl | exact .inr rfl) rfl rfl _ _ subF incF (⟨rfl, rfl, congrArg Value.bool (by rw [B_true (show sg > 0 from h0)]; rfl)⟩)
        · rw [B_false hpos]
          have h0 : ¬ 0 < sg := fun h => hpos (hsg2.1 h)
          repeat (first | (refine wXh ?_) | (apply RD_ldZIB; exact vwF; exact rfl; exact memF; (first | exact AtsZ.y0 | exact AtsZ.y1 | exact AtsZ.w0 | exact AtsZ.w1); exact rfl; exact rfl))
          repeat (refine wXh ?_)
          refine ND_ret1 (by first | exact .inl rfl | exact .inr rfl) rfl rfl _ _ subF incF (⟨rfl, rfl, congrArg Value.bool (by rw [B_false (show ¬ sg > 0 from h0)]; rfl)⟩)
      · have hVp2 : ∀ b, B (π.wl b 0).good = false := fun b => B_false hpg
        simp only [hVp2] at hVp
        repeat (first | (refine wXh ?_) | (apply RD_ldZIB; exact vwF; exact rfl; exact memF; (first | exact AtsZ.y0 | exact AtsZ.y1 | exact AtsZ.w0 | exact AtsZ.w1); exact rfl; exact rfl))
        repeat (refine wXh ?_)
        (repeat refine TD_seq ?_); refine TD_drawnW (M0) (slI (some ⟨b5, 0, none⟩) (recs eW [π.x, π.y, π.z]) :: slI (some ⟨b4, 0, none⟩) (eW σ) :: slI (some ⟨b3, 0, none⟩) (recs eT [a.o, a.a]) :: I0) [0, 4, 1, 2, 3, 5, 6] [2, 2, 0, 0, 1, 0, 0] subF incF mixed (by kernel_rfl) ?_
        repeat (first | (refine wXh ?_) | (apply RD_ldZIB; exact vwF; exact rfl; exact memF; (first | exact AtsZ.y0 | exact AtsZ.y1 | exact AtsZ.w0 | exact AtsZ.w1); exact rfl; exact rfl))
        repeat (refine wXh ?_)
        (refine RD_vals (cs := recs eY [a]) ([yv a]) rfl rfl (by intro v hv; repeat (first | exact absurd hv (List.not_mem_nil) | (rcases List.mem_cons.1 hv with rfl | hv; · rfl))) (by omega) rfl rfl rfl ?_; intro c3; refine ⟨okF, ?_⟩)
        refine RD_freezeB .here ?_
        (refine RD_callS rfl (hC _ _ _ (hIa _ memF) memF) rfl rfl ?_; rintro _ _ _ ⟨rfl, rfl, rfl⟩; refine ⟨okF, ?_⟩)
        repeat (first | (refine wXh ?_) | (apply RD_ldZIB; exact vwF; exact rfl; exact memF; (first | exact AtsZ.y0 | exact AtsZ.y1 | exact AtsZ.w0 | exact AtsZ.w1); exact rfl; exact rfl))
        repeat (refine wXh ?_)
        (refine RD_callS rfl (hVr _ _ (Hv.mem memF)) rfl rfl ?_; rintro _ _ _ ⟨rfl, rfl, rfl⟩; refine ⟨okF, ?_⟩)
        repeat (first | (refine wXh ?_) | (apply RD_ldZIB; exact vwF; exact rfl; exact memF; (first | exact AtsZ.y0 | exact AtsZ.y1 | exact AtsZ.w0 | exact AtsZ.w1); exact rfl; exact rfl))
        repeat (refine wXh ?_)
        rw [B_true (p := (0 : Int) = 0) rfl]
        repeat (first | (refine wXh ?_) | (apply RD_ldZIB; exact vwF; exact rfl; exact memF; (first | exact AtsZ.y0 | exact AtsZ.y1 | exact AtsZ.w0 | exact AtsZ.w1); exact rfl; exact rfl))
        repeat (refine wXh ?_)
        (refine RD_callS rfl (hAb (fun h => hsg h.2) _ _ (Hv.mem memF) (Hv.mem memF)) rfl rfl ?_; rintro _ _ _ ⟨rfl, rfl, rfl⟩; refine ⟨okF, ?_⟩)
        repeat (first | (refine wXh ?_) | (apply RD_ldZIB; exact vwF; exact rfl; exact memF; (first | exact AtsZ.y0 | exact AtsZ.y1 | exact AtsZ.w0 | exact AtsZ.w1); exact rfl; exact rfl))
        repeat (refine wXh ?_)
        (refine RD_alloc rfl rfl ?_; intro b7; refine ⟨okF, ?_⟩)
        repeat (first | (refine wXh ?_) | (apply RD_ldZIB; exact vwF; exact rfl; exact memF; (first | exact AtsZ.y0 | exact AtsZ.y1 | exact AtsZ.w0 | exact AtsZ.w1); exact rfl; exact rfl))
        repeat (refine wXh ?_)
        (refine RD_callS rfl (hFb (fun h => hpg h.2) _ _ (Hv.mem memF) (Hv.mem memF)) rfl rfl ?_; rintro _ _ _ ⟨rfl, rfl, rfl⟩; refine ⟨okF, ?_⟩)
        repeat (first | (refine wXh ?_) | (apply RD_ldZIB; exact vwF; exact rfl; exact memF; (first | exact AtsZ.y0 | exact AtsZ.y1 | exact AtsZ.w0 | exact AtsZ.w1); exact rfl; exact rfl))
        repeat (refine wXh ?_)
        (refine RD_callS rfl (hVr _ _ (Hv.mem memF)) rfl rfl ?_; rintro _ _ _ ⟨rfl, rfl, rfl⟩; refine ⟨okF, ?_⟩)
        repeat (first | (refine wXh ?_) | (apply RD_ldZIB; exact vwF; exact rfl; exact memF; (first | exact AtsZ.y0 | exact AtsZ.y1 | exact AtsZ.w0 | exact AtsZ.w1); exact rfl; exact rfl))
        repeat (refine wXh ?_)
        (refine RD_callS rfl (hVs _ _ (Hv.mem memF)) rfl rfl ?_; rintro _ _ _ ⟨rfl, rfl, rfl⟩; refine ⟨okF, ?_⟩)
        repeat (first | (refine wXh ?_) | (apply RD_ldZIB; exact vwF; exact rfl; exact memF; (first | exact AtsZ.y0 | exact AtsZ.y1 | exact AtsZ.w0 | exact AtsZ.w1); exact rfl; exact rfl))
        repeat (refine wXh ?_)
        (refine RD_callS rfl (lZero_z) rfl rfl ?_; rintro _ _ _ ⟨rfl, rfl, rfl⟩; refine ⟨okF, ?_⟩)
        repeat (first | (refine wXh ?_) | (apply RD_ldZIB; exact vwF; exact rfl; exact memF; (first | exact AtsZ.y0 | exact AtsZ.y1 | exact AtsZ.w0 | exact AtsZ.w1); exact rfl; exact rfl))
        repeat (refine wXh ?_)
        (refine RD_callS rfl (hVr _ _ (Hv.mem memF)) rfl rfl ?_; rintro _ _ _ ⟨rfl, rfl, rfl⟩; refine ⟨okF, ?_⟩)
        repeat (first | (refine wXh ?_) | (apply RD_ldZIB; exact vwF; exact rfl; exact memF; (first | exact AtsZ.y0 | exact AtsZ.y1 | exact AtsZ.w0 | exact AtsZ.w1); exact rfl; exact rfl))
        repeat (refine wXh ?_)
        (refine RD_c rfl (fun _ => Const_sliceA rfl) rfl rfl ?_)
        refine RD_hv (φ := isWL (π.wl b5 0)) (Hv.twl (Hv.mem (φ := isTW π) memF) memF) ?_
        (refine RD_callS rfl (hVp b5 _ _ memF) rfl rfl ?_; rintro _ _ _ ⟨rfl, rfl, rfl⟩; refine ⟨okF, ?_⟩)
        repeat (first | (refine wXh ?_) | (apply RD_ldZIB; exact vwF; exact rfl; exact memF; (first | exact AtsZ.y0 | exact AtsZ.y1 | exact AtsZ.w0 | exact AtsZ.w1); exact rfl; exact rfl))
        repeat (refine wXh ?_)
        refine ND_ret1 (by first | exact .inl rfl | exact .inr rfl) rfl rfl _ _ subF incF (⟨rfl, rfl, rfl⟩)
  · rw [B_false hok] at hVr
    have hCb2 : chkC [r] = 1 := chkC_no (fun h => hok (h r (List.Mem.head _)))
    rw [hCb2] at hCb
    repeat (first | (refine wXh ?_) | (apply RD_ldZIB; exact vwF; exact rfl; exact memF; (first | exact AtsZ.y0 | exact AtsZ.y1 | exact AtsZ.w0 | exact AtsZ.w1); exact rfl; exact rfl))
    repeat (refine wXh ?_)
    (repeat refine TD_seq ?_); refine TD_drawnW (M0) (slI (some ⟨b5, 0, none⟩) (recs eW [π.x, π.y, π.z]) :: slI (some ⟨b4, 0, none⟩) (eW σ) :: slI (some ⟨b3, 0, none⟩) (recs eTW [r.o, r.a]) :: I0) [0, 4, 1, 2, 3, 5, 6] [2, 2, 0, 0, 1, 0, 0] subF incF mixed (by kernel_rfl) ?_
    repeat (first | (refine wXh ?_) | (apply RD_ldZIB; exact vwF; exact rfl; exact memF; (first | exact AtsZ.y0 | exact AtsZ.y1 | exact AtsZ.w0 | exact AtsZ.w1); exact rfl; exact rfl))
    repeat (refine wXh ?_)
    (refine RD_vals (cs := recs eYW [r]) ([ywv r]) rfl rfl (by intro v hv; repeat (first | exact absurd hv (List.not_mem_nil) | (rcases List.mem_cons.1 hv with rfl | hv; · rfl))) (by omega) rfl rfl rfl ?_; intro c3; refine ⟨okF, ?_⟩)
    refine RD_freezeB .here ?_
    refine RD_hv (φ := allYW [r]) (Hv.yw0 (Hv.mem memF)) ?_
    (refine RD_callS rfl (hCb _ _ _ memF memF) rfl rfl ?_; rintro _ _ _ ⟨rfl, rfl, rfl⟩; refine ⟨okF, ?_⟩)
    repeat (first | (refine wXh ?_) | (apply RD_ldZIB; exact vwF; exact rfl; exact memF; (first | exact AtsZ.y0 | exact AtsZ.y1 | exact AtsZ.w0 | exact AtsZ.w1); exact rfl; exact rfl))
    repeat (refine wXh ?_)
    (refine RD_callS rfl (hVr _ _ (Hv.mem memF)) rfl rfl ?_; rintro _ _ _ ⟨rfl, rfl, rfl⟩; refine ⟨okF, ?_⟩)
    repeat (first | (refine wXh ?_) | (apply RD_ldZIB; exact vwF; exact rfl; exact memF; (first | exact AtsZ.y0 | exact AtsZ.y1 | exact AtsZ.w0 | exact AtsZ.w1); exact rfl; exact rfl))
    repeat (refine wXh ?_)
    rw [B_false (p := (1 : Int) = 0) (by decide)]
    repeat (first | (refine wXh ?_) | (apply RD_ldZIB; exact vwF; exact rfl; exact memF; (first | exact AtsZ.y0 | exact AtsZ.y1 | exact AtsZ.w0 | exact AtsZ.w1); exact rfl; exact rfl))
    repeat (refine wXh ?_)
    (refine RD_callS rfl (hAb (fun h => hok h.1) _ _ (Hv.mem memF) (Hv.mem memF)) rfl rfl ?_; rintro _ _ _ ⟨rfl, rfl, rfl⟩; refine ⟨okF, ?_⟩)
    repeat (first | (refine wXh ?_) | (apply RD_ldZIB; exact vwF; exact rfl; exact memF; (first | exact AtsZ.y0 | exact AtsZ.y1 | exact AtsZ.w0 | exact AtsZ.w1); exact rfl; exact rfl))
    repeat (refine wXh ?_)
    (refine RD_alloc rfl rfl ?_; intro b7; refine ⟨okF, ?_⟩)
    repeat (first | (refine wXh ?_) | (apply RD_ldZIB; exact vwF; exact rfl; exact memF; (first | exact AtsZ.y0 | exact AtsZ.y1 | exact AtsZ.w0 | exact AtsZ.w1); exact rfl; exact rfl))
    repeat (refine wXh ?_)
    (refine RD_callS rfl (hFb (fun h => hok h.1) _ _ (Hv.mem memF) (Hv.mem memF)) rfl rfl ?_; rintro _ _ _ ⟨rfl, rfl, rfl⟩; refine ⟨okF, ?_⟩)
    repeat (first | (refine wXh ?_) | (apply RD_ldZIB; exact vwF; exact rfl; exact memF; (first | exact AtsZ.y0 | exact AtsZ.y1 | exact AtsZ.w0 | exact AtsZ.w1); exact rfl; exact rfl))
    repeat (refine wXh ?_)
    (refine RD_callS rfl (hVr _ _ (Hv.mem memF)) rfl rfl ?_; rintro _ _ _ ⟨rfl, rfl, rfl⟩; refine ⟨okF, ?_⟩)
    repeat (first | (refine wXh ?_) | (apply RD_ldZIB; exact vwF; exact rfl; exact memF; (first | exact AtsZ.y0 | exact AtsZ.y1 | exact AtsZ.w0 | exact AtsZ.w1); exact rfl; exact rfl))
    repeat (refine wXh ?_)
    (refine RD_callS rfl (lZero_z) rfl rfl ?_; rintro _ _ _ ⟨rfl, rfl, rfl⟩; refine ⟨okF, ?_⟩)
    repeat (first | (refine wXh ?_) | (apply RD_ldZIB; exact vwF; exact rfl; exact memF; (first | exact AtsZ.y0 | exact AtsZ.y1 | exact AtsZ.w0 | exact AtsZ.w1); exact rfl; exact rfl))
    repeat (refine wXh ?_)
    (refine RD_callS rfl (hVr _ _ (Hv.mem memF)) rfl rfl ?_; rintro _ _ _ ⟨rfl, rfl, rfl⟩; refine ⟨okF, ?_⟩)
    repeat (first | (refine wXh ?_) | (apply RD_ldZIB; exact vwF; exact rfl; exact memF; (first | exact AtsZ.y0 | exact AtsZ.y1 | exact AtsZ.w0 | exact AtsZ.w1); exact rfl; exact rfl))
    repeat (refine wXh ?_)
    refine ND_ret1 (by first | exact .inl rfl | exact .inr rfl) rfl rfl _ _ subF incF (⟨rfl, rfl, rfl⟩)
end
end Go.Proofs.YtllaoaobnnondaaGreatR
