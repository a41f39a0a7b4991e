/- The chapter's example (25). -/
import Derived.Test.YtllaoaobnnondaaGreatRZibo
import Derived.Test.YtllaoaobnnondaaGreatRZibb
set_option linter.unusedSimpArgs false
set_option linter.unusedVariables false
namespace Go.Proofs.YtllaoaobnnondaaGreatR
open Go Go.Fx
theorem TD_freezeB {P : Program} {n : Nat} {Q : Exit → Act → World → Prop} {G : Env} {X : List Nat} {w0 : World} {M M' : List Ent} {I : List Imm} {c : Code} {b : Nat} {cs : List Value} {e : TypeId} (hr : Rem (.blk b cs e) M M') (h : TD P n c Q G X w0 M' (slI (some ⟨b, 0, none⟩) cs :: I)) : TD P n c Q G X w0 M I := TD_m (fun _ hw => hw.freezeB hr) h
abbrev zW : RW := ⟨false, none, [], 0, false, none, [], 0⟩
abbrev zTW : TW := ⟨zW, zW, zW⟩
abbrev zYW : YW := ⟨zTW, zTW⟩
theorem zYW_sml : zYW.sml := by
  have h : zTW.sml := fun e he => by
    simp only [List.mem_cons, List.not_mem_nil, or_false, or_self] at he
    subst he
    exact ⟨by decide, by decide⟩
  exact ⟨h, h⟩
theorem zYW_ok : ¬ zYW.ok := by decide
section
variable {X : List Nat} {w0 : World} {M0 : List Ent} {I0 : List Imm}
theorem zYW_is (X : List Nat) (w : World) : IsYW zYW X w := by
  have h : IsW zW X w := ⟨⟨fun x hx => by simp at hx, fun x hx => by simp at hx, by decide, by decide, ⟨Nat.le_refl _, .inr ⟨rfl, rfl⟩⟩, ⟨Nat.le_refl _, .inr ⟨rfl, rfl⟩⟩⟩, Sl.nil _ _ _, Sl.nil _ _ _⟩
  have h3 : IsTW zTW X w := ⟨fun e he => by
    simp only [List.mem_cons, List.not_mem_nil, or_false, or_self] at he
    subst he; exact h⟩
  exact ⟨h3, h3⟩
theorem lWhole_ok {x y z : Int} {k : Nat} (hx : x.natAbs ≤ 2 ^ k ∧ -9223372036854775808 ≤ x ∧ x ≤ 9223372036854775807) (hy : y.natAbs ≤ 2 ^ k ∧ -9223372036854775808 ≤ y ∧ y ≤ 9223372036854775807) (hz : z.natAbs ≤ 2 ^ k ∧ -9223372036854775808 ≤ z ∧ z ≤ 9223372036854775807) :
    CD Tryz.prog 88 [.int .i64 x, .int .i64 y, .int .i64 z] X w0 M0 I0 (TQ ⟨(x : Rat), (y : Rat), (z : Rat)⟩ k M0 I0) := by
  refine enterD3 Tryz.func88 rfl Tryz.ntmps88 rfl ?_
  refine TD_seq ?_
  refine TD_region ?_
  (refine RD_alloc rfl rfl ?_; intro b6; refine ⟨okF, ?_⟩)
  repeat (refine wXh ?_)
  (refine RD_callS rfl (rQWhole_ok (x := x) hx.2 (k := k) hx.1) rfl rfl ?_; rintro _ _ _ ⟨rfl, e1, rfl, he1, rfl⟩; refine ⟨okF, ?_⟩)
  repeat (refine wXh ?_)
  (refine RD_callS rfl (rQWhole_ok (x := y) hy.2 (k := k) hy.1) rfl rfl ?_; rintro _ _ _ ⟨rfl, e2, rfl, he2, rfl⟩; refine ⟨okF, ?_⟩)
  repeat (refine wXh ?_)
  (refine RD_callS rfl (rQWhole_ok (x := z) hz.2 (k := k) hz.1) rfl rfl ?_; rintro _ _ _ ⟨rfl, e3, rfl, he3, rfl⟩; refine ⟨okF, ?_⟩)
  repeat (refine wXh ?_)
  (refine RD_c rfl (fun _ => Const_arrC (vals := [rv e1, rv e2, rv e3]) (cells := recs eR [e1, e2, e3]) rfl ?hpl rfl ?hz) rfl rfl ?_; (case hpl => exact (by intro v hv; repeat (first | exact absurd hv (List.not_mem_nil) | (rcases List.mem_cons.1 hv with rfl | hv; · rfl)))); (case hz => rfl))
  repeat (refine wXh ?_)
  refine ND_hv (φ := isT ⟨e1, e2, e3⟩ k) (Hv.mkT (Hv.mem memF) (Hv.mem memF) (Hv.mem memF)) ?_
  refine ND_retC (cs := recs eR [e1, e2, e3]) (.inl rfl) rfl rfl memF rfl M0 (isT ⟨e1, e2, e3⟩ k :: I0) subF incF ⟨rfl, ⟨e1, e2, e3⟩, rfl, by show (⟨e1.q, e2.q, e3.q⟩ : V3) = _; rw [he1, he2, he3], rfl⟩
theorem toList_ok {p : TE} {k : Nat} (h : Hv I0 (isT p k)) : CD Tryz.prog 90 [tv p] X w0 M0 I0 (fun v M I => M0 = M ∧ ∃ b, v = lv (p.l b) ∧ I = isL (p.l b) k :: I0) := by
  refine CD_hv (φ := isT p k) h ?_
  refine enterD1 Tryz.func90 rfl Tryz.ntmps90 rfl ?_
  refine TD_seq ?_
  refine TD_region ?_
  (refine RD_boxA rfl rfl rfl ?_; intro b; refine ⟨okF, ?_⟩)
  refine RD_freezeB .here ?_
  repeat (refine wXh ?_)
  (refine RD_c rfl (fun _ => Const_sliceA rfl) rfl rfl ?_)
  repeat (refine wXh ?_)
  refine ND_hv (φ := isL (p.l b) k) (Hv.tl (Hv.mem (φ := isT p k) memF) memF) ?_
  refine ND_ret1 (by first | exact .inl rfl | exact .inr rfl) rfl rfl _ _ subF incF (⟨rfl, b, rfl, rfl⟩)
set_option maxRecDepth 100000 in
set_option maxHeartbeats 4000000 in
theorem known25_ok : CD Tryz.prog 13 [] X w0 M0 I0 (fun v M I => M0 = M ∧ I0 = I ∧ v = .bool true) := by
  have hWh := fun (x y z : Int) (h : (x.natAbs ≤ 2 ^ 2 ∧ -9223372036854775808 ≤ x ∧ x ≤ 9223372036854775807) ∧ (y.natAbs ≤ 2 ^ 2 ∧ -9223372036854775808 ≤ y ∧ y ≤ 9223372036854775807) ∧ (z.natAbs ≤ 2 ^ 2 ∧ -9223372036854775808 ≤ z ∧ z ≤ 9223372036854775807)) M0 I0 => lWhole_ok (X := X) (w0 := w0) (M0 := M0) (I0 := I0) (x := x) (y := y) (z := z) (k := 2) h.1 h.2.1 h.2.2
  refine enterD0 Tryz.func13 rfl Tryz.ntmps13 rfl ?_
  repeat (refine wXh ?_)
  (refine RD_callS rfl (hWh 0 0 0 (by decide) _ _) rfl rfl ?_; rintro _ _ _ ⟨rfl, t1, rfl, ht1, rfl⟩; refine ⟨okF, ?_⟩)
  repeat (refine wXh ?_)
  (refine RD_callS rfl (hWh 1 0 0 (by decide) _ _) rfl rfl ?_; rintro _ _ _ ⟨rfl, t2, rfl, ht2, rfl⟩; refine ⟨okF, ?_⟩)
  repeat (refine wXh ?_)
  (refine RD_c rfl (fun _ => Const_structC (vals := [tv t1, tv t2]) (cells := recs eT [t1, t2]) rfl ?hpl rfl ?hz) rfl rfl ?_; (case hpl => repeat (first | exact True.intro | refine ⟨rfl, ?_⟩)); (case hz => rfl))
  repeat (refine wXh ?_)
  (refine RD_alloc rfl rfl ?_; intro b1; refine ⟨okF, ?_⟩)
  repeat (refine wXh ?_)
  (refine RD_callS rfl (hWh 0 0 2 (by decide) _ _) rfl rfl ?_; rintro _ _ _ ⟨rfl, t3, rfl, ht3, rfl⟩; refine ⟨okF, ?_⟩)
  repeat (refine wXh ?_)
  (refine RD_callS rfl (hWh 0 1 0 (by decide) _ _) rfl rfl ?_; rintro _ _ _ ⟨rfl, t4, rfl, ht4, rfl⟩; refine ⟨okF, ?_⟩)
  repeat (refine wXh ?_)
  (refine RD_c rfl (fun _ => Const_structC (vals := [tv t3, tv t4]) (cells := recs eT [t3, t4]) rfl ?hpl rfl ?hz) rfl rfl ?_; (case hpl => repeat (first | exact True.intro | refine ⟨rfl, ?_⟩)); (case hz => rfl))
  repeat (refine wXh ?_)
  (refine RD_alloc rfl rfl ?_; intro b2; refine ⟨okF, ?_⟩)
  repeat (refine wXh ?_)
  have hG := fun M0 I0 h1 h2 => Gap_ok (X := X) (w0 := w0) (M0 := M0) (I0 := I0) (r := ⟨t1, t2⟩) (s := ⟨t3, t4⟩) (k := 2) (by decide) (by show t2.v.dot t2.v ≠ 0; rw [ht2]; decide +kernel) (by show t4.v.dot t4.v ≠ 0; rw [ht4]; decide +kernel) (by show gramD t2.v t4.v ≠ 0; rw [ht2, ht4]; decide +kernel) h1 h2
  rw [show (gapV (⟨t1, t2⟩ : YE).o.v (⟨t1, t2⟩ : YE).a.v (⟨t3, t4⟩ : YE).o.v (⟨t3, t4⟩ : YE).a.v).dot (gapV (⟨t1, t2⟩ : YE).o.v (⟨t1, t2⟩ : YE).a.v (⟨t3, t4⟩ : YE).o.v (⟨t3, t4⟩ : YE).a.v) = 4 from by
    show (gapV t1.v t2.v t3.v t4.v).dot (gapV t1.v t2.v t3.v t4.v) = 4
    rw [ht1, ht2, ht3, ht4]; decide +kernel] at hG
  have hL := fun M0 I0 (q qw : Option Addr) h1 h2 h3 h4 => Least_ex (X := X) (w0 := w0) (M0 := M0) (I0 := I0) (r := ⟨t1, t2⟩) (s := ⟨t3, t4⟩) (q := q) (qw := qw) (c := 2) (cw := 2) ⟨⟨by
    have : (⟨t2.x.q, t2.y.q, t2.z.q⟩ : V3) = ⟨((1 : Int) : Rat), ((0 : Int) : Rat), ((0 : Int) : Rat)⟩ := ht2
    simp only [V3.mk.injEq] at this
    show [t2.x.q, t2.y.q, t2.z.q] = _
    rw [this.1, this.2.1, this.2.2]; rfl, by
    have : (⟨t1.x.q, t1.y.q, t1.z.q⟩ : V3) = ⟨((0 : Int) : Rat), ((0 : Int) : Rat), ((0 : Int) : Rat)⟩ := ht1
    simp only [V3.mk.injEq] at this
    show [t1.x.q, t1.y.q, t1.z.q] = _
    rw [this.1, this.2.1, this.2.2]; rfl⟩, by
    have : (⟨t4.x.q, t4.y.q, t4.z.q⟩ : V3) = ⟨((0 : Int) : Rat), ((1 : Int) : Rat), ((0 : Int) : Rat)⟩ := ht4
    simp only [V3.mk.injEq] at this
    show [t4.x.q, t4.y.q, t4.z.q] = _
    rw [this.1, this.2.1, this.2.2]; rfl, by
    have : (⟨t3.x.q, t3.y.q, t3.z.q⟩ : V3) = ⟨((0 : Int) : Rat), ((0 : Int) : Rat), ((2 : Int) : Rat)⟩ := ht3
    simp only [V3.mk.injEq] at this
    show [t3.x.q, t3.y.q, t3.z.q] = _
    rw [this.1, this.2.1, this.2.2]; rfl⟩ h1 h2 h3 h4
  refine RD_hv (φ := isY ⟨t1, t2⟩ 2) ⟨fun X w hw => ⟨hw (isT t1 2) memF, hw (isT t2 2) memF⟩⟩ ?_
  refine RD_hv (φ := isY ⟨t3, t4⟩ 2) ⟨fun X w hw => ⟨hw (isT t3 2) memF, hw (isT t4 2) memF⟩⟩ ?_
  repeat (refine wXh ?_)
  (refine RD_callS rfl (hG _ _ (Hv.mem memF) (Hv.mem memF)) rfl rfl ?_; rintro _ _ _ ⟨rfl, g, rfl, hg, rfl⟩; refine ⟨okF, ?_⟩)
  repeat (refine wXh ?_)
  (refine RD_alloc rfl rfl ?_; intro b3; refine ⟨okF, ?_⟩)
  repeat (refine wXh ?_)
  (refine RD_vals (cs := recs eY [(⟨t1, t2⟩ : YE), ⟨t3, t4⟩]) ([yv ⟨t1, t2⟩, yv ⟨t3, t4⟩]) rfl rfl (by intro v hv; repeat (first | exact absurd hv (List.not_mem_nil) | (rcases List.mem_cons.1 hv with rfl | hv; · rfl))) (by omega) rfl rfl rfl ?_; intro c1; refine ⟨okF, ?_⟩)
  refine RD_freezeB .here ?_
  repeat (refine wXh ?_)
  (refine RD_vals (cs := recs (eI .i64) [1, 1]) ([.int .i64 1, .int .i64 1]) rfl rfl (by intro v hv; repeat (first | exact absurd hv (List.not_mem_nil) | (rcases List.mem_cons.1 hv with rfl | hv; · rfl))) (by omega) rfl rfl rfl ?_; intro c2; refine ⟨okF, ?_⟩)
  refine RD_freezeB .here ?_
  repeat (refine wXh ?_)
  (refine RD_callS rfl (hL _ _ (some ⟨c1, 0, none⟩) (some ⟨c2, 0, none⟩) memF memF memF memF) rfl rfl ?_; rintro _ _ _ ⟨rfl, p, s, rfl, hp, hs, rfl⟩; refine ⟨okF, ?_⟩)
  repeat (refine wXh ?_)
  (refine RD_alloc rfl rfl ?_; intro b5; refine ⟨okF, ?_⟩)
  (refine RD_alloc rfl rfl ?_; intro b6; refine ⟨okF, ?_⟩)
  repeat (refine wXh ?_)
  refine TD_freezeB (b := b3) remF ?_
  refine TD_freezeB (b := b5) remF ?_
  refine TD_freezeB (b := b6) remF ?_
  refine TD_hv (φ := isL (p.l b5) 10000) (Hv.tl (Hv.mem (φ := isT p 10000) memF) memF) ?_
  have hSm := fun (a b : RE) (k m : Nat) (h : k + m + 1 ≤ 100000000) (e : a.q = b.q) M0 I0 h1 h2 => by
    have := rSame_ok (X := X) (w0 := w0) (M0 := M0) (I0 := I0) (a := a) (b := b) (k := k) (m := m) h h1 h2
    rw [B_true e] at this
    exact this
  have hW := fun (x : Int) (h : x.natAbs ≤ 2 ^ 3 ∧ -9223372036854775808 ≤ x ∧ x ≤ 9223372036854775807) M0 I0 => rQWhole_ok (X := X) (w0 := w0) (M0 := M0) (I0 := I0) (x := x) h.2 (k := 3) h.1
  (repeat refine TD_seq ?_); refine TD_drawnW (M0) (slI (some ⟨b6, 0, none⟩) (eR s) :: slI (some ⟨b5, 0, none⟩) (eT p) :: slI (some ⟨b3, 0, none⟩) (eR g) :: isL (p.l b5) 10000 :: isR s 10000 :: isT p 10000 :: isR g (2000 * (2 + 1)) :: I0) [0, 1, 2, 3, 4, 5, 6, 7, 8, 9, 10, 11, 12, 13, 14, 15, 16, 17, 18, 19, 20, 21, 22, 23, 24, 25, 26, 27, 28] [9, 9, 7, 8, 0, 0, 7, 7, 7, 7, 7, 4, 6, 0, 0, 0, 4, 2, 3, 0, 0, 2, 0, 1, 0, 0, 0, 0, 0] subF incF mixed (by kernel_rfl) ?_
  repeat (refine wXh ?_)
  (refine RD_callS rfl (hW 4 (by decide) _ _) rfl rfl ?_; rintro _ _ _ ⟨rfl, f1, rfl, hf1, rfl⟩; refine ⟨okF, ?_⟩)
  repeat (refine wXh ?_)
  (refine RD_callS rfl (hSm g f1 (2000 * (2 + 1)) 3 (by decide) (by rw [hg, hf1]; rfl) _ _ (Hv.mem memF) (Hv.mem memF)) rfl rfl ?_; rintro _ _ _ ⟨rfl, rfl, rfl⟩; refine ⟨okF, ?_⟩)
  repeat (refine wXh ?_)
  (refine RD_c rfl (fun _ => Const_sliceA rfl) rfl rfl ?_)
  (refine RD_callS rfl (hWh 0 0 1 (by decide) _ _) rfl rfl ?_; rintro _ _ _ ⟨rfl, t5, rfl, ht5, rfl⟩; refine ⟨okF, ?_⟩)
  repeat (refine wXh ?_)
  (refine RD_callS rfl (toList_ok (p := t5) (k := 2) (Hv.mem memF)) rfl rfl ?_; rintro _ _ _ ⟨rfl, b7, rfl, rfl⟩; refine ⟨okF, ?_⟩)
  have hSL := fun M0 I0 h1 h2 => rSameList_ok (X := X) (w0 := w0) (M0 := M0) (I0 := I0) (x := p.l b5) (y := t5.l b7) (u := 10000) (m := 2) (by decide) (by show (3 : Nat) ≤ 1000; decide) (by show (3 : Nat) ≤ 1000; decide) h1 h2
  rw [B_true (show (p.l b5).q = (t5.l b7).q from by
    have h1 : (⟨p.x.q, p.y.q, p.z.q⟩ : V3) = ⟨0, 0, 1⟩ := hp
    have h2 : (⟨t5.x.q, t5.y.q, t5.z.q⟩ : V3) = ⟨((0 : Int) : Rat), ((0 : Int) : Rat), ((1 : Int) : Rat)⟩ := ht5
    simp only [V3.mk.injEq] at h1 h2
    show [p.x.q, p.y.q, p.z.q] = [t5.x.q, t5.y.q, t5.z.q]
    rw [h1.1, h1.2.1, h1.2.2, h2.1, h2.2.1, h2.2.2]; rfl)] at hSL
  (refine RD_callS rfl (hSL _ _ (Hv.mem memF) (Hv.mem memF)) rfl rfl ?_; rintro _ _ _ ⟨rfl, rfl, rfl⟩; refine ⟨okF, ?_⟩)
  repeat (refine wXh ?_)
  (refine RD_callS rfl (hW 2 (by decide) _ _) rfl rfl ?_; rintro _ _ _ ⟨rfl, f2, rfl, hf2, rfl⟩; refine ⟨okF, ?_⟩)
  repeat (refine wXh ?_)
  (refine RD_callS rfl (hSm s f2 10000 3 (by decide) (by rw [hs, hf2]; rfl) _ _ (Hv.mem memF) (Hv.mem memF)) rfl rfl ?_; rintro _ _ _ ⟨rfl, rfl, rfl⟩; refine ⟨okF, ?_⟩)
  repeat (refine wXh ?_)
  (refine RD_c rfl (fun _ => Const_struct (pvs := ([]).zipIdx.map (fun p => (p.2, p.1))) (cells := eYW zYW) rfl rfl) rfl rfl ?_)
  (refine RD_vals (cs := recs eYW [zYW]) ([ywv zYW]) rfl rfl (by intro v hv; repeat (first | exact absurd hv (List.not_mem_nil) | (rcases List.mem_cons.1 hv with rfl | hv; · rfl))) (by omega) rfl rfl rfl ?_; intro c3; refine ⟨okF, ?_⟩)
  refine RD_freezeB .here ?_
  refine RD_hv (φ := allYW [zYW]) ⟨fun X w _ => ⟨fun r hr => by rw [List.mem_singleton.1 hr]; exact zYW_is X w⟩⟩ ?_
  have hC := fun M0 I0 h1 h2 => iCheck_ok (X := X) (w0 := w0) (M0 := M0) (I0 := I0) (q := some ⟨c3, 0, none⟩) (c := 1) (n := 1) (ms := [zYW]) rfl (by decide) (fun x hx => by rw [List.mem_singleton.1 hx]; exact zYW_sml) h1 h2
  rw [chkC_no (fun h => zYW_ok (h zYW (List.Mem.head _)))] at hC
  (refine RD_callS rfl (hC _ _ memF memF) rfl rfl ?_; rintro _ _ _ ⟨rfl, rfl, rfl⟩; refine ⟨okF, ?_⟩)
  repeat (refine wXh ?_)
  refine ND_ret1 (by first | exact .inl rfl | exact .inr rfl) rfl rfl _ _ subF incF (⟨rfl, rfl, congrArg Value.bool (B_true rfl)⟩)
end
end Go.Proofs.YtllaoaobnnondaaGreatR
