/- intersect: rays; gram, parallax, miss. intersect: rays as they come in; canonical, Check. -/
import Derived.Test.YtllaoaobnnondaaGreatRZibf
import Derived.Test.YtllaoaobnnondaaGreatRZibb
set_option linter.unusedSimpArgs false
set_option linter.unusedVariables false
namespace Go.Proofs.YtllaoaobnnondaaGreatR
open Go Go.Fx
/-- a ray -/
structure YE where
  o : TE
  a : TE
instance : Inhabited YE := ⟨⟨default, default⟩⟩
abbrev eY (r : YE) : List Value := recs eT [r.o, r.a]
abbrev yv (r : YE) : Value := .agg (recs eT [r.o, r.a]).toArray
instance : Sized eY 24 := ⟨fun _ => rfl⟩
instance : Ones eY := ⟨fun m u hu => recs_one _ u hu⟩
structure IsY (p : YE) (k : Nat) (X : List Nat) (w : World) : Prop where
  o : IsT p.o k X w
  a : IsT p.a k X w
abbrev isY (p : YE) (k : Nat) : Imm := IsY p k
instance (p : YE) (k : Nat) : Fx.Good (IsY p k) := ⟨fun X Y w w' h he hY => ⟨Fx.Good.go (φ := IsT _ _) X Y w w' h.o he hY, Fx.Good.go (φ := IsT _ _) X Y w w' h.a he hY⟩⟩
theorem Hv.yo {I : List Imm} {p : YE} {k : Nat} (h : Hv I (isY p k)) : Hv I (isT p.o k) := ⟨fun X w hw => (h.go X w hw).o⟩
theorem Hv.ya {I : List Imm} {p : YE} {k : Nat} (h : Hv I (isY p k)) : Hv I (isT p.a k) := ⟨fun X w hw => (h.go X w hw).a⟩
theorem AtsZ.y0 {o a : TE} : AtsZ (recs eT [o, a]) 0 (eT o) 12 := by
  have := AtsZ.r (enc := eT) (ms := [o, a]) (i := 0) (by simp)
  exact this
theorem AtsZ.y1 {o a : TE} : AtsZ (recs eT [o, a]) 12 (eT a) 12 := by
  have := AtsZ.r (enc := eT) (ms := [o, a]) (i := 1) (by simp)
  exact this
/-- the height of a product of vectors -/
def hd3 (k m : Nat) : Nat := 3 * (k + m + 1)
def gramD (a b : V3) : Rat := a.dot a * b.dot b - a.dot b * a.dot b
section
variable {X : List Nat} {w0 : World} {M0 : List Ent} {I0 : List Imm}
def GQ (a b : V3) (k D : Nat) (M0 : List Ent) (I0 : List Imm) (v : Value) (M : List Ent) (I : List Imm) : Prop := M0 = M ∧ ∃ e1 e2 e3 e4 : RE, v = .tuple #[rv e1, rv e2, rv e3, rv e4] ∧ e1.q = a.dot a ∧ e2.q = a.dot b ∧ e3.q = b.dot b ∧ e4.q = gramD a b ∧ I = isR e4 D :: isR e3 k :: isR e2 k :: isR e1 k :: I0
set_option maxRecDepth 100000 in
set_option maxHeartbeats 2000000 in
theorem iGram_ok {r s : YE} {k D : Nat} (hD : D = hd3 k k) (hk : D + D + (D + D) + 1 ≤ 100000000) (hr : Hv I0 (isY r k)) (hs : Hv I0 (isY s k)) :
    CD Tryz.prog 92 [yv r, yv s] X w0 M0 I0 (GQ r.a.v s.a.v D (D + D + (D + D) + 1) M0 I0) := by
  refine CD_hv (φ := isT r.a k) hr.ya (CD_hv (φ := isT s.a k) hs.ya.cons ?_)
  have hDo := fun (x y : TE) M0 I0 h1 h2 => iDot_ok (X := X) (w0 := w0) (M0 := M0) (I0 := I0) (a := x) (b := y) (k := k) (m := k) (show hd3 k k ≤ 100000000 by omega) h1 h2
  rw [show 3 * (k + k + 1) = D from hD.symm] at hDo
  have hDt := fun (a b c d : RE) M0 I0 h1 h2 h3 h4 => iDet_ok (X := X) (w0 := w0) (M0 := M0) (I0 := I0) (a := a) (b := b) (c := c) (d := d) (k := D) hk h1 h2 h3 h4
  clear hD
  refine enterD2 Tryz.func92 rfl Tryz.ntmps92 rfl ?_
  refine TD_seq ?_
  refine TD_region ?_
  (refine RD_boxA rfl rfl rfl ?_; intro b2; refine ⟨okF, ?_⟩)
  refine RD_freezeB .here ?_
  (refine RD_boxA rfl rfl rfl ?_; intro b3; refine ⟨okF, ?_⟩)
  refine RD_freezeB .here ?_
  (refine RD_alloc rfl rfl ?_; intro b4; refine ⟨okF, ?_⟩)
  (refine RD_alloc rfl rfl ?_; intro b5; refine ⟨okF, ?_⟩)
  (refine RD_alloc rfl rfl ?_; intro b6; refine ⟨okF, ?_⟩)
  (refine RD_alloc rfl rfl ?_; intro b7; refine ⟨okF, ?_⟩)
  repeat (refine wXh ?_)
  (repeat refine TD_seq ?_); refine TD_drawnW (M0) (slI (some ⟨b3, 0, none⟩) (recs eT [s.o, s.a]) :: slI (some ⟨b2, 0, none⟩) (recs eT [r.o, r.a]) :: isT s.a k :: isT r.a k :: I0) [0, 1, 2, 3, 5, 6, 7, 8, 10, 11, 12, 13, 4, 9, 14, 15, 16, 17] [3, 2, 3, 2, 4, 3, 4, 3, 5, 4, 5, 4, 0, 0, 0, 0, 0, 0] subF incF mixed (by kernel_rfl) ?_
  repeat (first | (refine wXh ?_) | (apply RD_ldZIB; exact vwF; exact rfl; exact memF; (first | exact AtsZ.y0 | exact AtsZ.y1 | exact AtsZ.w0 | exact AtsZ.w1); exact rfl; exact rfl))
  repeat (refine wXh ?_)
  (refine RD_callS rfl (hDo r.a r.a _ _ (Hv.mem memF) (Hv.mem memF)) rfl rfl ?_; rintro _ _ _ ⟨rfl, e1, rfl, he1, rfl⟩; refine ⟨okF, ?_⟩)
  repeat (first | (refine wXh ?_) | (apply RD_ldZIB; exact vwF; exact rfl; exact memF; (first | exact AtsZ.y0 | exact AtsZ.y1 | exact AtsZ.w0 | exact AtsZ.w1); exact rfl; exact rfl))
  repeat (refine wXh ?_)
  (refine RD_callS rfl (hDo r.a s.a _ _ (Hv.mem memF) (Hv.mem memF)) rfl rfl ?_; rintro _ _ _ ⟨rfl, e2, rfl, he2, rfl⟩; refine ⟨okF, ?_⟩)
  repeat (first | (refine wXh ?_) | (apply RD_ldZIB; exact vwF; exact rfl; exact memF; (first | exact AtsZ.y0 | exact AtsZ.y1 | exact AtsZ.w0 | exact AtsZ.w1); exact rfl; exact rfl))
  repeat (refine wXh ?_)
  (refine RD_callS rfl (hDo s.a s.a _ _ (Hv.mem memF) (Hv.mem memF)) rfl rfl ?_; rintro _ _ _ ⟨rfl, e3, rfl, he3, rfl⟩; refine ⟨okF, ?_⟩)
  repeat (first | (refine wXh ?_) | (apply RD_ldZIB; exact vwF; exact rfl; exact memF; (first | exact AtsZ.y0 | exact AtsZ.y1 | exact AtsZ.w0 | exact AtsZ.w1); exact rfl; exact rfl))
  repeat (refine wXh ?_)
  (repeat refine TD_seq ?_); refine TD_drawnW (.blk b6 (eR e3) 26 :: .blk b5 (eR e2) 26 :: .blk b4 (eR e1) 26 :: M0) (isR e3 D :: isR e2 D :: isR e1 D :: I0) [0, 1, 2, 3, 4, 5, 6, 7, 8, 9, 10, 11] [1, 2, 3, 0, 0, 0, 0, 0, 0, 0, 0, 0] subF incF mixed (by kernel_rfl) ?_
  repeat (refine wXh ?_)
  (refine RD_callS rfl (hDt e1 e2 e2 e3 _ _ (Hv.mem memF) (Hv.mem memF) (Hv.mem memF) (Hv.mem memF)) rfl rfl ?_; rintro _ _ _ ⟨rfl, e4, rfl, he4, rfl⟩; refine ⟨okF, ?_⟩)
  repeat (refine wXh ?_)
  refine ND_retsC (rs := [.cell 4 26, .cell 5 26, .cell 6 26, .cell 7 26]) (vs := [rv e1, rv e2, rv e3, rv e4]) (.inl rfl) rfl (.cellN (cs := eR e1) inferInstance rfl memF rfl (.cellN (cs := eR e2) inferInstance rfl memF rfl (.cellN (cs := eR e3) inferInstance rfl memF rfl (.cellN (cs := eR e4) inferInstance rfl memF rfl .nil)))) rfl M0 (isR e4 (D + D + (D + D) + 1) :: isR e3 D :: isR e2 D :: isR e1 D :: I0) subF incF ⟨rfl, e1, e2, e3, e4, rfl, he1, he2, he3, by rw [he4, he1, he2, he3]; rfl, rfl⟩
set_option maxRecDepth 100000 in
set_option maxHeartbeats 2000000 in
theorem iParallax_ok {r s : YE} {k : Nat} (hk : k ≤ 100000) (hr0 : r.a.v.dot r.a.v ≠ 0) (hs0 : s.a.v.dot s.a.v ≠ 0) (hr : Hv I0 (isY r k)) (hs : Hv I0 (isY s k)) :
    CD Tryz.prog 108 [yv r, yv s] X w0 M0 I0 (RQ (gramD r.a.v s.a.v / (r.a.v.dot r.a.v * s.a.v.dot s.a.v)) (100 * (k + 1)) M0 I0) := by
  obtain ⟨D, hD⟩ : ∃ D, D = hd3 k k := ⟨_, rfl⟩
  have hD2 : D = 3 * (k + k + 1) := hD
  refine CD_hv (φ := isY r k) hr (CD_hv (φ := isY s k) hs.cons ?_)
  have hG := fun M0 I0 h1 h2 => iGram_ok (X := X) (w0 := w0) (M0 := M0) (I0 := I0) (r := r) (s := s) (k := k) (D := D) hD (by omega) h1 h2
  have hM := fun (x y : RE) M0 I0 h1 h2 => QMul_ok (X := X) (w0 := w0) (M0 := M0) (I0 := I0) (a := x) (b := y) (k := D) (m := D) (by omega) h1 h2
  have hO := fun (x y : RE) M0 I0 h0 h1 h2 => iOver_ok (X := X) (w0 := w0) (M0 := M0) (I0 := I0) (a := x) (b := y) (k := D + D + (D + D) + 1) (m := D + D) (by omega) h0 h1 h2
  clear hD
  refine enterD2 Tryz.func108 rfl Tryz.ntmps108 rfl ?_
  refine TD_seq ?_
  refine TD_region ?_
  (refine RD_boxA rfl rfl rfl ?_; intro b2; refine ⟨okF, ?_⟩)
  refine RD_freezeB .here ?_
  (refine RD_boxA rfl rfl rfl ?_; intro b3; refine ⟨okF, ?_⟩)
  refine RD_freezeB .here ?_
  (refine RD_alloc rfl rfl ?_; intro b4; refine ⟨okF, ?_⟩)
  repeat (first | (refine wXh ?_) | (apply RD_ldZIB; exact vwF; exact rfl; exact memF; (first | exact AtsZ.y0 | exact AtsZ.y1 | exact AtsZ.w0 | exact AtsZ.w1); exact rfl; exact rfl))
  repeat (refine wXh ?_)
  (refine RD_callS rfl (hG _ _ (Hv.mem memF) (Hv.mem memF)) rfl rfl ?_; rintro _ _ _ ⟨rfl, e1, e2, e3, e4, rfl, he1, he2, he3, he4, rfl⟩; refine ⟨okF, ?_⟩)
  repeat (first | (refine wXh ?_) | (apply RD_ldZIB; exact vwF; exact rfl; exact memF; (first | exact AtsZ.y0 | exact AtsZ.y1 | exact AtsZ.w0 | exact AtsZ.w1); exact rfl; exact rfl))
  repeat (refine wXh ?_)
  (refine RD_alloc rfl rfl ?_; intro b5; refine ⟨okF, ?_⟩)
  (refine RD_alloc rfl rfl ?_; intro b6; refine ⟨okF, ?_⟩)
  (refine RD_alloc rfl rfl ?_; intro b7; refine ⟨okF, ?_⟩)
  (refine RD_alloc rfl rfl ?_; intro b8; refine ⟨okF, ?_⟩)
  repeat (first | (refine wXh ?_) | (apply RD_ldZIB; exact vwF; exact rfl; exact memF; (first | exact AtsZ.y0 | exact AtsZ.y1 | exact AtsZ.w0 | exact AtsZ.w1); exact rfl; exact rfl))
  repeat (refine wXh ?_)
  (repeat refine TD_seq ?_); refine TD_drawnW (.blk b8 (eR e4) 26 :: .blk b7 (eR e3) 26 :: .blk b6 (eR e2) 26 :: .blk b5 (eR e1) 26 :: M0) (isR e4 (D + D + (D + D) + 1) :: isR e3 D :: isR e2 D :: isR e1 D :: I0) [0, 1, 2, 3, 4, 5] [1, 1, 1, 0, 0, 0] subF incF mixed (by kernel_rfl) ?_
  repeat (first | (refine wXh ?_) | (apply RD_ldZIB; exact vwF; exact rfl; exact memF; (first | exact AtsZ.y0 | exact AtsZ.y1 | exact AtsZ.w0 | exact AtsZ.w1); exact rfl; exact rfl))
  repeat (refine wXh ?_)
  (refine RD_callS rfl (hM e1 e3 _ _ (Hv.mem memF) (Hv.mem memF)) rfl rfl ?_; rintro _ _ _ ⟨rfl, e5, rfl, he5, rfl⟩; refine ⟨okF, ?_⟩)
  have h50 : e5.q ≠ 0 := by
    rw [he5, he1, he3]
    intro h
    rcases Rat.mul_eq_zero.1 h with h | h
    · exact hr0 h
    · exact hs0 h
  (refine RD_callS rfl (hO e4 e5 _ _ h50 (Hv.mem memF) (Hv.mem memF)) rfl rfl ?_; rintro _ _ _ ⟨rfl, e6, rfl, he6, rfl⟩; refine ⟨okF, ?_⟩)
  repeat (first | (refine wXh ?_) | (apply RD_ldZIB; exact vwF; exact rfl; exact memF; (first | exact AtsZ.y0 | exact AtsZ.y1 | exact AtsZ.w0 | exact AtsZ.w1); exact rfl; exact rfl))
  repeat (refine wXh ?_)
  refine ND_hv (φ := isR e6 (100 * (k + 1))) (Hv.q (k := D + D + (D + D) + 1 + (D + D)) memF (by omega)) ?_
  refine ND_retC (cs := eR e6) (.inl rfl) rfl rfl memF rfl M0 (isR e6 (100 * (k + 1)) :: I0) subF incF ⟨rfl, e6, rfl, by rw [he6, he4, he5, he1, he3], rfl⟩
/-- the squared distance of a point from a line -/
def missQ (o a p : V3) : Rat := (p.sub o).dot (p.sub o) - (p.sub o).dot a * (p.sub o).dot a / a.dot a
set_option maxRecDepth 100000 in
set_option maxHeartbeats 2000000 in
theorem iMiss_ok {r : YE} {p : TE} {k : Nat} (hk : k ≤ 100000) (hr0 : r.a.v.dot r.a.v ≠ 0) (hr : Hv I0 (isY r k)) (hp : Hv I0 (isT p k)) :
    CD Tryz.prog 98 [yv r, tv p] X w0 M0 I0 (RQ (missQ r.o.v r.a.v p.v) (100 * (k + 1)) M0 I0) := by
  refine CD_hv (φ := isT r.o k) hr.yo (CD_hv (φ := isT r.a k) hr.ya.cons (CD_hv (φ := isT p k) hp.cons.cons ?_))
  have hMi := fun M0 I0 h1 h2 => iMinus_ok (X := X) (w0 := w0) (M0 := M0) (I0 := I0) (a := p) (b := r.o) (k := k) (m := k) (by omega) h1 h2
  obtain ⟨D1, hD1⟩ : ∃ D, D = k + k + 1 := ⟨_, rfl⟩
  rw [← hD1] at hMi
  have hDa := fun (x : TE) M0 I0 h1 h2 => iDot_ok (X := X) (w0 := w0) (M0 := M0) (I0 := I0) (a := x) (b := r.a) (k := D1) (m := k) (by omega) h1 h2
  have hDd := fun (x : TE) M0 I0 h1 h2 => iDot_ok (X := X) (w0 := w0) (M0 := M0) (I0 := I0) (a := x) (b := x) (k := D1) (m := D1) (by omega) h1 h2
  have hAa := fun M0 I0 h1 h2 => iDot_ok (X := X) (w0 := w0) (M0 := M0) (I0 := I0) (a := r.a) (b := r.a) (k := k) (m := k) (by omega) h1 h2
  obtain ⟨D2, hD2⟩ : ∃ D, D = 3 * (D1 + k + 1) := ⟨_, rfl⟩
  obtain ⟨D3, hD3⟩ : ∃ D, D = 3 * (D1 + D1 + 1) := ⟨_, rfl⟩
  obtain ⟨D, hD⟩ : ∃ D, D = 3 * (k + k + 1) := ⟨_, rfl⟩
  rw [← hD2] at hDa
  rw [← hD3] at hDd
  rw [← hD] at hAa
  have hM := fun (x : RE) M0 I0 h1 h2 => QMul_ok (X := X) (w0 := w0) (M0 := M0) (I0 := I0) (a := x) (b := x) (k := D2) (m := D2) (by omega) h1 h2
  have hO := fun (x y : RE) M0 I0 h0 h1 h2 => iOver_ok (X := X) (w0 := w0) (M0 := M0) (I0 := I0) (a := x) (b := y) (k := D2 + D2) (m := D) (by omega) h0 h1 h2
  have hS := fun (x y : RE) M0 I0 h1 h2 => QSub_ok (X := X) (w0 := w0) (M0 := M0) (I0 := I0) (a := x) (b := y) (k := D3) (m := D2 + D2 + D) (by omega) h1 h2
  refine enterD2 Tryz.func98 rfl Tryz.ntmps98 rfl ?_
  refine TD_seq ?_
  refine TD_region ?_
  (refine RD_boxA rfl rfl rfl ?_; intro b2; refine ⟨okF, ?_⟩)
  refine RD_freezeB .here ?_
  (refine RD_boxA rfl rfl rfl ?_; intro b3; refine ⟨okF, ?_⟩)
  refine RD_freezeB .here ?_
  (refine RD_alloc rfl rfl ?_; intro b4; refine ⟨okF, ?_⟩)
  repeat (first | (refine wXh ?_) | (apply RD_ldZIB; exact vwF; exact rfl; exact memF; (first | exact AtsZ.y0 | exact AtsZ.y1 | exact AtsZ.w0 | exact AtsZ.w1); exact rfl; exact rfl))
  repeat (refine wXh ?_)
  (refine RD_callS rfl (hMi _ _ (Hv.mem memF) (Hv.mem memF)) rfl rfl ?_; rintro _ _ _ ⟨rfl, d, rfl, hd, rfl⟩; refine ⟨okF, ?_⟩)
  repeat (first | (refine wXh ?_) | (apply RD_ldZIB; exact vwF; exact rfl; exact memF; (first | exact AtsZ.y0 | exact AtsZ.y1 | exact AtsZ.w0 | exact AtsZ.w1); exact rfl; exact rfl))
  repeat (refine wXh ?_)
  (refine RD_alloc rfl rfl ?_; intro b5; refine ⟨okF, ?_⟩)
  repeat (first | (refine wXh ?_) | (apply RD_ldZIB; exact vwF; exact rfl; exact memF; (first | exact AtsZ.y0 | exact AtsZ.y1 | exact AtsZ.w0 | exact AtsZ.w1); exact rfl; exact rfl))
  repeat (refine wXh ?_)
  (refine RD_callS rfl (hDa d _ _ (Hv.mem memF) (Hv.mem memF)) rfl rfl ?_; rintro _ _ _ ⟨rfl, e6, rfl, he6, rfl⟩; refine ⟨okF, ?_⟩)
  repeat (first | (refine wXh ?_) | (apply RD_ldZIB; exact vwF; exact rfl; exact memF; (first | exact AtsZ.y0 | exact AtsZ.y1 | exact AtsZ.w0 | exact AtsZ.w1); exact rfl; exact rfl))
  repeat (refine wXh ?_)
  (refine RD_alloc rfl rfl ?_; intro b6; refine ⟨okF, ?_⟩)
  repeat (first | (refine wXh ?_) | (apply RD_ldZIB; exact vwF; exact rfl; exact memF; (first | exact AtsZ.y0 | exact AtsZ.y1 | exact AtsZ.w0 | exact AtsZ.w1); exact rfl; exact rfl))
  repeat (refine wXh ?_)
  (repeat refine TD_seq ?_); refine TD_drawnW (.blk b6 (eR e6) 26 :: .blk b5 (recs eR [d.x, d.y, d.z]) 27 :: M0) (isR e6 D2 :: isT d D1 :: slI (some ⟨b3, 0, none⟩) (recs eR [p.x, p.y, p.z]) :: slI (some ⟨b2, 0, none⟩) (recs eT [r.o, r.a]) :: isT p k :: isT r.a k :: isT r.o k :: I0) [0, 1, 3, 4, 6, 7, 8, 9, 2, 5, 10, 11, 12, 13] [4, 4, 4, 4, 5, 4, 5, 4, 0, 0, 0, 0, 0, 0] subF incF mixed (by kernel_rfl) ?_
  repeat (first | (refine wXh ?_) | (apply RD_ldZIB; exact vwF; exact rfl; exact memF; (first | exact AtsZ.y0 | exact AtsZ.y1 | exact AtsZ.w0 | exact AtsZ.w1); exact rfl; exact rfl))
  repeat (refine wXh ?_)
  (refine RD_callS rfl (hDd d _ _ (Hv.mem memF) (Hv.mem memF)) rfl rfl ?_; rintro _ _ _ ⟨rfl, e1, rfl, he1, rfl⟩; refine ⟨okF, ?_⟩)
  repeat (first | (refine wXh ?_) | (apply RD_ldZIB; exact vwF; exact rfl; exact memF; (first | exact AtsZ.y0 | exact AtsZ.y1 | exact AtsZ.w0 | exact AtsZ.w1); exact rfl; exact rfl))
  repeat (refine wXh ?_)
  (refine RD_callS rfl (hM e6 _ _ (Hv.mem memF) (Hv.mem memF)) rfl rfl ?_; rintro _ _ _ ⟨rfl, e2, rfl, he2, rfl⟩; refine ⟨okF, ?_⟩)
  repeat (first | (refine wXh ?_) | (apply RD_ldZIB; exact vwF; exact rfl; exact memF; (first | exact AtsZ.y0 | exact AtsZ.y1 | exact AtsZ.w0 | exact AtsZ.w1); exact rfl; exact rfl))
  repeat (refine wXh ?_)
  (refine RD_callS rfl (hAa _ _ (Hv.mem memF) (Hv.mem memF)) rfl rfl ?_; rintro _ _ _ ⟨rfl, e3, rfl, he3, rfl⟩; refine ⟨okF, ?_⟩)
  repeat (first | (refine wXh ?_) | (apply RD_ldZIB; exact vwF; exact rfl; exact memF; (first | exact AtsZ.y0 | exact AtsZ.y1 | exact AtsZ.w0 | exact AtsZ.w1); exact rfl; exact rfl))
  repeat (refine wXh ?_)
  (refine RD_callS rfl (hO e2 e3 _ _ (by rw [he3]; exact hr0) (Hv.mem memF) (Hv.mem memF)) rfl rfl ?_; rintro _ _ _ ⟨rfl, e4, rfl, he4, rfl⟩; refine ⟨okF, ?_⟩)
  repeat (first | (refine wXh ?_) | (apply RD_ldZIB; exact vwF; exact rfl; exact memF; (first | exact AtsZ.y0 | exact AtsZ.y1 | exact AtsZ.w0 | exact AtsZ.w1); exact rfl; exact rfl))
  repeat (refine wXh ?_)
  (refine RD_callS rfl (hS e1 e4 _ _ (Hv.mem memF) (Hv.mem memF)) rfl rfl ?_; rintro _ _ _ ⟨rfl, e5, rfl, he5, rfl⟩; refine ⟨okF, ?_⟩)
  repeat (first | (refine wXh ?_) | (apply RD_ldZIB; exact vwF; exact rfl; exact memF; (first | exact AtsZ.y0 | exact AtsZ.y1 | exact AtsZ.w0 | exact AtsZ.w1); exact rfl; exact rfl))
  repeat (refine wXh ?_)
  refine ND_hv (φ := isR e5 (100 * (k + 1))) (Hv.q (k := D3 + (D2 + D2 + D) + 1) memF (by omega)) ?_
  refine ND_retC (cs := eR e5) (.inl rfl) rfl rfl memF rfl M0 (isR e5 (100 * (k + 1)) :: I0) subF incF ⟨rfl, e5, rfl, by rw [he5, he1, he4, he2, he3, he6, hd]; rfl, rfl⟩
end
end Go.Proofs.YtllaoaobnnondaaGreatR
namespace Go.Proofs.YtllaoaobnnondaaGreatR
open Go Go.Fx
structure TW where
  x : RW
  y : RW
  z : RW
instance : Inhabited TW := ⟨⟨default, default, default⟩⟩
abbrev TW.es (p : TW) : List RW := [p.x, p.y, p.z]
abbrev eTW (p : TW) : List Value := recs eW [p.x, p.y, p.z]
abbrev twv (p : TW) : Value := .agg (recs eW [p.x, p.y, p.z]).toArray
instance : Sized eTW 12 := ⟨fun _ => rfl⟩
instance : Ones eTW := ⟨fun m u hu => recs_one _ u hu⟩
structure IsTW (p : TW) (X : List Nat) (w : World) : Prop where
  el : ∀ e ∈ p.es, IsW e X w
abbrev isTW (p : TW) : Imm := IsTW p
instance (p : TW) : Fx.Good (IsTW p) := ⟨fun X Y w w' h he hY => ⟨fun e hm => Fx.Good.go (φ := IsW _) X Y w w' (h.el e hm) he hY⟩⟩
def TW.good (p : TW) : Prop := ∀ e ∈ p.es, e.good
instance (p : TW) : Decidable p.good := inferInstanceAs (Decidable (∀ e ∈ p.es, e.good))
def TW.sml (p : TW) : Prop := ∀ e ∈ p.es, e.sml
def RW.nz (e : RW) : Prop := ¬ e.g1.length = 0
instance (e : RW) : Decidable e.nz := inferInstanceAs (Decidable (¬ e.g1.length = 0))
def TW.nz (p : TW) : Prop := ∃ e ∈ p.es, e.nz
instance (p : TW) : Decidable p.nz := inferInstanceAs (Decidable (∃ e ∈ p.es, e.nz))
structure YW where
  o : TW
  a : TW
instance : Inhabited YW := ⟨⟨default, default⟩⟩
abbrev eYW (r : YW) : List Value := recs eTW [r.o, r.a]
abbrev ywv (r : YW) : Value := .agg (recs eTW [r.o, r.a]).toArray
instance : Sized eYW 24 := ⟨fun _ => rfl⟩
instance : Ones eYW := ⟨fun m u hu => recs_one _ u hu⟩
structure IsYW (p : YW) (X : List Nat) (w : World) : Prop where
  o : IsTW p.o X w
  a : IsTW p.a X w
abbrev isYW (p : YW) : Imm := IsYW p
instance (p : YW) : Fx.Good (IsYW p) := ⟨fun X Y w w' h he hY => ⟨Fx.Good.go (φ := IsTW _) X Y w w' h.o he hY, Fx.Good.go (φ := IsTW _) X Y w w' h.a he hY⟩⟩
structure AllYW (ms : List YW) (X : List Nat) (w : World) : Prop where
  go : ∀ r ∈ ms, IsYW r X w
abbrev allYW (ms : List YW) : Imm := AllYW ms
instance (ms : List YW) : Fx.Good (AllYW ms) := ⟨fun X Y w w' h he hY => ⟨fun r hm => Fx.Good.go (φ := IsYW _) X Y w w' (h.go r hm) he hY⟩⟩
theorem Hv.ywAt {I : List Imm} {ms : List YW} {i : Int} (h : allYW ms ∈ I) (hi : 0 ≤ i ∧ i < ms.length) : Hv I (isYW (gt ms i)) := ⟨fun X w hw => (hw _ h : AllYW ms X w).go _ (gt_mem hi)⟩
theorem Hv.ywo {I : List Imm} {r : YW} (h : Hv I (isYW r)) : Hv I (isTW r.o) := ⟨fun X w hw => (h.go X w hw).o⟩
theorem Hv.ywa {I : List Imm} {r : YW} (h : Hv I (isYW r)) : Hv I (isTW r.a) := ⟨fun X w hw => (h.go X w hw).a⟩
theorem Hv.twel {I : List Imm} {p : TW} {e : RW} (h : Hv I (isTW p)) (he : e ∈ p.es) : Hv I (isW e) := ⟨fun X w hw => (h.go X w hw).el e he⟩
def YW.ok (r : YW) : Prop := r.o.good ∧ r.a.good ∧ r.a.nz
instance (r : YW) : Decidable r.ok := inferInstanceAs (Decidable (r.o.good ∧ r.a.good ∧ r.a.nz))
def YW.sml (r : YW) : Prop := r.o.sml ∧ r.a.sml
def chkC (ms : List YW) : Int := if ∀ r ∈ ms, r.ok then 0 else 1
theorem AtsZ.w0 {o a : TW} : AtsZ (recs eTW [o, a]) 0 (eTW o) 12 := by
  have := AtsZ.r (enc := eTW) (ms := [o, a]) (i := 0) (by simp)
  exact this
theorem AtsZ.w1 {o a : TW} : AtsZ (recs eTW [o, a]) 12 (eTW a) 12 := by
  have := AtsZ.r (enc := eTW) (ms := [o, a]) (i := 1) (by simp)
  exact this
theorem Hv.fld0 {I : List Imm} {b : Nat} {o a : TW} (h : slI (some ⟨b, 0, none⟩) (recs eTW [o, a]) ∈ I) : Hv I (slI (some ⟨b, 0, none⟩) (recs eW [o.x, o.y, o.z])) := ⟨fun X w hw => ⟨by
  have := ((hw _ h : SlI _ _ X w).go).take 12
  exact this⟩⟩
theorem Hv.fld1 {I : List Imm} {b : Nat} {o a : TW} (h : slI (some ⟨b, 0, none⟩) (recs eTW [o, a]) ∈ I) : Hv I (slI (some ⟨b, 12, none⟩) (recs eW [a.x, a.y, a.z])) := ⟨fun X w hw => ⟨by
  have := ((hw _ h : SlI _ _ X w).go).drop 12
  exact this⟩⟩
theorem nz_raw {e : RE} : e.raw.nz ↔ e.q ≠ 0 := by
  show ¬ (gr e.q.num.natAbs).length = 0 ↔ _
  rw [List.length_eq_zero_iff, gr_nil, Int.natAbs_eq_zero, Rat.num_eq_zero]
section
variable {X : List Nat} {w0 : World} {M0 : List Ent} {I0 : List Imm}
theorem icanonical1_ok {r : RW} (hs : r.sml) (hw : Hv I0 (isW r)) : CD Tryz.prog 191 [wv r] X w0 M0 I0 (fun v M I => M0 = M ∧ I0 = I ∧ v = .bool (B (¬ r.good))) := by
  refine enterD1 Tryz.func191 rfl Tryz.ntmps191 rfl ?_
  refine TD_seq ?_
  refine TD_region ?_
  (refine RD_boxA rfl rfl rfl ?_; intro b; refine ⟨okF, ?_⟩)
  repeat (refine wXh ?_)
  (refine RD_callS rfl (Valid_raw (r := r) hs hw) rfl rfl ?_; rintro _ _ _ ⟨rfl, rfl, rfl⟩; refine ⟨okF, ?_⟩)
  repeat (refine wXh ?_)
  refine ND_ret1 (by first | exact .inl rfl | exact .inr rfl) rfl rfl _ _ subF incF (⟨rfl, rfl, rfl⟩)
theorem iCheck1_ok {r : RW} (hs : r.sml) (hg : r.good) (hw : Hv I0 (isW r)) : CD Tryz.prog 115 [wv r] X w0 M0 I0 (fun v M I => M0 = M ∧ I0 = I ∧ v = .bool (B r.nz)) := by
  refine xCD_fact (fun w hww => (hw.go _ w (fun φ hφ => (hww.imm φ hφ).2)).fit) (fun hf => ?_)
  obtain ⟨e, rfl⟩ := RW.good_raw hf hg
  have hR : Hv I0 (isR e 30000000) := ⟨fun X w hww => RE.isR_raw (hw.go X w hww) (by have := hs.1; omega) (by have := hs.2; omega)⟩
  have hS := QSign_ok (X := X) (w0 := w0) (M0 := M0) (I0 := I0) (e := e) (k := 30000000) (by decide) hR
  refine CD.mono (K := fun v M I => M0 = M ∧ I0 = I ∧ v = .bool (B (¬ e.q.num.sign = 0))) ?_ (fun v M I h => ⟨h.1, h.2.1, by rw [h.2.2]; exact congrArg Value.bool (B_congr ((not_congr (sign0 _)).trans nz_raw.symm))⟩)
  show CD Tryz.prog 115 [rv e] X w0 M0 I0 _
  refine enterD1 Tryz.func115 rfl Tryz.ntmps115 rfl ?_
  refine TD_seq ?_
  refine TD_region ?_
  (refine RD_boxA rfl rfl rfl ?_; intro b; refine ⟨okF, ?_⟩)
  repeat (refine wXh ?_)
  (refine RD_callS rfl (QSign_ok (e := e) (k := 30000000) (by decide) hR) rfl rfl ?_; rintro _ _ _ ⟨rfl, rfl, rfl⟩; refine ⟨okF, ?_⟩)
  repeat (refine wXh ?_)
  refine ND_ret1 (by first | exact .inl rfl | exact .inr rfl) rfl rfl _ _ subF incF (⟨rfl, rfl, rfl⟩)
theorem icanonical_ok {p : TW} (hs : p.sml) (hp : Hv I0 (isTW p)) : CD Tryz.prog 113 [twv p] X w0 M0 I0 (fun v M I => M0 = M ∧ I0 = I ∧ v = .bool (B p.good)) := by
  refine CD_hvV (φ := isTW p) hp ?_
  refine enterD1 Tryz.func113 rfl Tryz.ntmps113 rfl ?_
  refine TD_seq ?_
  refine TD_region ?_
  (refine RD_boxA rfl rfl rfl ?_; intro b; refine ⟨okF, ?_⟩)
  refine RD_freezeB .here ?_
  repeat (refine wXh ?_)
  (refine RD_c rfl (fun _ => Const_sliceA rfl) rfl rfl ?_)
  (refine RD_callS rfl (hasWR_ok (g := 191) (fs := #[]) (cs := #[]) (a := [p.x, p.y, p.z]) (fun (x : RW) => ¬ x.good) (by simp) memF (fun i hi => icanonical1_ok (hs _ (gt_mem (ms := [p.x, p.y, p.z]) ⟨by omega, by omega⟩)) (Hv.twel (Hv.mem (φ := isTW p) memF) (gt_mem (ms := [p.x, p.y, p.z]) ⟨by omega, by omega⟩)))) rfl rfl ?_; rintro _ _ _ ⟨rfl, rfl, rfl⟩; refine ⟨okF, ?_⟩)
  repeat (refine wXh ?_)
  refine ND_ret1 (by first | exact .inl rfl | exact .inr rfl) rfl rfl _ _ subF incF (⟨rfl, rfl, congrArg Value.bool (B_congr ?_)⟩)
  exact ⟨fun e x hx => Decidable.of_not_not (fun hn => e ⟨x, hx, hn⟩), fun e ⟨x, hx, hn⟩ => hn (e x hx)⟩
theorem chkC_ok {ms : List YW} (h : ∀ r ∈ ms, r.ok) : chkC ms = 0 := if_pos h
theorem chkC_no {ms : List YW} (h : ¬ ∀ r ∈ ms, r.ok) : chkC ms = 1 := if_neg h
set_option maxRecDepth 100000 in
set_option maxHeartbeats 2000000 in
theorem iCheck_ok {q : Option Addr} {c n : Nat} {ms : List YW} (hl : ms.length = n) (hn : n ≤ 1000) (hs : ∀ r ∈ ms, r.sml) (hq : slI q (recs eYW ms) ∈ I0) (hw : allYW ms ∈ I0) :
    CD Tryz.prog 33 [.slice q n c] X w0 M0 I0 (fun v M I => M0 = M ∧ I0 = I ∧ v = .int .i64 (chkC ms)) := by
  refine enterD1 Tryz.func33 rfl Tryz.ntmps33 rfl ?_
  repeat (refine wXh ?_)
  refine TD_loop [5, 6] rfl (fun k G M I => ∃ i : Nat, i ≤ n ∧ k = n - i ∧ (∀ j : Nat, j < i → (gt ms (j : Int)).ok) ∧ G = [(7, .int .i64 i)] ∧ M0 = M ∧ I0 = I) (n) _ _ _ subG subF incF (⟨0, by omega, rfl, fun j hj => by omega, rfl, rfl, rfl⟩) ?_
  rintro kk G M I ⟨i, hi, rfl, hg, rfl, rfl, rfl⟩
  by_cases hin : i < n
  · have hwi : Hv I0 (isYW (gt ms (i : Int))) := Hv.ywAt hw (by omega)
    have hsi := hs _ (gt_mem (ms := ms) (i := (i : Int)) (by omega))
    refine TD_hv (φ := isYW (gt ms (i : Int))) hwi ?_
    repeat (refine wXh ?_)
    (refine RD_alloc rfl rfl ?_; intro b4; refine ⟨okF, ?_⟩)
    repeat (refine wXh ?_)
    refine RD_freezeB .here ?_
    have hcan := fun (p : TW) (hsp : p.sml) M0 I0 h => icanonical_ok (X := X) (w0 := w0) (M0 := M0) (I0 := I0) (p := p) hsp h
    have hN := fun (hgd : (gt ms (i : Int)).a.good) M0 I0 h1 h2 => hasWR_ok (X := X) (w0 := w0) (M0 := M0) (I0 := I0) (g := 115) (fs := #[]) (cs := #[]) (q := some ⟨b4, 12, none⟩) (c := 3) (a := [(gt ms (i : Int)).a.x, (gt ms (i : Int)).a.y, (gt ms (i : Int)).a.z]) (fun (x : RW) => x.nz) (by simp) h1 (fun j hj => iCheck1_ok (hsi.2 _ (gt_mem (ms := [(gt ms (i : Int)).a.x, (gt ms (i : Int)).a.y, (gt ms (i : Int)).a.z]) ⟨by omega, by omega⟩)) (hgd _ (gt_mem (ms := [(gt ms (i : Int)).a.x, (gt ms (i : Int)).a.y, (gt ms (i : Int)).a.z]) ⟨by omega, by omega⟩)) (Hv.twel h2 (gt_mem (ms := [(gt ms (i : Int)).a.x, (gt ms (i : Int)).a.y, (gt ms (i : Int)).a.z]) ⟨by omega, by omega⟩)))
    have hO := hcan (gt ms (i : Int)).o hsi.1
    have hA := hcan (gt ms (i : Int)).a hsi.2
    clear hcan
    by_cases h1 : (gt ms (i : Int)).o.good
    · rw [B_true h1] at hO
      by_cases h2 : (gt ms (i : Int)).a.good
      · rw [B_true h2] at hA
        have hN1 := hN h2
        by_cases h3 : (gt ms (i : Int)).a.nz
        · rw [B_true (p := ∃ x ∈ [(gt ms (i : Int)).a.x, (gt ms (i : Int)).a.y, (gt ms (i : Int)).a.z], x.nz) h3] at hN1
          repeat (first | (refine wXh ?_) | (apply RD_ldZIB; exact vwF; exact rfl; exact memF; (first | exact AtsZ.y0 | exact AtsZ.y1 | exact AtsZ.w0 | exact AtsZ.w1); exact rfl; exact rfl))
          repeat (refine wXh ?_)
          (refine RD_callS rfl (hO _ _ (Hv.ywo (Hv.mem (φ := isYW (gt ms (i : Int))) memF))) rfl rfl ?_; rintro _ _ _ ⟨rfl, rfl, rfl⟩; refine ⟨okF, ?_⟩)
          repeat (first | (refine wXh ?_) | (apply RD_ldZIB; exact vwF; exact rfl; exact memF; (first | exact AtsZ.y0 | exact AtsZ.y1 | exact AtsZ.w0 | exact AtsZ.w1); exact rfl; exact rfl))
          repeat (refine wXh ?_)
          (refine RD_callS rfl (hA _ _ (Hv.ywa (Hv.mem (φ := isYW (gt ms (i : Int))) memF))) rfl rfl ?_; rintro _ _ _ ⟨rfl, rfl, rfl⟩; refine ⟨okF, ?_⟩)
          repeat (first | (refine wXh ?_) | (apply RD_ldZIB; exact vwF; exact rfl; exact memF; (first | exact AtsZ.y0 | exact AtsZ.y1 | exact AtsZ.w0 | exact AtsZ.w1); exact rfl; exact rfl))
          repeat (refine wXh ?_)
          (refine RD_c rfl (fun _ => Const_sliceA rfl) rfl rfl ?_)
          refine RD_hv (φ := slI (some ⟨b4, 12, none⟩) (recs eW [(gt ms (i : Int)).a.x, (gt ms (i : Int)).a.y, (gt ms (i : Int)).a.z])) (Hv.fld1 (o := (gt ms (i : Int)).o) memF) ?_
          (refine RD_callS rfl (hN1 _ _ memF (Hv.ywa (Hv.mem (φ := isYW (gt ms (i : Int))) memF))) rfl rfl ?_; rintro _ _ _ ⟨rfl, rfl, rfl⟩; refine ⟨okF, ?_⟩)
          repeat (first | (refine wXh ?_) | (apply RD_ldZIB; exact vwF; exact rfl; exact memF; (first | exact AtsZ.y0 | exact AtsZ.y1 | exact AtsZ.w0 | exact AtsZ.w1); exact rfl; exact rfl))
          repeat (refine wXh ?_)
          refine ND_again (n - (i + 1)) _ _ _ (by first | omega | (simp only [List.length_append, List.length_cons, List.length_nil]; omega)) subG subF incF (⟨i + 1, by omega, rfl, fun j hj => ?_, rfl, rfl, rfl⟩)
          by_cases e : j = i
          · subst e; exact ⟨h1, h2, h3⟩
          · exact hg j (by omega)
        · rw [B_false (p := ∃ x ∈ [(gt ms (i : Int)).a.x, (gt ms (i : Int)).a.y, (gt ms (i : Int)).a.z], x.nz) h3] at hN1
          repeat (first | (refine wXh ?_) | (apply RD_ldZIB; exact vwF; exact rfl; exact memF; (first | exact AtsZ.y0 | exact AtsZ.y1 | exact AtsZ.w0 | exact AtsZ.w1); exact rfl; exact rfl))
          repeat (refine wXh ?_)
          (refine RD_callS rfl (hO _ _ (Hv.ywo (Hv.mem (φ := isYW (gt ms (i : Int))) memF))) rfl rfl ?_; rintro _ _ _ ⟨rfl, rfl, rfl⟩; refine ⟨okF, ?_⟩)
          repeat (first | (refine wXh ?_) | (apply RD_ldZIB; exact vwF; exact rfl; exact memF; (first | exact AtsZ.y0 | exact AtsZ.y1 | exact AtsZ.w0 | exact AtsZ.w1); exact rfl; exact rfl))
          repeat (refine wXh ?_)
          (refine RD_callS rfl (hA _ _ (Hv.ywa (Hv.mem (φ := isYW (gt ms (i : Int))) memF))) rfl rfl ?_; rintro _ _ _ ⟨rfl, rfl, rfl⟩; refine ⟨okF, ?_⟩)
          repeat (first | (refine wXh ?_) | (apply RD_ldZIB; exact vwF; exact rfl; exact memF; (first | exact AtsZ.y0 | exact AtsZ.y1 | exact AtsZ.w0 | exact AtsZ.w1); exact rfl; exact rfl))
          repeat (refine wXh ?_)
          (refine RD_c rfl (fun _ => Const_sliceA rfl) rfl rfl ?_)
          refine RD_hv (φ := slI (some ⟨b4, 12, none⟩) (recs eW [(gt ms (i : Int)).a.x, (gt ms (i : Int)).a.y, (gt ms (i : Int)).a.z])) (Hv.fld1 (o := (gt ms (i : Int)).o) memF) ?_
          (refine RD_callS rfl (hN1 _ _ memF (Hv.ywa (Hv.mem (φ := isYW (gt ms (i : Int))) memF))) rfl rfl ?_; rintro _ _ _ ⟨rfl, rfl, rfl⟩; refine ⟨okF, ?_⟩)
          repeat (first | (refine wXh ?_) | (apply RD_ldZIB; exact vwF; exact rfl; exact memF; (first | exact AtsZ.y0 | exact AtsZ.y1 | exact AtsZ.w0 | exact AtsZ.w1); exact rfl; exact rfl))
          repeat (refine wXh ?_)
          refine ND_ret1 (by first | exact .inl rfl | exact .inr rfl) rfl rfl _ _ subF incF (⟨rfl, rfl, congrArg (Value.int .i64) (chkC_no (fun h => h3 (h _ (gt_mem (ms := ms) (i := (i : Int)) (by omega))).2.2)).symm⟩)
      · rw [B_false h2] at hA
        repeat (first | (refine wXh ?_) | (apply RD_ldZIB; exact vwF; exact rfl; exact memF; (first | exact AtsZ.y0 | exact AtsZ.y1 | exact AtsZ.w0 | exact AtsZ.w1); exact rfl; exact rfl))
        repeat (refine wXh ?_)
        (refine RD_callS rfl (hO _ _ (Hv.ywo (Hv.mem (φ := isYW (gt ms (i : Int))) memF))) rfl rfl ?_; rintro _ _ _ ⟨rfl, rfl, rfl⟩; refine ⟨okF, ?_⟩)
        repeat (first | (refine wXh ?_) | (apply RD_ldZIB; exact vwF; exact rfl; exact memF; (first | exact AtsZ.y0 | exact AtsZ.y1 | exact AtsZ.w0 | exact AtsZ.w1); exact rfl; exact rfl))
        repeat (refine wXh ?_)
        (refine RD_callS rfl (hA _ _ (Hv.ywa (Hv.mem (φ := isYW (gt ms (i : Int))) memF))) rfl rfl ?_; rintro _ _ _ ⟨rfl, rfl, rfl⟩; refine ⟨okF, ?_⟩)
        repeat (first | (refine wXh ?_) | (apply RD_ldZIB; exact vwF; exact rfl; exact memF; (first | exact AtsZ.y0 | exact AtsZ.y1 | exact AtsZ.w0 | exact AtsZ.w1); exact rfl; exact rfl))
        repeat (refine wXh ?_)
        refine ND_ret1 (by first | exact .inl rfl | exact .inr rfl) rfl rfl _ _ subF incF (⟨rfl, rfl, congrArg (Value.int .i64) (chkC_no (fun h => h2 (h _ (gt_mem (ms := ms) (i := (i : Int)) (by omega))).2.1)).symm⟩)
    · rw [B_false h1] at hO
      repeat (first | (refine wXh ?_) | (apply RD_ldZIB; exact vwF; exact rfl; exact memF; (first | exact AtsZ.y0 | exact AtsZ.y1 | exact AtsZ.w0 | exact AtsZ.w1); exact rfl; exact rfl))
      repeat (refine wXh ?_)
      (refine RD_callS rfl (hO _ _ (Hv.ywo (Hv.mem (φ := isYW (gt ms (i : Int))) memF))) rfl rfl ?_; rintro _ _ _ ⟨rfl, rfl, rfl⟩; refine ⟨okF, ?_⟩)
      repeat (first | (refine wXh ?_) | (apply RD_ldZIB; exact vwF; exact rfl; exact memF; (first | exact AtsZ.y0 | exact AtsZ.y1 | exact AtsZ.w0 | exact AtsZ.w1); exact rfl; exact rfl))
      repeat (refine wXh ?_)
      refine ND_ret1 (by first | exact .inl rfl | exact .inr rfl) rfl rfl _ _ subF incF (⟨rfl, rfl, congrArg (Value.int .i64) (chkC_no (fun h => h1 (h _ (gt_mem (ms := ms) (i := (i : Int)) (by omega))).1)).symm⟩)
  · obtain rfl : i = n := by omega
    repeat (refine wXh ?_)
    refine ND_ret1 (by first | exact .inl rfl | exact .inr rfl) rfl rfl _ _ subF incF (⟨rfl, rfl, congrArg (Value.int .i64) (chkC_ok (fun r hr => ?_)).symm⟩)
    obtain ⟨j, hj, rfl⟩ := List.mem_iff_getElem.1 hr
    have := hg j (by omega)
    rwa [gt_get hj] at this
end
end Go.Proofs.YtllaoaobnnondaaGreatR
