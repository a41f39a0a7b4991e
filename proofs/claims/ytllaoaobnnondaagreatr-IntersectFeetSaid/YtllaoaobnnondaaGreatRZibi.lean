/- intersect.Foot. -/
import Derived.Test.YtllaoaobnnondaaGreatRZibh
import Derived.Test.YtllaoaobnnondaaGreatRZibb
set_option linter.unusedSimpArgs false
set_option linter.unusedVariables false
namespace Go.Proofs.YtllaoaobnnondaaGreatR
open Go Go.Fx
def footS (o a p b : V3) : Rat := ((p.sub o).dot a * b.dot b - a.dot b * (p.sub o).dot b) / gramD a b
def footT (o a p b : V3) : Rat := ((p.sub o).dot a * a.dot b - a.dot a * (p.sub o).dot b) / gramD a b
section
variable {X : List Nat} {w0 : World} {M0 : List Ent} {I0 : List Imm}
set_option maxRecDepth 100000 in
set_option maxHeartbeats 1000000 in
theorem Foot_bad {r s : YW} (sr : r.sml) (ss : s.sml) (hb : ¬ (r.ok ∧ s.ok)) (hr : Hv I0 (isYW r)) (hs : Hv I0 (isYW s)) :
    CD Tryz.prog 15 [ywv r, ywv s] X w0 M0 I0 (fun v M I => M0 = M ∧ I0 = I ∧ v = .tuple #[.agg zRv.toArray, .agg zRv.toArray, .int .i64 1]) := by
  have hC := fun q M0 I0 h1 h2 => iCheck_ok (X := X) (w0 := w0) (M0 := M0) (I0 := I0) (q := q) (c := 2) (n := 2) (ms := [r, s]) rfl (by decide) (fun x hx => by simp only [List.mem_cons, List.not_mem_nil, or_false] at hx; rcases hx with rfl | rfl <;> assumption) h1 h2
  rw [chkC_no (fun h => hb ⟨h r (by simp), h s (by simp)⟩)] at hC
  refine CD_hvV (φ := allYW [r, s]) (Hv.yw2 hr hs) ?_
  refine enterD2 Tryz.func15 rfl Tryz.ntmps15 rfl ?_
  refine TD_seq ?_
  refine TD_region ?_
  (refine RD_boxA rfl rfl rfl ?_; intro b2; refine ⟨okF, ?_⟩)
  refine RD_freezeB .here ?_
  (refine RD_boxA rfl rfl rfl ?_; intro b3; refine ⟨okF, ?_⟩)
  refine RD_freezeB .here ?_
  (refine RD_alloc rfl rfl ?_; intro b4; refine ⟨okF, ?_⟩)
  (refine RD_alloc rfl rfl ?_; intro b5; refine ⟨okF, ?_⟩)
  repeat (first | (refine wXh ?_) | (apply RD_ldZIB; exact vwF; exact rfl; exact memF; (first | exact AtsZ.y0 | exact AtsZ.y1 | exact AtsZ.w0 | exact AtsZ.w1); exact rfl; exact rfl))
  repeat (refine wXh ?_)
  (refine RD_vals (cs := recs eYW [r, s]) ([ywv r, ywv s]) rfl rfl (by intro v hv; repeat (first | exact absurd hv (List.not_mem_nil) | (rcases List.mem_cons.1 hv with rfl | hv; · rfl))) (by omega) rfl rfl rfl ?_; intro c1; refine ⟨okF, ?_⟩)
  refine RD_freezeB .here ?_
  (refine RD_callS rfl (hC _ _ _ memF memF) rfl rfl ?_; rintro _ _ _ ⟨rfl, rfl, rfl⟩; refine ⟨okF, ?_⟩)
  repeat (first | (refine wXh ?_) | (apply RD_ldZIB; exact vwF; exact rfl; exact memF; (first | exact AtsZ.y0 | exact AtsZ.y1 | exact AtsZ.w0 | exact AtsZ.w1); exact rfl; exact rfl))
  repeat (refine wXh ?_)
  (refine RD_c rfl (fun _ => Const_struct (pvs := ([]).zipIdx.map (fun p => (p.2, p.1))) (cells := zRv) rfl rfl) rfl rfl ?_)
  repeat (first | (refine wXh ?_) | (apply RD_ldZIB; exact vwF; exact rfl; exact memF; (first | exact AtsZ.y0 | exact AtsZ.y1 | exact AtsZ.w0 | exact AtsZ.w1); exact rfl; exact rfl))
  repeat (refine wXh ?_)
  (refine RD_c rfl (fun _ => Const_struct (pvs := ([]).zipIdx.map (fun p => (p.2, p.1))) (cells := zRv) rfl rfl) rfl rfl ?_)
  repeat (first | (refine wXh ?_) | (apply RD_ldZIB; exact vwF; exact rfl; exact memF; (first | exact AtsZ.y0 | exact AtsZ.y1 | exact AtsZ.w0 | exact AtsZ.w1); exact rfl; exact rfl))
  repeat (refine wXh ?_)
  refine ND_retsC (rs := [.cell 4 26, .cell 5 26, .tmp 6]) (vs := [.agg zRv.toArray, .agg zRv.toArray, .int .i64 1]) (.inl rfl) rfl (.cellN (cs := zRv) inferInstance rfl memF rfl (.cellN (cs := zRv) inferInstance rfl memF rfl (.tmp rfl .nil))) rfl M0 (allYW [r, s] :: I0) subF incF ⟨rfl, rfl, rfl⟩
set_option maxRecDepth 100000 in
set_option maxHeartbeats 1000000 in
theorem Foot_deg {r s : YE} {k : Nat} (hk : k ≤ 100000) (hr0 : r.a.v.dot r.a.v ≠ 0) (hs0 : s.a.v.dot s.a.v ≠ 0) (hd : gramD r.a.v s.a.v = 0) (hr : Hv I0 (isY r k)) (hs : Hv I0 (isY s k)) :
    CD Tryz.prog 15 [yv r, yv s] X w0 M0 I0 (fun v M I => M0 = M ∧ I0 = I ∧ v = .tuple #[.agg zRv.toArray, .agg zRv.toArray, .int .i64 13]) := by
  have hC := fun q M0 I0 h1 h2 h3 => Check2X_ok (X := X) (w0 := w0) (M0 := M0) (I0 := I0) (q := q) (c := 2) (k := k) (r := r) (s := s) (by omega) hr0 hs0 h1 h2 h3
  obtain ⟨D, hD⟩ : ∃ D, D = hd3 k k := ⟨_, rfl⟩
  have hD2 : D = 3 * (k + k + 1) := hD
  have hG := fun M0 I0 h1 h2 => iGram_ok (X := X) (w0 := w0) (M0 := M0) (I0 := I0) (r := r) (s := s) (k := k) (D := D) hD (by omega) h1 h2
  refine CD_hv (φ := isY r k) hr (CD_hv (φ := isY s k) hs.cons ?_)
  refine enterD2 Tryz.func15 rfl Tryz.ntmps15 rfl ?_
  refine TD_seq ?_
  refine TD_region ?_
  (refine RD_boxA rfl rfl rfl ?_; intro b2; refine ⟨okF, ?_⟩)
  refine RD_freezeB .here ?_
  (refine RD_boxA rfl rfl rfl ?_; intro b3; refine ⟨okF, ?_⟩)
  refine RD_freezeB .here ?_
  (refine RD_alloc rfl rfl ?_; intro b4; refine ⟨okF, ?_⟩)
  (refine RD_alloc rfl rfl ?_; intro b5; refine ⟨okF, ?_⟩)
  repeat (first | (refine wXh ?_) | (apply RD_ldZIB; exact vwF; exact rfl; exact memF; (first | exact AtsZ.y0 | exact AtsZ.y1 | exact AtsZ.w0 | exact AtsZ.w1); exact rfl; exact rfl))
  repeat (refine wXh ?_)
  (refine RD_vals (cs := recs eY [r, s]) ([yv r, yv s]) rfl rfl (by intro v hv; repeat (first | exact absurd hv (List.not_mem_nil) | (rcases List.mem_cons.1 hv with rfl | hv; · rfl))) (by omega) rfl rfl rfl ?_; intro c1; refine ⟨okF, ?_⟩)
  refine RD_freezeB .here ?_
  (refine RD_callS rfl (hC _ _ _ (Hv.mem memF) (Hv.mem memF) memF) rfl rfl ?_; rintro _ _ _ ⟨rfl, rfl, rfl⟩; refine ⟨okF, ?_⟩)
  repeat (first | (refine wXh ?_) | (apply RD_ldZIB; exact vwF; exact rfl; exact memF; (first | exact AtsZ.y0 | exact AtsZ.y1 | exact AtsZ.w0 | exact AtsZ.w1); exact rfl; exact rfl))
  repeat (refine wXh ?_)
  (refine RD_callS rfl (hG _ _ (Hv.mem memF) (Hv.mem memF)) rfl rfl ?_; rintro _ _ _ ⟨rfl, e1, e2, e3, e4, rfl, he1, he2, he3, he4, rfl⟩; refine ⟨okF, ?_⟩)
  repeat (first | (refine wXh ?_) | (apply RD_ldZIB; exact vwF; exact rfl; exact memF; (first | exact AtsZ.y0 | exact AtsZ.y1 | exact AtsZ.w0 | exact AtsZ.w1); exact rfl; exact rfl))
  repeat (refine wXh ?_)
  (refine RD_alloc rfl rfl ?_; intro b8; refine ⟨okF, ?_⟩)
  (refine RD_alloc rfl rfl ?_; intro b9; refine ⟨okF, ?_⟩)
  (refine RD_alloc rfl rfl ?_; intro b10; refine ⟨okF, ?_⟩)
  (refine RD_alloc rfl rfl ?_; intro b11; refine ⟨okF, ?_⟩)
  repeat (first | (refine wXh ?_) | (apply RD_ldZIB; exact vwF; exact rfl; exact memF; (first | exact AtsZ.y0 | exact AtsZ.y1 | exact AtsZ.w0 | exact AtsZ.w1); exact rfl; exact rfl))
  repeat (refine wXh ?_)
  have hS := fun M0 I0 h => QSign_ok (X := X) (w0 := w0) (M0 := M0) (I0 := I0) (e := e4) (k := D + D + (D + D) + 1) (by omega) h
  rw [(sign0 _).2 (by rw [he4]; exact hd)] at hS
  (refine RD_callS rfl (hS _ _ (Hv.mem memF)) rfl rfl ?_; rintro _ _ _ ⟨rfl, rfl, rfl⟩; refine ⟨okF, ?_⟩)
  repeat (first | (refine wXh ?_) | (apply RD_ldZIB; exact vwF; exact rfl; exact memF; (first | exact AtsZ.y0 | exact AtsZ.y1 | exact AtsZ.w0 | exact AtsZ.w1); exact rfl; exact rfl))
  repeat (refine wXh ?_)
  (refine RD_c rfl (fun _ => Const_struct (pvs := ([]).zipIdx.map (fun p => (p.2, p.1))) (cells := zRv) rfl rfl) rfl rfl ?_)
  repeat (first | (refine wXh ?_) | (apply RD_ldZIB; exact vwF; exact rfl; exact memF; (first | exact AtsZ.y0 | exact AtsZ.y1 | exact AtsZ.w0 | exact AtsZ.w1); exact rfl; exact rfl))
  repeat (refine wXh ?_)
  (refine RD_c rfl (fun _ => Const_struct (pvs := ([]).zipIdx.map (fun p => (p.2, p.1))) (cells := zRv) rfl rfl) rfl rfl ?_)
  repeat (first | (refine wXh ?_) | (apply RD_ldZIB; exact vwF; exact rfl; exact memF; (first | exact AtsZ.y0 | exact AtsZ.y1 | exact AtsZ.w0 | exact AtsZ.w1); exact rfl; exact rfl))
  repeat (refine wXh ?_)
  refine ND_retsC (rs := [.cell 4 26, .cell 5 26, .tmp 6]) (vs := [.agg zRv.toArray, .agg zRv.toArray, .int .i64 13]) (.inl rfl) rfl (.cellN (cs := zRv) inferInstance rfl memF rfl (.cellN (cs := zRv) inferInstance rfl memF rfl (.tmp rfl .nil))) rfl M0 I0 subF incF ⟨rfl, rfl, rfl⟩
def FQ (q q' : Rat) (k : Nat) (M0 : List Ent) (I0 : List Imm) (v : Value) (M : List Ent) (I : List Imm) : Prop := M0 = M ∧ ∃ e f : RE, v = .tuple #[rv e, rv f, .int .i64 0] ∧ e.q = q ∧ f.q = q' ∧ I = isR f k :: isR e k :: I0
set_option maxRecDepth 100000 in
set_option maxHeartbeats 4000000 in
theorem Foot_ok {r s : YE} {k : Nat} (hk : k ≤ 100000) (hr0 : r.a.v.dot r.a.v ≠ 0) (hs0 : s.a.v.dot s.a.v ≠ 0) (hd : gramD r.a.v s.a.v ≠ 0) (hr : Hv I0 (isY r k)) (hs : Hv I0 (isY s k)) :
    CD Tryz.prog 15 [yv r, yv s] X w0 M0 I0 (FQ (footS r.o.v r.a.v s.o.v s.a.v) (footT r.o.v r.a.v s.o.v s.a.v) (100 * (k + 1)) M0 I0) := by
  have hC := fun q M0 I0 h1 h2 h3 => Check2X_ok (X := X) (w0 := w0) (M0 := M0) (I0 := I0) (q := q) (c := 2) (k := k) (r := r) (s := s) (by omega) hr0 hs0 h1 h2 h3
  obtain ⟨D, hD⟩ : ∃ D, D = hd3 k k := ⟨_, rfl⟩
  have hD2 : D = 3 * (k + k + 1) := hD
  have hG := fun M0 I0 h1 h2 => iGram_ok (X := X) (w0 := w0) (M0 := M0) (I0 := I0) (r := r) (s := s) (k := k) (D := D) hD (by omega) h1 h2
  have hMi := fun M0 I0 h1 h2 => iMinus_ok (X := X) (w0 := w0) (M0 := M0) (I0 := I0) (a := s.o) (b := r.o) (k := k) (m := k) (by omega) h1 h2
  have hDo := fun (d x : TE) M0 I0 h1 h2 => iDot_ok (X := X) (w0 := w0) (M0 := M0) (I0 := I0) (a := d) (b := x) (k := k + k + 1) (m := k) (by omega) h1 h2
  obtain ⟨E, hE⟩ : ∃ E, E = 3 * (k + k + 1 + k + 1) := ⟨_, rfl⟩
  rw [← hE] at hDo
  have hDt := fun (a b c d : RE) M0 I0 h1 h2 h3 h4 => iDet_ok (X := X) (w0 := w0) (M0 := M0) (I0 := I0) (a := a) (b := b) (c := c) (d := d) (k := E) (by omega) h1 h2 h3 h4
  have hO := fun (x y : RE) M0 I0 h0 h1 h2 => iOver_ok (X := X) (w0 := w0) (M0 := M0) (I0 := I0) (a := x) (b := y) (k := E + E + (E + E) + 1) (m := D + D + (D + D) + 1) (by omega) h0 h1 h2
  refine CD_hv (φ := isY r k) hr (CD_hv (φ := isY s k) hs.cons ?_)
  refine enterD2 Tryz.func15 rfl Tryz.ntmps15 rfl ?_
  refine TD_seq ?_
  refine TD_region ?_
  (refine RD_boxA rfl rfl rfl ?_; intro b2; refine ⟨okF, ?_⟩)
  refine RD_freezeB .here ?_
  (refine RD_boxA rfl rfl rfl ?_; intro b3; refine ⟨okF, ?_⟩)
  refine RD_freezeB .here ?_
  (refine RD_alloc rfl rfl ?_; intro b4; refine ⟨okF, ?_⟩)
  (refine RD_alloc rfl rfl ?_; intro b5; refine ⟨okF, ?_⟩)
  repeat (first | (refine wXh ?_) | (apply RD_ldZIB; exact vwF; exact rfl; exact memF; (first | exact AtsZ.y0 | exact AtsZ.y1 | exact AtsZ.w0 | exact AtsZ.w1); exact rfl; exact rfl))
  repeat (refine wXh ?_)
  (refine RD_vals (cs := recs eY [r, s]) ([yv r, yv s]) rfl rfl (by intro v hv; repeat (first | exact absurd hv (List.not_mem_nil) | (rcases List.mem_cons.1 hv with rfl | hv; · rfl))) (by omega) rfl rfl rfl ?_; intro c1; refine ⟨okF, ?_⟩)
  refine RD_freezeB .here ?_
  (refine RD_callS rfl (hC _ _ _ (Hv.mem memF) (Hv.mem memF) memF) rfl rfl ?_; rintro _ _ _ ⟨rfl, rfl, rfl⟩; refine ⟨okF, ?_⟩)
  repeat (first | (refine wXh ?_) | (apply RD_ldZIB; exact vwF; exact rfl; exact memF; (first | exact AtsZ.y0 | exact AtsZ.y1 | exact AtsZ.w0 | exact AtsZ.w1); exact rfl; exact rfl))
  repeat (refine wXh ?_)
  (refine RD_callS rfl (hG _ _ (Hv.mem memF) (Hv.mem memF)) rfl rfl ?_; rintro _ _ _ ⟨rfl, e1, e2, e3, e4, rfl, he1, he2, he3, he4, rfl⟩; refine ⟨okF, ?_⟩)
  repeat (first | (refine wXh ?_) | (apply RD_ldZIB; exact vwF; exact rfl; exact memF; (first | exact AtsZ.y0 | exact AtsZ.y1 | exact AtsZ.w0 | exact AtsZ.w1); exact rfl; exact rfl))
  repeat (refine wXh ?_)
  (refine RD_alloc rfl rfl ?_; intro b8; refine ⟨okF, ?_⟩)
  (refine RD_alloc rfl rfl ?_; intro b9; refine ⟨okF, ?_⟩)
  (refine RD_alloc rfl rfl ?_; intro b10; refine ⟨okF, ?_⟩)
  (refine RD_alloc rfl rfl ?_; intro b11; refine ⟨okF, ?_⟩)
  repeat (first | (refine wXh ?_) | (apply RD_ldZIB; exact vwF; exact rfl; exact memF; (first | exact AtsZ.y0 | exact AtsZ.y1 | exact AtsZ.w0 | exact AtsZ.w1); exact rfl; exact rfl))
  repeat (refine wXh ?_)
  have hS := fun M0 I0 h => QSign_ok (X := X) (w0 := w0) (M0 := M0) (I0 := I0) (e := e4) (k := D + D + (D + D) + 1) (by omega) h
  have hs1 : ¬ e4.q.num.sign = 0 := fun h => hd (by rw [← he4]; exact (sign0 _).1 h)
  generalize e4.q.num.sign = sg at *
  (refine RD_callS rfl (hS _ _ (Hv.mem memF)) rfl rfl ?_; rintro _ _ _ ⟨rfl, rfl, rfl⟩; refine ⟨okF, ?_⟩)
  repeat (first | (refine wXh ?_) | (apply RD_ldZIB; exact vwF; exact rfl; exact memF; (first | exact AtsZ.y0 | exact AtsZ.y1 | exact AtsZ.w0 | exact AtsZ.w1); exact rfl; exact rfl))
  repeat (refine wXh ?_)
  clear hC hG hS
  (refine RD_callS rfl (hMi _ _ (Hv.yo (Hv.mem (φ := isY s k) memF)) (Hv.yo (Hv.mem (φ := isY r k) memF))) rfl rfl ?_; rintro _ _ _ ⟨rfl, d, rfl, hdq, rfl⟩; refine ⟨okF, ?_⟩)
  repeat (first | (refine wXh ?_) | (apply RD_ldZIB; exact vwF; exact rfl; exact memF; (first | exact AtsZ.y0 | exact AtsZ.y1 | exact AtsZ.w0 | exact AtsZ.w1); exact rfl; exact rfl))
  repeat (refine wXh ?_)
  (refine RD_alloc rfl rfl ?_; intro b12; refine ⟨okF, ?_⟩)
  repeat (first | (refine wXh ?_) | (apply RD_ldZIB; exact vwF; exact rfl; exact memF; (first | exact AtsZ.y0 | exact AtsZ.y1 | exact AtsZ.w0 | exact AtsZ.w1); exact rfl; exact rfl))
  repeat (refine wXh ?_)
  refine TD_cutT (fun G M I => ∃ (b13 b14 : Nat) (e5 e6 : RE), e5.q = (s.o.v.sub r.o.v).dot r.a.v ∧ e6.q = (s.o.v.sub r.o.v).dot s.a.v ∧ G = [(4, .pointer (some ⟨b4, 0, none⟩)), (5, .pointer (some ⟨b5, 0, none⟩)), (8, .pointer (some ⟨b8, 0, none⟩)), (9, .pointer (some ⟨b9, 0, none⟩)), (10, .pointer (some ⟨b10, 0, none⟩)), (11, .pointer (some ⟨b11, 0, none⟩)), (13, .pointer (some ⟨b13, 0, none⟩)), (14, .pointer (some ⟨b14, 0, none⟩))] ∧ M = .blk b14 (eR e6) 26 :: .blk b13 (eR e5) 26 :: .blk b11 (eR e4) 26 :: .blk b10 (eR e3) 26 :: .blk b9 (eR e2) 26 :: .blk b8 (eR e1) 26 :: .blk b5 zRv 26 :: .blk b4 zRv 26 :: M0 ∧ I = isR e6 E :: isR e5 E :: isR e4 (D + D + (D + D) + 1) :: isR e3 D :: isR e2 D :: isR e1 D :: I0) ?_ ?_
  · ((repeat refine TD_seq ?_); refine TD_rest (.blk b12 (recs eR [d.x, d.y, d.z]) 27 :: M0) (isT d (k + k + 1) :: isR e4 (D + D + (D + D) + 1) :: isR e3 D :: isR e2 D :: isR e1 D :: slI (some ⟨b3, 0, none⟩) (recs eT [s.o, s.a]) :: slI (some ⟨b2, 0, none⟩) (recs eT [r.o, r.a]) :: isY s k :: isY r k :: I0) mixed ?_)
    refine ND_restPre (fuel := 6) (listed' := #[true, true, true, false, true, true, true, false, false, false, false, false]) [0, 1, 2, 4, 5, 6] [3, 4, 3, 4, 5, 4] subF incF (by kernel_rfl) (by kernel_rfl) rfl rfl ?_
    repeat (refine wXh ?_)
    (apply RD_ldZIB; exact vwF; exact rfl; exact memF; (first | exact AtsZ.y0 | exact AtsZ.y1 | exact AtsZ.w0 | exact AtsZ.w1); exact rfl; exact rfl)
    repeat (refine wXh ?_)
    (apply RD_ldZIB; exact vwF; exact rfl; exact memF; (first | exact AtsZ.y0 | exact AtsZ.y1 | exact AtsZ.w0 | exact AtsZ.w1); exact rfl; exact rfl)
    repeat (refine wXh ?_)
    refine ND_restFork3 (fuel := 5) (i := 3) (j := 8) (m := 9) (by kernel_rfl) ?_ ?_ ?_
    · (refine RD_callS rfl (hDo d r.a _ _ (Hv.mem memF) (Hv.ya (Hv.mem (φ := isY r k) memF))) rfl rfl ?_; rintro _ _ _ ⟨rfl, e5, rfl, he5, rfl⟩; refine ⟨okF, ?_⟩)
      refine RD_nil ?_
      repeat (refine wXh ?_)
      refine ND_restFork3 (fuel := 4) (i := 7) (j := 8) (m := 9) (by kernel_rfl) ?_ ?_ ?_
      · (refine RD_callS rfl (hDo d s.a _ _ (Hv.mem memF) (Hv.ya (Hv.mem (φ := isY s k) memF))) rfl rfl ?_; rintro _ _ _ ⟨rfl, e6, rfl, he6, rfl⟩; refine ⟨okF, ?_⟩)
        refine RD_nil ?_
        repeat (refine wXh ?_)
        refine ND_restFork (fuel := 3) (i := 8) (j := 9) (by kernel_rfl) ?_ ?_
        · (refine RD_alloc rfl rfl ?_; intro b13; refine ⟨okF, ?_⟩)
          refine RD_nil ?_
          refine ND_restEnd [9, 10, 11] [0, 0, 0] subF incF (by kernel_rfl) (by kernel_rfl) rfl rfl ?_
          repeat (refine wXh ?_)
          (refine RD_alloc rfl rfl ?_; intro b14; refine ⟨okF, ?_⟩)
          repeat (refine wXh ?_)
          refine ND_cut _ _ _ subG subF incF ⟨b13, b14, e5, e6, by rw [he5, hdq], by rw [he6, hdq], rfl, rfl, rfl⟩
        · (refine RD_alloc rfl rfl ?_; intro b14; refine ⟨okF, ?_⟩)
          refine RD_nil ?_
          refine ND_restEnd [8, 10, 11] [0, 0, 0] subF incF (by kernel_rfl) (by kernel_rfl) rfl rfl ?_
          repeat (refine wXh ?_)
          (refine RD_alloc rfl rfl ?_; intro b13; refine ⟨okF, ?_⟩)
          repeat (refine wXh ?_)
          refine ND_cut _ _ _ subG subF incF ⟨b13, b14, e5, e6, by rw [he5, hdq], by rw [he6, hdq], rfl, rfl, rfl⟩
      · (refine RD_alloc rfl rfl ?_; intro b13; refine ⟨okF, ?_⟩)
        refine RD_nil ?_
        repeat (refine wXh ?_)
        refine ND_restFork (fuel := 3) (i := 7) (j := 9) (by kernel_rfl) ?_ ?_
        · (refine RD_callS rfl (hDo d s.a _ _ (Hv.mem memF) (Hv.ya (Hv.mem (φ := isY s k) memF))) rfl rfl ?_; rintro _ _ _ ⟨rfl, e6, rfl, he6, rfl⟩; refine ⟨okF, ?_⟩)
          refine RD_nil ?_
          refine ND_restEnd [9, 10, 11] [0, 0, 0] subF incF (by kernel_rfl) (by kernel_rfl) rfl rfl ?_
          repeat (refine wXh ?_)
          (refine RD_alloc rfl rfl ?_; intro b14; refine ⟨okF, ?_⟩)
          repeat (refine wXh ?_)
          refine ND_cut _ _ _ subG subF incF ⟨b13, b14, e5, e6, by rw [he5, hdq], by rw [he6, hdq], rfl, rfl, rfl⟩
        · (refine RD_alloc rfl rfl ?_; intro b14; refine ⟨okF, ?_⟩)
          refine RD_nil ?_
          refine ND_restEnd [7, 10, 11] [0, 0, 0] subF incF (by kernel_rfl) (by kernel_rfl) rfl rfl ?_
          repeat (refine wXh ?_)
          (refine RD_callS rfl (hDo d s.a _ _ (Hv.mem memF) (Hv.ya (Hv.mem (φ := isY s k) memF))) rfl rfl ?_; rintro _ _ _ ⟨rfl, e6, rfl, he6, rfl⟩; refine ⟨okF, ?_⟩)
          repeat (refine wXh ?_)
          refine ND_cut _ _ _ subG subF incF ⟨b13, b14, e5, e6, by rw [he5, hdq], by rw [he6, hdq], rfl, rfl, rfl⟩
      · (refine RD_alloc rfl rfl ?_; intro b14; refine ⟨okF, ?_⟩)
        refine RD_nil ?_
        repeat (refine wXh ?_)
        refine ND_restFork (fuel := 3) (i := 7) (j := 8) (by kernel_rfl) ?_ ?_
        · (refine RD_callS rfl (hDo d s.a _ _ (Hv.mem memF) (Hv.ya (Hv.mem (φ := isY s k) memF))) rfl rfl ?_; rintro _ _ _ ⟨rfl, e6, rfl, he6, rfl⟩; refine ⟨okF, ?_⟩)
          refine RD_nil ?_
          refine ND_restEnd [8, 10, 11] [0, 0, 0] subF incF (by kernel_rfl) (by kernel_rfl) rfl rfl ?_
          repeat (refine wXh ?_)
          (refine RD_alloc rfl rfl ?_; intro b13; refine ⟨okF, ?_⟩)
          repeat (refine wXh ?_)
          refine ND_cut _ _ _ subG subF incF ⟨b13, b14, e5, e6, by rw [he5, hdq], by rw [he6, hdq], rfl, rfl, rfl⟩
        · (refine RD_alloc rfl rfl ?_; intro b13; refine ⟨okF, ?_⟩)
          refine RD_nil ?_
          refine ND_restEnd [7, 10, 11] [0, 0, 0] subF incF (by kernel_rfl) (by kernel_rfl) rfl rfl ?_
          repeat (refine wXh ?_)
          (refine RD_callS rfl (hDo d s.a _ _ (Hv.mem memF) (Hv.ya (Hv.mem (φ := isY s k) memF))) rfl rfl ?_; rintro _ _ _ ⟨rfl, e6, rfl, he6, rfl⟩; refine ⟨okF, ?_⟩)
          repeat (refine wXh ?_)
          refine ND_cut _ _ _ subG subF incF ⟨b13, b14, e5, e6, by rw [he5, hdq], by rw [he6, hdq], rfl, rfl, rfl⟩
    · (refine RD_alloc rfl rfl ?_; intro b13; refine ⟨okF, ?_⟩)
      refine RD_nil ?_
      repeat (refine wXh ?_)
      refine ND_restFork (fuel := 4) (i := 3) (j := 9) (by kernel_rfl) ?_ ?_
      · (refine RD_callS rfl (hDo d r.a _ _ (Hv.mem memF) (Hv.ya (Hv.mem (φ := isY r k) memF))) rfl rfl ?_; rintro _ _ _ ⟨rfl, e5, rfl, he5, rfl⟩; refine ⟨okF, ?_⟩)
        refine RD_nil ?_
        repeat (refine wXh ?_)
        refine ND_restFork (fuel := 3) (i := 7) (j := 9) (by kernel_rfl) ?_ ?_
        · (refine RD_callS rfl (hDo d s.a _ _ (Hv.mem memF) (Hv.ya (Hv.mem (φ := isY s k) memF))) rfl rfl ?_; rintro _ _ _ ⟨rfl, e6, rfl, he6, rfl⟩; refine ⟨okF, ?_⟩)
          refine RD_nil ?_
          refine ND_restEnd [9, 10, 11] [0, 0, 0] subF incF (by kernel_rfl) (by kernel_rfl) rfl rfl ?_
          repeat (refine wXh ?_)
          (refine RD_alloc rfl rfl ?_; intro b14; refine ⟨okF, ?_⟩)
          repeat (refine wXh ?_)
          refine ND_cut _ _ _ subG subF incF ⟨b13, b14, e5, e6, by rw [he5, hdq], by rw [he6, hdq], rfl, rfl, rfl⟩
        · (refine RD_alloc rfl rfl ?_; intro b14; refine ⟨okF, ?_⟩)
          refine RD_nil ?_
          refine ND_restEnd [7, 10, 11] [0, 0, 0] subF incF (by kernel_rfl) (by kernel_rfl) rfl rfl ?_
          repeat (refine wXh ?_)
          (refine RD_callS rfl (hDo d s.a _ _ (Hv.mem memF) (Hv.ya (Hv.mem (φ := isY s k) memF))) rfl rfl ?_; rintro _ _ _ ⟨rfl, e6, rfl, he6, rfl⟩; refine ⟨okF, ?_⟩)
          repeat (refine wXh ?_)
          refine ND_cut _ _ _ subG subF incF ⟨b13, b14, e5, e6, by rw [he5, hdq], by rw [he6, hdq], rfl, rfl, rfl⟩
      · (refine RD_alloc rfl rfl ?_; intro b14; refine ⟨okF, ?_⟩)
        refine RD_nil ?_
        refine ND_restEnd [3, 7, 10, 11] [0, 0, 0, 0] subF incF (by kernel_rfl) (by kernel_rfl) rfl rfl ?_
        repeat (refine wXh ?_)
        (refine RD_callS rfl (hDo d r.a _ _ (Hv.mem memF) (Hv.ya (Hv.mem (φ := isY r k) memF))) rfl rfl ?_; rintro _ _ _ ⟨rfl, e5, rfl, he5, rfl⟩; refine ⟨okF, ?_⟩)
        repeat (refine wXh ?_)
        (refine RD_callS rfl (hDo d s.a _ _ (Hv.mem memF) (Hv.ya (Hv.mem (φ := isY s k) memF))) rfl rfl ?_; rintro _ _ _ ⟨rfl, e6, rfl, he6, rfl⟩; refine ⟨okF, ?_⟩)
        repeat (refine wXh ?_)
        refine ND_cut _ _ _ subG subF incF ⟨b13, b14, e5, e6, by rw [he5, hdq], by rw [he6, hdq], rfl, rfl, rfl⟩
    · (refine RD_alloc rfl rfl ?_; intro b14; refine ⟨okF, ?_⟩)
      refine RD_nil ?_
      repeat (refine wXh ?_)
      refine ND_restFork (fuel := 4) (i := 3) (j := 8) (by kernel_rfl) ?_ ?_
      · (refine RD_callS rfl (hDo d r.a _ _ (Hv.mem memF) (Hv.ya (Hv.mem (φ := isY r k) memF))) rfl rfl ?_; rintro _ _ _ ⟨rfl, e5, rfl, he5, rfl⟩; refine ⟨okF, ?_⟩)
        refine RD_nil ?_
        repeat (refine wXh ?_)
        refine ND_restFork (fuel := 3) (i := 7) (j := 8) (by kernel_rfl) ?_ ?_
        · (refine RD_callS rfl (hDo d s.a _ _ (Hv.mem memF) (Hv.ya (Hv.mem (φ := isY s k) memF))) rfl rfl ?_; rintro _ _ _ ⟨rfl, e6, rfl, he6, rfl⟩; refine ⟨okF, ?_⟩)
          refine RD_nil ?_
          refine ND_restEnd [8, 10, 11] [0, 0, 0] subF incF (by kernel_rfl) (by kernel_rfl) rfl rfl ?_
          repeat (refine wXh ?_)
          (refine RD_alloc rfl rfl ?_; intro b13; refine ⟨okF, ?_⟩)
          repeat (refine wXh ?_)
          refine ND_cut _ _ _ subG subF incF ⟨b13, b14, e5, e6, by rw [he5, hdq], by rw [he6, hdq], rfl, rfl, rfl⟩
        · (refine RD_alloc rfl rfl ?_; intro b13; refine ⟨okF, ?_⟩)
          refine RD_nil ?_
          refine ND_restEnd [7, 10, 11] [0, 0, 0] subF incF (by kernel_rfl) (by kernel_rfl) rfl rfl ?_
          repeat (refine wXh ?_)
          (refine RD_callS rfl (hDo d s.a _ _ (Hv.mem memF) (Hv.ya (Hv.mem (φ := isY s k) memF))) rfl rfl ?_; rintro _ _ _ ⟨rfl, e6, rfl, he6, rfl⟩; refine ⟨okF, ?_⟩)
          repeat (refine wXh ?_)
          refine ND_cut _ _ _ subG subF incF ⟨b13, b14, e5, e6, by rw [he5, hdq], by rw [he6, hdq], rfl, rfl, rfl⟩
      · (refine RD_alloc rfl rfl ?_; intro b13; refine ⟨okF, ?_⟩)
        refine RD_nil ?_
        refine ND_restEnd [3, 7, 10, 11] [0, 0, 0, 0] subF incF (by kernel_rfl) (by kernel_rfl) rfl rfl ?_
        repeat (refine wXh ?_)
        (refine RD_callS rfl (hDo d r.a _ _ (Hv.mem memF) (Hv.ya (Hv.mem (φ := isY r k) memF))) rfl rfl ?_; rintro _ _ _ ⟨rfl, e5, rfl, he5, rfl⟩; refine ⟨okF, ?_⟩)
        repeat (refine wXh ?_)
        (refine RD_callS rfl (hDo d s.a _ _ (Hv.mem memF) (Hv.ya (Hv.mem (φ := isY s k) memF))) rfl rfl ?_; rintro _ _ _ ⟨rfl, e6, rfl, he6, rfl⟩; refine ⟨okF, ?_⟩)
        repeat (refine wXh ?_)
        refine ND_cut _ _ _ subG subF incF ⟨b13, b14, e5, e6, by rw [he5, hdq], by rw [he6, hdq], rfl, rfl, rfl⟩
  · rintro G M I ⟨b13, b14, e5, e6, he5, he6, rfl, rfl, rfl⟩
    (repeat refine TD_seq ?_); refine TD_drawnW (.blk b14 (eR e6) 26 :: .blk b13 (eR e5) 26 :: .blk b11 (eR e4) 26 :: .blk b10 (eR e3) 26 :: .blk b9 (eR e2) 26 :: .blk b8 (eR e1) 26 :: M0) (isR e6 E :: isR e5 E :: isR e4 (D + D + (D + D) + 1) :: isR e3 D :: isR e2 D :: isR e1 D :: I0) [0, 1, 2, 3, 5, 7, 8, 9, 10, 12, 4, 6, 11, 13, 14, 15, 16] [3, 3, 3, 3, 3, 4, 4, 4, 4, 4, 0, 0, 0, 0, 0, 0, 0] subF incF mixed (by kernel_rfl) ?_
    repeat (refine wXh ?_)
    (refine RD_callS rfl (hDt e5 e2 e6 e3 _ _ (Hv.mem memF) (Hv.upR (Hv.mem (φ := isR e2 D) memF) (by omega)) (Hv.mem memF) (Hv.upR (Hv.mem (φ := isR e3 D) memF) (by omega))) rfl rfl ?_; rintro _ _ _ ⟨rfl, f1, rfl, hf1, rfl⟩; refine ⟨okF, ?_⟩)
    repeat (refine wXh ?_)
    (refine RD_callS rfl (hO f1 e4 _ _ (by rw [he4]; exact hd) (Hv.mem memF) (Hv.mem memF)) rfl rfl ?_; rintro _ _ _ ⟨rfl, g1, rfl, hg1, rfl⟩; refine ⟨okF, ?_⟩)
    repeat (refine wXh ?_)
    (refine RD_callS rfl (hDt e5 e1 e6 e2 _ _ (Hv.mem memF) (Hv.upR (Hv.mem (φ := isR e1 D) memF) (by omega)) (Hv.mem memF) (Hv.upR (Hv.mem (φ := isR e2 D) memF) (by omega))) rfl rfl ?_; rintro _ _ _ ⟨rfl, f2, rfl, hf2, rfl⟩; refine ⟨okF, ?_⟩)
    repeat (refine wXh ?_)
    (refine RD_callS rfl (hO f2 e4 _ _ (by rw [he4]; exact hd) (Hv.mem memF) (Hv.mem memF)) rfl rfl ?_; rintro _ _ _ ⟨rfl, g2, rfl, hg2, rfl⟩; refine ⟨okF, ?_⟩)
    repeat (refine wXh ?_)
    refine ND_hv (φ := isR g1 (100 * (k + 1))) (Hv.q (k := E + E + (E + E) + 1 + (D + D + (D + D) + 1)) memF (by omega)) ?_
    refine ND_hv (φ := isR g2 (100 * (k + 1))) (Hv.q (k := E + E + (E + E) + 1 + (D + D + (D + D) + 1)) memF (by omega)) ?_
    refine ND_retsC (rs := [.cell 4 26, .cell 5 26, .tmp 6]) (vs := [rv g1, rv g2, .int .i64 0]) (.inl rfl) rfl (.cellN (cs := eR g1) inferInstance rfl memF rfl (.cellN (cs := eR g2) inferInstance rfl memF rfl (.tmp rfl .nil))) rfl M0 (isR g2 (100 * (k + 1)) :: isR g1 (100 * (k + 1)) :: I0) subF incF ⟨rfl, g1, g2, rfl, by rw [hg1, hf1, he4, he5, he6, he2, he3]; rfl, by rw [hg2, hf2, he4, he5, he6, he1, he2]; rfl, rfl⟩
end
end Go.Proofs.YtllaoaobnnondaaGreatR
