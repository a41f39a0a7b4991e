/- intersect.Gap. The law's arithmetic of vectors (chapter 25). matrix: zero, symmetric. Symmetric elimination, plain: pivots and leading determinants; the quadratic form as a sum of squares; witnesses. -/
import Derived.Test.YtllaoaobnnondaaGreatRZibi
import Derived.Test.YtllaoaobnnondaaGreatRZibb
import Derived.Test.YtllaoaobnnondaaGreatRZibd
set_option linter.unusedSimpArgs false
set_option linter.unusedVariables false
namespace Go.Proofs.YtllaoaobnnondaaGreatR
open Go Go.Fx
def gapV (o a p b : V3) : V3 := (o.along (footS o a p b) a).sub (p.along (footT o a p b) b)
section
variable {X : List Nat} {w0 : World} {M0 : List Ent} {I0 : List Imm}
set_option maxRecDepth 100000 in
set_option maxHeartbeats 1000000 in
theorem Gap_bad {r s : YW} (sr : r.sml) (ss : s.sml) (hb : ¬ (r.ok ∧ s.ok)) (hr : Hv I0 (isYW r)) (hs : Hv I0 (isYW s)) :
    CD Tryz.prog 16 [ywv r, ywv s] X w0 M0 I0 (fun v M I => M0 = M ∧ I0 = I ∧ v = .tuple #[.agg zRv.toArray, .int .i64 1]) := by
  have hC := fun q M0 I0 h1 h2 => iCheck_ok (X := X) (w0 := w0) (M0 := M0) (I0 := I0) (q := q) (c := 2) (n := 2) (ms := [r, s]) rfl (by decide) (fun x hx => by simp only [List.mem_cons, List.not_mem_nil, or_false] at hx; rcases hx with rfl | rfl <;> assumption) h1 h2
  rw [chkC_no (fun h => hb ⟨h r (by simp), h s (by simp)⟩)] at hC
  refine CD_hvV (φ := allYW [r, s]) (Hv.yw2 hr hs) ?_
  refine enterD2 Tryz.func16 rfl Tryz.ntmps16 rfl ?_
  refine TD_seq ?_
  refine TD_region ?_
  (refine RD_boxA rfl rfl rfl ?_; intro b2; refine ⟨okF, ?_⟩)
  refine RD_freezeB .here ?_
  (refine RD_boxA rfl rfl rfl ?_; intro b3; refine ⟨okF, ?_⟩)
  refine RD_freezeB .here ?_
  (refine RD_alloc rfl rfl ?_; intro b4; refine ⟨okF, ?_⟩)
  repeat (first | (refine wXh ?_) | (apply RD_ldZIB; exact vwF; exact rfl; exact memF; (first | exact AtsZ.y0 | exact AtsZ.y1 | exact AtsZ.w0 | exact AtsZ.w1); exact rfl; exact rfl))
  repeat (refine wXh ?_)
  (refine RD_vals (cs := recs eYW [r, s]) ([ywv r, ywv s]) rfl rfl (by intro v hv; repeat (first | exact absurd hv (List.not_mem_nil) | (rcases List.mem_cons.1 hv with rfl | hv; · rfl))) (by omega) rfl rfl rfl ?_; intro c1; refine ⟨okF, ?_⟩)
  refine RD_freezeB .here ?_
  (refine RD_callS rfl (hC _ _ _ memF memF) rfl rfl ?_; rintro _ _ _ ⟨rfl, rfl, rfl⟩; refine ⟨okF, ?_⟩)
  repeat (first | (refine wXh ?_) | (apply RD_ldZIB; exact vwF; exact rfl; exact memF; (first | exact AtsZ.y0 | exact AtsZ.y1 | exact AtsZ.w0 | exact AtsZ.w1); exact rfl; exact rfl))
  repeat (refine wXh ?_)
  (refine RD_c rfl (fun _ => Const_struct (pvs := ([]).zipIdx.map (fun p => (p.2, p.1))) (cells := zRv) rfl rfl) rfl rfl ?_)
  repeat (first | (refine wXh ?_) | (apply RD_ldZIB; exact vwF; exact rfl; exact memF; (first | exact AtsZ.y0 | exact AtsZ.y1 | exact AtsZ.w0 | exact AtsZ.w1); exact rfl; exact rfl))
  repeat (refine wXh ?_)
  refine ND_retsC (rs := [.cell 4 26, .tmp 5]) (vs := [.agg zRv.toArray, .int .i64 1]) (.inl rfl) rfl (.cellN (cs := zRv) inferInstance rfl memF rfl (.tmp rfl .nil)) rfl M0 (allYW [r, s] :: I0) subF incF ⟨rfl, rfl, rfl⟩
set_option maxRecDepth 100000 in
set_option maxHeartbeats 2000000 in
theorem Gap_par {r s : YE} {k : Nat} (hk : k ≤ 1000) (hr0 : r.a.v.dot r.a.v ≠ 0) (hs0 : s.a.v.dot s.a.v ≠ 0) (hd : gramD r.a.v s.a.v = 0) (hr : Hv I0 (isY r k)) (hs : Hv I0 (isY s k)) :
    CD Tryz.prog 16 [yv r, yv s] X w0 M0 I0 (RQc (missQ r.o.v r.a.v s.o.v) (2000 * (k + 1)) M0 I0) := by
  have hC := fun q M0 I0 h1 h2 h3 => Check2X_ok (X := X) (w0 := w0) (M0 := M0) (I0 := I0) (q := q) (c := 2) (k := k) (r := r) (s := s) (by omega) hr0 hs0 h1 h2 h3
  have hF := fun M0 I0 h1 h2 => Foot_deg (X := X) (w0 := w0) (M0 := M0) (I0 := I0) (r := r) (s := s) (k := k) (by omega) hr0 hs0 hd h1 h2
  have hM := fun M0 I0 h1 h2 => iMiss_ok (X := X) (w0 := w0) (M0 := M0) (I0 := I0) (r := r) (p := s.o) (k := k) (by omega) hr0 h1 h2
  refine CD_hv (φ := isY r k) hr (CD_hv (φ := isY s k) hs.cons ?_)
  refine enterD2 Tryz.func16 rfl Tryz.ntmps16 rfl ?_
  refine TD_seq ?_
  refine TD_region ?_
  (refine RD_boxA rfl rfl rfl ?_; intro b2; refine ⟨okF, ?_⟩)
  refine RD_freezeB .here ?_
  (refine RD_boxA rfl rfl rfl ?_; intro b3; refine ⟨okF, ?_⟩)
  refine RD_freezeB .here ?_
  (refine RD_alloc rfl rfl ?_; intro b4; refine ⟨okF, ?_⟩)
  repeat (first | (refine wXh ?_) | (apply RD_ldZIB; exact vwF; exact rfl; exact memF; (first | exact AtsZ.y0 | exact AtsZ.y1 | exact AtsZ.w0 | exact AtsZ.w1); exact rfl; exact rfl))
  repeat (refine wXh ?_)
  (refine RD_vals (cs := recs eY [r, s]) ([yv r, yv s]) rfl rfl (by intro v hv; repeat (first | exact absurd hv (List.not_mem_nil) | (rcases List.mem_cons.1 hv with rfl | hv; · rfl))) (by omega) rfl rfl rfl ?_; intro c1; refine ⟨okF, ?_⟩)
  refine RD_freezeB .here ?_
  (refine RD_callS rfl (hC _ _ _ (Hv.mem memF) (Hv.mem memF) memF) rfl rfl ?_; rintro _ _ _ ⟨rfl, rfl, rfl⟩; refine ⟨okF, ?_⟩)
  repeat (first | (refine wXh ?_) | (apply RD_ldZIB; exact vwF; exact rfl; exact memF; (first | exact AtsZ.y0 | exact AtsZ.y1 | exact AtsZ.w0 | exact AtsZ.w1); exact rfl; exact rfl))
  repeat (refine wXh ?_)
  (refine RD_callS rfl (hF _ _ (Hv.mem memF) (Hv.mem memF)) rfl rfl ?_; rintro _ _ _ ⟨rfl, rfl, rfl⟩; refine ⟨okF, ?_⟩)
  repeat (first | (refine wXh ?_) | (apply RD_ldZIB; exact vwF; exact rfl; exact memF; (first | exact AtsZ.y0 | exact AtsZ.y1 | exact AtsZ.w0 | exact AtsZ.w1); exact rfl; exact rfl))
  repeat (refine wXh ?_)
  (refine RD_alloc rfl rfl ?_; intro b7; refine ⟨okF, ?_⟩)
  (refine RD_alloc rfl rfl ?_; intro b8; refine ⟨okF, ?_⟩)
  repeat (first | (refine wXh ?_) | (apply RD_ldZIB; exact vwF; exact rfl; exact memF; (first | exact AtsZ.y0 | exact AtsZ.y1 | exact AtsZ.w0 | exact AtsZ.w1); exact rfl; exact rfl))
  repeat (refine wXh ?_)
  (refine RD_callS rfl (hM _ _ (Hv.mem memF) (Hv.yo (Hv.mem (φ := isY s k) memF))) rfl rfl ?_; rintro _ _ _ ⟨rfl, e, rfl, he, rfl⟩; refine ⟨okF, ?_⟩)
  repeat (first | (refine wXh ?_) | (apply RD_ldZIB; exact vwF; exact rfl; exact memF; (first | exact AtsZ.y0 | exact AtsZ.y1 | exact AtsZ.w0 | exact AtsZ.w1); exact rfl; exact rfl))
  repeat (refine wXh ?_)
  refine ND_hv (φ := isR e (2000 * (k + 1))) (Hv.q (k := 100 * (k + 1)) memF (by omega)) ?_
  refine ND_retsC (rs := [.cell 4 26, .tmp 5]) (vs := [rv e, .int .i64 0]) (.inl rfl) rfl (.cellN (cs := eR e) inferInstance rfl memF rfl (.tmp rfl .nil)) rfl M0 (isR e (2000 * (k + 1)) :: I0) subF incF ⟨rfl, e, rfl, he, rfl⟩
set_option maxRecDepth 100000 in
set_option maxHeartbeats 4000000 in
theorem Gap_ok {r s : YE} {k : Nat} (hk : k ≤ 1000) (hr0 : r.a.v.dot r.a.v ≠ 0) (hs0 : s.a.v.dot s.a.v ≠ 0) (hd : gramD r.a.v s.a.v ≠ 0) (hr : Hv I0 (isY r k)) (hs : Hv I0 (isY s k)) :
    CD Tryz.prog 16 [yv r, yv s] X w0 M0 I0 (RQc ((gapV r.o.v r.a.v s.o.v s.a.v).dot (gapV r.o.v r.a.v s.o.v s.a.v)) (2000 * (k + 1)) M0 I0) := by
  have hC := fun q M0 I0 h1 h2 h3 => Check2X_ok (X := X) (w0 := w0) (M0 := M0) (I0 := I0) (q := q) (c := 2) (k := k) (r := r) (s := s) (by omega) hr0 hs0 h1 h2 h3
  obtain ⟨H, hH⟩ : ∃ H, H = 100 * (k + 1) := ⟨_, rfl⟩
  have hF := fun M0 I0 h1 h2 => Foot_ok (X := X) (w0 := w0) (M0 := M0) (I0 := I0) (r := r) (s := s) (k := k) (by omega) hr0 hs0 hd h1 h2
  rw [← hH] at hF
  have hP := fun (x y : TE) (e : RE) M0 I0 h1 h2 h3 => iPlus_ok (X := X) (w0 := w0) (M0 := M0) (I0 := I0) (a := x) (b := y) (s := e) (k := k) (m := k) (u := H) (by omega) h1 h2 h3
  obtain ⟨P, hPe⟩ : ∃ P, P = k + (H + k) + 1 := ⟨_, rfl⟩
  rw [← hPe] at hP
  have hMi := fun (x y : TE) M0 I0 h1 h2 => iMinus_ok (X := X) (w0 := w0) (M0 := M0) (I0 := I0) (a := x) (b := y) (k := P) (m := P) (by omega) h1 h2
  have hDo := fun (x : TE) M0 I0 h1 h2 => iDot_ok (X := X) (w0 := w0) (M0 := M0) (I0 := I0) (a := x) (b := x) (k := P + P + 1) (m := P + P + 1) (by omega) h1 h2
  refine CD_hv (φ := isY r k) hr (CD_hv (φ := isY s k) hs.cons ?_)
  refine enterD2 Tryz.func16 rfl Tryz.ntmps16 rfl ?_
  refine TD_seq ?_
  refine TD_region ?_
  (refine RD_boxA rfl rfl rfl ?_; intro b2; refine ⟨okF, ?_⟩)
  refine RD_freezeB .here ?_
  (refine RD_boxA rfl rfl rfl ?_; intro b3; refine ⟨okF, ?_⟩)
  refine RD_freezeB .here ?_
  (refine RD_alloc rfl rfl ?_; intro b4; refine ⟨okF, ?_⟩)
  repeat (first | (refine wXh ?_) | (apply RD_ldZIB; exact vwF; exact rfl; exact memF; (first | exact AtsZ.y0 | exact AtsZ.y1 | exact AtsZ.w0 | exact AtsZ.w1); exact rfl; exact rfl))
  repeat (refine wXh ?_)
  (refine RD_vals (cs := recs eY [r, s]) ([yv r, yv s]) rfl rfl (by intro v hv; repeat (first | exact absurd hv (List.not_mem_nil) | (rcases List.mem_cons.1 hv with rfl | hv; · rfl))) (by omega) rfl rfl rfl ?_; intro c1; refine ⟨okF, ?_⟩)
  refine RD_freezeB .here ?_
  (refine RD_callS rfl (hC _ _ _ (Hv.mem memF) (Hv.mem memF) memF) rfl rfl ?_; rintro _ _ _ ⟨rfl, rfl, rfl⟩; refine ⟨okF, ?_⟩)
  repeat (first | (refine wXh ?_) | (apply RD_ldZIB; exact vwF; exact rfl; exact memF; (first | exact AtsZ.y0 | exact AtsZ.y1 | exact AtsZ.w0 | exact AtsZ.w1); exact rfl; exact rfl))
  repeat (refine wXh ?_)
  (refine RD_callS rfl (hF _ _ (Hv.mem memF) (Hv.mem memF)) rfl rfl ?_; rintro _ _ _ ⟨rfl, e, f, rfl, he, hf, rfl⟩; refine ⟨okF, ?_⟩)
  repeat (first | (refine wXh ?_) | (apply RD_ldZIB; exact vwF; exact rfl; exact memF; (first | exact AtsZ.y0 | exact AtsZ.y1 | exact AtsZ.w0 | exact AtsZ.w1); exact rfl; exact rfl))
  repeat (refine wXh ?_)
  (refine RD_alloc rfl rfl ?_; intro b7; refine ⟨okF, ?_⟩)
  (refine RD_alloc rfl rfl ?_; intro b8; refine ⟨okF, ?_⟩)
  repeat (first | (refine wXh ?_) | (apply RD_ldZIB; exact vwF; exact rfl; exact memF; (first | exact AtsZ.y0 | exact AtsZ.y1 | exact AtsZ.w0 | exact AtsZ.w1); exact rfl; exact rfl))
  repeat (refine wXh ?_)
  clear hC hF
  refine TD_cutT (fun G M I => ∃ (b10 : Nat) (d : TE), d.v = gapV r.o.v r.a.v s.o.v s.a.v ∧ G = [(4, .pointer (some ⟨b4, 0, none⟩)), (10, .pointer (some ⟨b10, 0, none⟩))] ∧ M = .blk b10 (recs eR [d.x, d.y, d.z]) 27 :: .blk b4 zRv 26 :: M0 ∧ I = isT d (P + P + 1) :: I0) ?_ ?_
  · ((repeat refine TD_seq ?_); refine TD_rest (.blk b8 (eR f) 26 :: .blk b7 (eR e) 26 :: M0) (isR f H :: isR e H :: slI (some ⟨b3, 0, none⟩) (recs eT [s.o, s.a]) :: slI (some ⟨b2, 0, none⟩) (recs eT [r.o, r.a]) :: isY s k :: isY r k :: I0) mixed ?_)
    refine ND_restPre (fuel := 5) (listed' := #[true, true, true, true, true, false, true, true, true, true, true, false, false, false, false]) [0, 1, 2, 3, 4, 6, 7, 8, 9, 10] [4, 3, 4, 3, 3, 4, 3, 4, 3, 3] subF incF (by kernel_rfl) (by kernel_rfl) rfl rfl ?_
    repeat (refine wXh ?_)
    (apply RD_ldZIB; exact vwF; exact rfl; exact memF; (first | exact AtsZ.y0 | exact AtsZ.y1 | exact AtsZ.w0 | exact AtsZ.w1); exact rfl; exact rfl)
    repeat (refine wXh ?_)
    (apply RD_ldZIB; exact vwF; exact rfl; exact memF; (first | exact AtsZ.y0 | exact AtsZ.y1 | exact AtsZ.w0 | exact AtsZ.w1); exact rfl; exact rfl)
    repeat (refine wXh ?_)
    (apply RD_ldZIB; exact vwF; exact rfl; exact memF; (first | exact AtsZ.y0 | exact AtsZ.y1 | exact AtsZ.w0 | exact AtsZ.w1); exact rfl; exact rfl)
    repeat (refine wXh ?_)
    (apply RD_ldZIB; exact vwF; exact rfl; exact memF; (first | exact AtsZ.y0 | exact AtsZ.y1 | exact AtsZ.w0 | exact AtsZ.w1); exact rfl; exact rfl)
    repeat (refine wXh ?_)
    refine ND_restFork (fuel := 4) (i := 5) (j := 13) (by kernel_rfl) ?_ ?_
    · (refine RD_callS rfl (hP r.o r.a e _ _ (Hv.yo (Hv.mem (φ := isY r k) memF)) (Hv.ya (Hv.mem (φ := isY r k) memF)) (Hv.mem memF)) rfl rfl ?_; rintro _ _ _ ⟨rfl, x, rfl, hx, rfl⟩; refine ⟨okF, ?_⟩)
      refine RD_nil ?_
      repeat (refine wXh ?_)
      refine ND_restFork (fuel := 3) (i := 11) (j := 13) (by kernel_rfl) ?_ ?_
      · (refine RD_callS rfl (hP s.o s.a f _ _ (Hv.yo (Hv.mem (φ := isY s k) memF)) (Hv.ya (Hv.mem (φ := isY s k) memF)) (Hv.mem memF)) rfl rfl ?_; rintro _ _ _ ⟨rfl, y, rfl, hy, rfl⟩; refine ⟨okF, ?_⟩)
        refine RD_nil ?_
        repeat (refine wXh ?_)
        refine ND_restFork (fuel := 2) (i := 12) (j := 13) (by kernel_rfl) ?_ ?_
        · (refine RD_callS rfl (hMi x y _ _ (Hv.mem memF) (Hv.mem memF)) rfl rfl ?_; rintro _ _ _ ⟨rfl, d, rfl, hdv, rfl⟩; refine ⟨okF, ?_⟩)
          refine RD_nil ?_
          refine ND_restEnd [13, 14] [0, 0] subF incF (by kernel_rfl) (by kernel_rfl) rfl rfl ?_
          repeat (refine wXh ?_)
          (refine RD_alloc rfl rfl ?_; intro b10; refine ⟨okF, ?_⟩)
          repeat (refine wXh ?_)
          refine ND_cut _ _ _ subG subF incF ⟨b10, d, by rw [hdv, hx, hy, he, hf]; rfl, rfl, rfl, rfl⟩
        · (refine RD_alloc rfl rfl ?_; intro b10; refine ⟨okF, ?_⟩)
          refine RD_nil ?_
          refine ND_restEnd [12, 14] [0, 0] subF incF (by kernel_rfl) (by kernel_rfl) rfl rfl ?_
          repeat (refine wXh ?_)
          (refine RD_callS rfl (hMi x y _ _ (Hv.mem memF) (Hv.mem memF)) rfl rfl ?_; rintro _ _ _ ⟨rfl, d, rfl, hdv, rfl⟩; refine ⟨okF, ?_⟩)
          repeat (refine wXh ?_)
          refine ND_cut _ _ _ subG subF incF ⟨b10, d, by rw [hdv, hx, hy, he, hf]; rfl, rfl, rfl, rfl⟩
      · (refine RD_alloc rfl rfl ?_; intro b10; refine ⟨okF, ?_⟩)
        refine RD_nil ?_
        refine ND_restEnd [11, 12, 14] [0, 0, 0] subF incF (by kernel_rfl) (by kernel_rfl) rfl rfl ?_
        repeat (refine wXh ?_)
        (refine RD_callS rfl (hP s.o s.a f _ _ (Hv.yo (Hv.mem (φ := isY s k) memF)) (Hv.ya (Hv.mem (φ := isY s k) memF)) (Hv.mem memF)) rfl rfl ?_; rintro _ _ _ ⟨rfl, y, rfl, hy, rfl⟩; refine ⟨okF, ?_⟩)
        repeat (refine wXh ?_)
        (refine RD_callS rfl (hMi x y _ _ (Hv.mem memF) (Hv.mem memF)) rfl rfl ?_; rintro _ _ _ ⟨rfl, d, rfl, hdv, rfl⟩; refine ⟨okF, ?_⟩)
        repeat (refine wXh ?_)
        refine ND_cut _ _ _ subG subF incF ⟨b10, d, by rw [hdv, hx, hy, he, hf]; rfl, rfl, rfl, rfl⟩
    · (refine RD_alloc rfl rfl ?_; intro b10; refine ⟨okF, ?_⟩)
      refine RD_nil ?_
      refine ND_restEnd [5, 11, 12, 14] [0, 0, 0, 0] subF incF (by kernel_rfl) (by kernel_rfl) rfl rfl ?_
      repeat (refine wXh ?_)
      (refine RD_callS rfl (hP r.o r.a e _ _ (Hv.yo (Hv.mem (φ := isY r k) memF)) (Hv.ya (Hv.mem (φ := isY r k) memF)) (Hv.mem memF)) rfl rfl ?_; rintro _ _ _ ⟨rfl, x, rfl, hx, rfl⟩; refine ⟨okF, ?_⟩)
      repeat (refine wXh ?_)
      (refine RD_callS rfl (hP s.o s.a f _ _ (Hv.yo (Hv.mem (φ := isY s k) memF)) (Hv.ya (Hv.mem (φ := isY s k) memF)) (Hv.mem memF)) rfl rfl ?_; rintro _ _ _ ⟨rfl, y, rfl, hy, rfl⟩; refine ⟨okF, ?_⟩)
      repeat (refine wXh ?_)
      (refine RD_callS rfl (hMi x y _ _ (Hv.mem memF) (Hv.mem memF)) rfl rfl ?_; rintro _ _ _ ⟨rfl, d, rfl, hdv, rfl⟩; refine ⟨okF, ?_⟩)
      repeat (refine wXh ?_)
      refine ND_cut _ _ _ subG subF incF ⟨b10, d, by rw [hdv, hx, hy, he, hf]; rfl, rfl, rfl, rfl⟩
  · rintro G M I ⟨b10, d, hdv, rfl, rfl, rfl⟩
    repeat (refine wXh ?_)
    (refine RD_callS rfl (hDo d _ _ (Hv.mem memF) (Hv.mem memF)) rfl rfl ?_; rintro _ _ _ ⟨rfl, g, rfl, hg, rfl⟩; refine ⟨okF, ?_⟩)
    repeat (refine wXh ?_)
    refine ND_hv (φ := isR g (2000 * (k + 1))) (Hv.q (k := 3 * (P + P + 1 + (P + P + 1) + 1)) memF (by omega)) ?_
    refine ND_retsC (rs := [.cell 4 26, .tmp 5]) (vs := [rv g, .int .i64 0]) (.inl rfl) rfl (.cellN (cs := eR g) inferInstance rfl memF rfl (.tmp rfl .nil)) rfl M0 (isR g (2000 * (k + 1)) :: I0) subF incF ⟨rfl, g, rfl, by rw [hg, hdv], rfl⟩
end
end Go.Proofs.YtllaoaobnnondaaGreatR
namespace Go.Proofs.YtllaoaobnnondaaGreatR
open Go Go.Fx
theorem AtsZ.r0 {α : Type} [Inhabited α] {enc : α → List Value} {sz : Nat} [hz : Sized enc sz] {ms : List α} {i : Int} (hi : 0 ≤ i ∧ i < ms.length) : AtsZ (recs enc ms) (0 + i.toNat * sz) (enc (gt ms i)) sz := by rw [Nat.zero_add]; exact AtsZ.r hi
theorem StAts.r0 {α : Type} {enc : α → List Value} {sz : Nat} [hz : Sized enc sz] {ms : List α} {i : Int} {vs : List Value} (mm : α) (hi : 0 ≤ i ∧ i < ms.length) (hv : vs = enc mm) : StAts (recs enc ms) (0 + i.toNat * sz) vs (recs enc (st ms i mm)) := by rw [Nat.zero_add]; exact StAts.r mm hi hv
theorem len3 {es : List RE} (h : es.length = 3) : ∃ a b c, es = [a, b, c] := by
  match es, h with
  | [a, b, c], _ => exact ⟨a, b, c, rfl⟩
section
variable {X : List Nat} {w0 : World} {M0 : List Ent} {I0 : List Imm}
set_option maxRecDepth 100000 in
set_option maxHeartbeats 1000000 in
theorem lDot_ok {a b : TE} {k m : Nat} (hk : 3 * (k + m + 1) ≤ 100000000) (ha : Hv I0 (isT a k)) (hb : Hv I0 (isT b m)) :
    CD Tryz.prog 26 [tv a, tv b] X w0 M0 I0 (RQ (a.v.dot b.v) (3 * (k + m + 1)) M0 I0) := by
  refine CD_hv (φ := isT a k) ha (CD_hv (φ := isT b m) hb.cons ?_)
  have hD := fun (x y : Nat) M0 I0 h1 h2 => rfDot_ok (X := X) (w0 := w0) (M0 := M0) (I0 := I0) (a := a.l x) (b := b.l y) (ka := k) (kb := m) (n := 3) (by omega) hk rfl rfl h1 h2
  refine enterD2 Tryz.func26 rfl Tryz.ntmps26 rfl ?_
  refine TD_seq ?_
  refine TD_region ?_
  (refine RD_boxA rfl rfl rfl ?_; intro b2; refine ⟨okF, ?_⟩)
  refine RD_freezeB .here ?_
  (refine RD_boxA rfl rfl rfl ?_; intro b3; refine ⟨okF, ?_⟩)
  refine RD_freezeB .here ?_
  (refine RD_alloc rfl rfl ?_; intro b4; refine ⟨okF, ?_⟩)
  repeat (refine wXh ?_)
  refine TD_hv (φ := isL (a.l b2) k) (Hv.tl (Hv.mem (φ := isT a k) memF) memF) ?_
  refine TD_hv (φ := isL (b.l b3) m) (Hv.tl (Hv.mem (φ := isT b m) memF) memF) ?_
  refine TD_cutT (fun G M I => ∃ (b5 : Nat) (e : RE), e.q = a.v.dot b.v ∧ G = [(4, .pointer (some ⟨b4, 0, none⟩)), (5, .pointer (some ⟨b5, 0, none⟩))] ∧ M = .blk b5 (eR e) 26 :: .blk b4 zRv 26 :: M0 ∧ I = isR e (3 * (k + m + 1)) :: I0) ?_ ?_
  · ((repeat refine TD_seq ?_); refine TD_rest (M0) (isL (b.l b3) m :: isL (a.l b2) k :: I0) mixed ?_)
    refine ND_restPre (fuel := 7) (listed' := #[true, true, false, false, false, false, false, false, false]) [0, 1] [1, 1] subF incF (by kernel_rfl) (by kernel_rfl) rfl rfl ?_
    repeat (refine wXh ?_)
    (refine RD_c rfl (fun _ => Const_sliceA rfl) rfl rfl ?_)
    repeat (refine wXh ?_)
    (refine RD_c rfl (fun _ => Const_sliceA rfl) rfl rfl ?_)
    repeat (refine wXh ?_)
    refine ND_restFork (fuel := 6) (i := 2) (j := 6) (by kernel_rfl) ?_ ?_
    · (refine RD_callS rfl (hD b2 b3 _ _ (Hv.mem memF) (Hv.mem memF)) rfl rfl ?_; rintro _ _ _ ⟨rfl, e, rfl, he, rfl⟩; refine ⟨okF, ?_⟩)
      refine RD_nil ?_
      refine ND_restEnd [3, 4, 5, 6, 7, 8] [1, 1, 2, 0, 0, 0] subF incF (by kernel_rfl) (by kernel_rfl) rfl rfl ?_
      repeat (refine wXh ?_)
      (refine RD_alloc rfl rfl ?_; intro b5; refine ⟨okF, ?_⟩)
      repeat (refine wXh ?_)
      refine ND_cut _ _ _ subG subF incF ⟨b5, e, by rw [he]; exact dot3, rfl, rfl, rfl⟩
    · (refine RD_alloc rfl rfl ?_; intro b5; refine ⟨okF, ?_⟩)
      refine RD_nil ?_
      refine ND_restEnd [2, 3, 4, 5, 7, 8] [0, 0, 0, 1, 0, 0] subF incF (by kernel_rfl) (by kernel_rfl) rfl rfl ?_
      repeat (refine wXh ?_)
      (refine RD_callS rfl (hD b2 b3 _ _ (Hv.mem memF) (Hv.mem memF)) rfl rfl ?_; rintro _ _ _ ⟨rfl, e, rfl, he, rfl⟩; refine ⟨okF, ?_⟩)
      repeat (refine wXh ?_)
      refine ND_cut _ _ _ subG subF incF ⟨b5, e, by rw [he]; exact dot3, rfl, rfl, rfl⟩
  · rintro G M I ⟨b5, e, he, rfl, rfl, rfl⟩
    repeat (refine wXh ?_)
    refine ND_retC (cs := eR e) (.inl rfl) rfl rfl memF rfl M0 (isR e (3 * (k + m + 1)) :: I0) subF incF ⟨rfl, e, rfl, he, rfl⟩
set_option maxRecDepth 100000 in
theorem lQuot_ok {a b : RE} {k m : Nat} (hk : k + m ≤ 100000000) (hb0 : b.q ≠ 0) (ha : Hv I0 (isR a k)) (hb : Hv I0 (isR b m)) :
    CD Tryz.prog 28 [rv a, rv b] X w0 M0 I0 (RQ (a.q / b.q) (k + m) M0 I0) := by
  refine enterD2 Tryz.func28 rfl Tryz.ntmps28 rfl ?_
  refine TD_seq ?_
  refine TD_region ?_
  (refine RD_boxA rfl rfl rfl ?_; intro b2; refine ⟨okF, ?_⟩)
  (refine RD_boxA rfl rfl rfl ?_; intro b3; refine ⟨okF, ?_⟩)
  (refine RD_alloc rfl rfl ?_; intro b4; refine ⟨okF, ?_⟩)
  repeat (refine wXh ?_)
  (refine RD_callS rfl (rQDivide_ok (k := k) (m := m) (by omega) hb0 ha hb) rfl rfl ?_; rintro _ _ _ ⟨rfl, e, rfl, he, rfl⟩; refine ⟨okF, ?_⟩)
  repeat (refine wXh ?_)
  (refine RD_alloc rfl rfl ?_; intro b5; refine ⟨okF, ?_⟩)
  repeat (refine wXh ?_)
  refine ND_retC (cs := eR e) (.inl rfl) rfl rfl memF rfl M0 (isR e (k + m) :: I0) subF incF ⟨rfl, e, rfl, he, rfl⟩
set_option maxRecDepth 100000 in
set_option maxHeartbeats 2000000 in
theorem lPlus_ok {a b : TE} {s : RE} {u m v : Nat} (hk : u + (v + m) + 1 ≤ 100000000) (ha : Hv I0 (isT a u)) (hb : Hv I0 (isT b m)) (hs : Hv I0 (isR s v)) :
    CD Tryz.prog 24 [tv a, rv s, tv b] X w0 M0 I0 (TQ (a.v.along s.q b.v) (u + (v + m) + 1) M0 I0) := by
  refine CD_hv (φ := isT a u) ha (CD_hv (φ := isT b m) hb.cons (CD_hv (φ := isR s v) hs.cons.cons ?_))
  have hM := fun (y : RE) M0 I0 h1 h2 => rQMul_ok (X := X) (w0 := w0) (M0 := M0) (I0 := I0) (a := s) (b := y) (k := v) (m := m) (by omega) h1 h2
  have hA := fun (x y : RE) M0 I0 h1 h2 => rQAdd_ok (X := X) (w0 := w0) (M0 := M0) (I0 := I0) (a := x) (b := y) (k := u) (m := v + m) (by omega) h1 h2
  refine enterD3 Tryz.func24 rfl Tryz.ntmps24 rfl ?_
  refine TD_seq ?_
  refine TD_region ?_
  (refine RD_boxA rfl rfl rfl ?_; intro b3; refine ⟨okF, ?_⟩)
  refine RD_freezeB .here ?_
  (refine RD_boxA rfl rfl rfl ?_; intro b4; refine ⟨okF, ?_⟩)
  refine RD_freezeB .here ?_
  (refine RD_boxA rfl rfl rfl ?_; intro b5; refine ⟨okF, ?_⟩)
  refine RD_freezeB .here ?_
  (refine RD_alloc rfl rfl ?_; intro b6; refine ⟨okF, ?_⟩)
  repeat (refine wXh ?_)
  (refine RD_alloc rfl rfl ?_; intro b7; refine ⟨okF, ?_⟩)
  repeat (refine wXh ?_)
  refine TD_hv (φ := isL (a.l b3) u) (Hv.tl (Hv.mem (φ := isT a u) memF) memF) ?_
  refine TD_hv (φ := isL (b.l b5) m) (Hv.tl (Hv.mem (φ := isT b m) memF) memF) ?_
  refine TD_hv (φ := allR [] (u + (v + m) + 1)) Hv.nilR ?_
  refine TD_w (I' := allR [] (u + (v + m) + 1) :: isL (b.l b5) m :: isL (a.l b3) u :: slI (some ⟨b5, 0, none⟩) (recs eR [b.x, b.y, b.z]) :: slI (some ⟨b4, 0, none⟩) (eR s) :: slI (some ⟨b3, 0, none⟩) (recs eR [a.x, a.y, a.z]) :: isR s v :: I0) SubP.refl incF ?_
  refine TD_loop [3, 4, 5, 6, 7] rfl (fun k G M I => ∃ (i : Nat) (es : List RE), i ≤ 3 ∧ k = 3 - i ∧ es.length = i ∧ qs es = (List.range i).map (fun (t : Nat) => (gt [a.x, a.y, a.z] (t : Int)).q + s.q * (gt [b.x, b.y, b.z] (t : Int)).q) ∧ G = [(9, .int .i64 i)] ∧ M = .blk b7 (recs e4 (es.map t4 ++ List.replicate (3 - i) z4)) 27 :: .blk b6 zTc 27 :: M0 ∧ I = allR es (u + (v + m) + 1) :: isL (b.l b5) m :: isL (a.l b3) u :: slI (some ⟨b5, 0, none⟩) (recs eR [b.x, b.y, b.z]) :: slI (some ⟨b4, 0, none⟩) (eR s) :: slI (some ⟨b3, 0, none⟩) (recs eR [a.x, a.y, a.z]) :: isR s v :: I0) (3) _ _ _ subG subF incF (⟨0, [], by omega, rfl, rfl, rfl, rfl, rfl, rfl⟩) ?_
  rintro kk G M I ⟨i, es, hi, rfl, hel, heq, rfl, rfl, rfl⟩
  by_cases hin : i < 3
  · have hz2 := rep_split (n := 3 - i) (z := z4) (by omega)
    rw [hz2]
    have hl2 : ((es.map t4 ++ z4 :: List.replicate (3 - i - 1) z4).length : Int) = 3 := by simp; omega
    have h3a : (([a.x, a.y, a.z] : List RE).length : Int) = 3 := rfl
    have h3b : (([b.x, b.y, b.z] : List RE).length : Int) = 3 := rfl
    repeat (refine wXh ?_)
    (repeat refine TD_seq ?_); refine TD_drawnJ 2 [0, 1, 2, 3, 4, 5, 6, 7, 8, 9, 10, 11] [2, 2, 2, 1, 1, 2, 2, 1, 0, 0, 0, 0] mixed (by kernel_rfl) ?_
    repeat (refine wXh ?_)
    (apply RD_ldZIB; exact vwF; exact rfl; exact memF; exact AtsZ.r0 (enc := eR) (sz := 4) (ms := [a.x, a.y, a.z]) (i := (i : Int)) ⟨by omega, by omega⟩; exact rfl; exact rfl)
    repeat (refine wXh ?_)
    (apply RD_ldZIB; exact vwF; exact rfl; exact memF; exact AtsZ.r0 (enc := eR) (sz := 4) (ms := [b.x, b.y, b.z]) (i := (i : Int)) ⟨by omega, by omega⟩; exact rfl; exact rfl)
    repeat (refine wXh ?_)
    (refine RD_callS rfl (hM (gt [b.x, b.y, b.z] (i : Int)) _ _ (Hv.mem memF) (Hv.lel (r := b.l b5) (k := m) memF ⟨by omega, by show (i : Int) < ((3 : Nat) : Int); omega⟩)) rfl rfl ?_; rintro _ _ _ ⟨rfl, f1, rfl, hf1, rfl⟩; refine ⟨okF, ?_⟩)
    (refine RD_callS rfl (hA (gt [a.x, a.y, a.z] (i : Int)) f1 _ _ (Hv.lel (r := a.l b3) (k := u) memF ⟨by omega, by show (i : Int) < ((3 : Nat) : Int); omega⟩) (Hv.mem memF)) rfl rfl ?_; rintro _ _ _ ⟨rfl, e, rfl, he, rfl⟩; refine ⟨okF, ?_⟩)
    repeat' (first | refine TD_seq ?_ | refine TD_region ?_ | refine TD_ret ?_ | refine TD_skip ?_ | refine TD_label ?_ | refine TD_block ?_ | refine TD_exit ?_ | refine ND_then ?_ | refine ND_thenR ?_ | refine ND_thenE ?_ | refine ND_inN ?_ | refine ND_inR ?_ | refine ND_inE ?_ | refine ND_inO rfl ?_ | refine RD_nil ?_ | (refine RD_isGu ?_; first | refine RD_skip rfl rfl rfl ?_ | (refine RD_isEf rfl rfl ?_; refine RD_skipE rfl rfl rfl okF ?_) | refine RD_grdY rfl rfl (by omega) ?_ | refine RD_grdN rfl rfl (by omega) ?_ | refine RD_grd rfl rfl (fun h => ?_) (fun h => ?_) | (fail_if_success (refine RD_isW rfl ?_); refine RD_grdB rfl rfl (fun h => ?_) (fun h => ?_))) | (refine RD_isUn ?_; refine RD_c rfl (fun _ => Const_notB rfl) rfl rfl ?_) | refine RD_c rfl (fun _ => Const_pure rfl) rfl rfl ?_ | (refine RD_isBi ?_; first | refine RD_c rfl (fun _ => Const_add rfl rfl wF) rfl rfl ?_ | refine RD_c rfl (fun _ => Const_sub rfl rfl wF) rfl rfl ?_ | refine RD_c rfl (fun _ => Const_mul rfl rfl wF) rfl rfl ?_ | refine RD_c rfl (fun _ => Const_quo rfl rfl (by omega) qF) rfl rfl ?_ | refine RD_c rfl (fun _ => Const_rem rfl rfl (by omega) rfl) rfl rfl ?_ | refine RD_c rfl (fun _ => Const_half rfl rfl) rfl rfl ?_ | refine RD_c rfl (fun _ => Const_eqBB rfl rfl) rfl rfl ?_ | refine RD_c rfl (fun _ => Const_neBB rfl rfl) rfl rfl ?_ | refine RD_c rfl (fun _ => Const_eqB rfl rfl) rfl rfl ?_ | refine RD_c rfl (fun _ => Const_neB rfl rfl) rfl rfl ?_) | (refine RD_isUn ?_; first | refine RD_c rfl (fun _ => Const_neg rfl wF) rfl rfl ?_) | (refine RD_isCv ?_; first | refine RD_c rfl (fun _ => Const_conv rfl wF) rfl rfl ?_) | (refine RD_isCa ?_; first | refine RD_c rfl (fun _ => Const_len rfl) rfl rfl ?_ | refine RD_c rfl (fun _ => Const_minM rfl rfl) rfl rfl ?_ | refine RD_c rfl (fun _ => Const_maxM rfl rfl) rfl rfl ?_ | refine RD_c rfl (fun _ => Const_min3 rfl rfl rfl) rfl rfl ?_) | (refine RD_isFa ?_; first | refine RD_fldP rfl (by decide) rfl rfl ?_ | refine RD_fld rfl (by decide) rfl rfl ?_) | (refine RD_isIx ?_; first | refine RD_ixB rfl rfl bdI rfl rfl ?_ | refine RD_ixI vwF rfl rfl bdI memF posC rfl rfl ?_ | refine RD_ixR vwF rfl rfl bdI memF posC rfl rfl ?_ | refine RD_c rfl (fun _ => Const_indexA rfl rfl bdI) rfl rfl ?_) | (refine RD_isLd ?_; first | (apply RD_ldZB; exact vwF; exact rfl; (focus ((repeat (first | with_reducible exact List.mem_cons_self | with_reducible assumption | with_reducible refine List.mem_cons_of_mem _ ?_)); done)); exact atY; exact rfl; exact rfl) | (apply RD_ldZIB; exact vwF; exact rfl; (focus ((repeat (first | with_reducible exact List.mem_cons_self | with_reducible assumption | with_reducible refine List.mem_cons_of_mem _ ?_)); done)); exact atY; exact rfl; exact rfl) | (apply RD_ldZI; exact vwF; exact rfl; (focus ((repeat (first | with_reducible exact List.mem_cons_self | with_reducible assumption | with_reducible refine List.mem_cons_of_mem _ ?_)); done)); exact atY; exact rfl; exact rfl) | (apply RD_ldZR; exact vwF; exact rfl; (focus ((repeat (first | with_reducible exact List.mem_cons_self | with_reducible assumption | with_reducible refine List.mem_cons_of_mem _ ?_)); done)); exact atY; exact rfl; exact rfl) | (apply RD_ldB; exact vwF; exact rfl; (focus ((repeat (first | with_reducible exact List.mem_cons_self | with_reducible assumption | with_reducible refine List.mem_cons_of_mem _ ?_)); done)); exact atF; exact rfl; exact rfl) | (apply RD_ldIB; exact vwF; exact rfl; (focus ((repeat (first | with_reducible exact List.mem_cons_self | with_reducible assumption | with_reducible refine List.mem_cons_of_mem _ ?_)); done)); exact atF; exact rfl; exact rfl) | (apply RD_ldI; exact vwF; exact rfl; (focus ((repeat (first | with_reducible exact List.mem_cons_self | with_reducible assumption | with_reducible refine List.mem_cons_of_mem _ ?_)); done)); exact atF; exact rfl; exact rfl) | (apply RD_ldR; exact vwF; exact rfl; (focus ((repeat (first | with_reducible exact List.mem_cons_self | with_reducible assumption | with_reducible refine List.mem_cons_of_mem _ ?_)); done)); exact atF; exact rfl; exact rfl)) | (refine RD_isFd ?_; first | refine RD_c rfl (fun _ => Const_field1 rfl rfl) rfl rfl ?_ | refine RD_c rfl (fun _ => Const_fieldN rfl) rfl rfl ?_) | (refine TD_isCo ?_; first | refine TD_cond_true rfl ?_ | refine TD_cond_false rfl ?_ | refine TD_yes rfl (by omega) ?_ | refine TD_no rfl (by omega) ?_ | refine TD_dec rfl (fun h => ?_) (fun h => ?_) | refine TD_cond rfl (fun h => ?_) (fun h => ?_)))
    refine RD_stN (vs := eR e) rfl rfl rfl (Ones.one e) repF (StAts.r0 (enc := e4) (sz := 4) (ms := es.map t4 ++ z4 :: List.replicate (3 - i - 1) z4) (i := (i : Int)) (t4 e) (by omega) rfl) rfl rfl ⟨okF, ?_⟩
    rw [st_mid (by simp; omega)]
    repeat (refine wXh ?_)
    refine ND_hv (φ := allR (es ++ [e]) (u + (v + m) + 1)) (Hv.snoc memF memF) ?_
    have e9 : es.map t4 ++ t4 e :: List.replicate (3 - i - 1) z4 = (es ++ [e]).map t4 ++ List.replicate (3 - (i + 1)) z4 := by simp [Nat.sub_sub]
    rw [e9]
    refine ND_again (3 - (i + 1)) _ _ _ (by first | omega | (simp only [List.length_append, List.length_cons, List.length_nil]; omega)) subG subF incF (⟨i + 1, es ++ [e], by omega, rfl, by simp; omega, ?_, rfl, rfl, rfl⟩)
    show (es ++ [e]).map RE.q = _
    rw [List.map_append, List.range_succ, List.map_append, ← heq]
    show qs es ++ [e.q] = qs es ++ [_]
    rw [he, hf1]
  · obtain rfl : i = 3 := by omega
    rw [Nat.sub_self, List.replicate_zero, List.append_nil, recs_t4]
    obtain ⟨e1, e2, e3, rfl⟩ := len3 hel
    have hq : [e1.q, e2.q, e3.q] = [a.x.q + s.q * b.x.q, a.y.q + s.q * b.y.q, a.z.q + s.q * b.z.q] := heq
    simp only [List.cons.injEq, and_true] at hq
    obtain ⟨q1, q2, q3⟩ := hq
    repeat (refine wXh ?_)
    refine ND_hv (φ := isT ⟨e1, e2, e3⟩ (u + (v + m) + 1)) (Hv.mkT (Hv.all (es := [e1, e2, e3]) (i := 0) (k := u + (v + m) + 1) memF (by simp) (Nat.le_refl _)) (Hv.all (es := [e1, e2, e3]) (i := 1) (k := u + (v + m) + 1) memF (by simp) (Nat.le_refl _)) (Hv.all (es := [e1, e2, e3]) (i := 2) (k := u + (v + m) + 1) memF (by simp) (Nat.le_refl _))) ?_
    refine ND_retC (cs := recs eR [e1, e2, e3]) (.inl rfl) rfl rfl memF rfl M0 (isT ⟨e1, e2, e3⟩ (u + (v + m) + 1) :: I0) subF incF ⟨rfl, ⟨e1, e2, e3⟩, rfl, by simp only [TE.v, V3.along, q1, q2, q3], rfl⟩
end
end Go.Proofs.YtllaoaobnnondaaGreatR
namespace Go.Proofs.YtllaoaobnnondaaGreatR
open Go Go.Fx
/- ---------- IndexFunc, ContainsFunc of []fiducial/api.Rat ---------- -/
section
variable {X : List Nat} {w0 : World} {M0 : List Ent} {I0 : List Imm}
end

/-- every element is 0 -/
def zeroL (l : List Rat) : Prop := ∀ x ∈ l, x = 0
instance (l : List Rat) : Decidable (zeroL l) := inferInstanceAs (Decidable (∀ x ∈ l, x = 0))
/-- the lower half is the upper one -/
def symM (A : Mt) (n : Nat) : Prop := ∀ i, i < n → ∀ j, j < i → at2 A i j = at2 A j i
instance (A : Mt) (n : Nat) : Decidable (symM A n) := inferInstanceAs (Decidable (∀ i, i < n → ∀ j, j < i → at2 A i j = at2 A j i))
def symC (A : Mt) (n : Nat) : Int := if symM A n then 0 else 11
section
variable {X : List Nat} {w0 : World} {M0 : List Ent} {I0 : List Imm}
end
end Go.Proofs.YtllaoaobnnondaaGreatR
namespace Go.Proofs.YtllaoaobnnondaaGreatR
/-- what is left after so many columns -/
def rsF (f : Nat → Nat → Rat) : Nat → Nat → Nat → Rat
  | 0 => f
  | k + 1 => fun i j => if k < i ∧ k ≤ j then rsF f k i j - rsF f k i k / rsF f k k k * rsF f k k j else rsF f k i j
/-- the block from k on -/
def bk (f : Nat → Nat → Rat) (k : Nat) : Nat → Nat → Rat := fun a b => rsF f k (a + k) (b + k)
/-- the product of the first pivots -/
def pvs (f : Nat → Nat → Rat) : Nat → Rat
  | 0 => 1
  | k + 1 => pvs f k * bk f k 0 0
/-- the quadratic form of the block -/
def qf (f : Nat → Nat → Rat) (v : Nat → Rat) (n k : Nat) : Rat := sm (n - k) (fun a => sm (n - k) (fun b => bk f k a b * v (a + k) * v (b + k)))
/-- the column of l against v -/
def yk (f : Nat → Nat → Rat) (v : Nat → Rat) (n k : Nat) : Rat := v k + sm (n - (k + 1)) (fun a => bk f k (a + 1) 0 / bk f k 0 0 * v (a + (k + 1)))
end Go.Proofs.YtllaoaobnnondaaGreatR
