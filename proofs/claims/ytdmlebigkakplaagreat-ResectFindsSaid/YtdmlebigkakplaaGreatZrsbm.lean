/- The law's guards and slope (chapter 30). -/
import Derived.Test.YtdmlebigkakplaaGreatZrsbl
import Derived.Test.YtdmlebigkakplaaGreatZrsbg
set_option linter.unusedSimpArgs false
set_option linter.unusedVariables false
namespace Go.Proofs.YtdmlebigkakplaaGreat
open Go Go.Fx
def PW.reach (p : PW) : Prop := p.x.reach ∧ p.y.reach
def PW.dig (p : PW) : Nat := p.x.g1.length + p.x.g2.length + (p.y.g1.length + p.y.g2.length)
theorem PW.small_of {p : PW} (h : p.dig ≤ 8) : p.small := by
  unfold PW.dig at h
  exact ⟨⟨by omega, by omega⟩, ⟨by omega, by omega⟩⟩
theorem PE.isP_raw {I : List Imm} {p : PE} (h : Hv I (isPW p.raw)) (hd : p.raw.dig ≤ 8) : Hv I (isP p 240) := by
  have hd2 : p.x.raw.g1.length + p.x.raw.g2.length + (p.y.raw.g1.length + p.y.raw.g2.length) ≤ 8 := hd
  exact ⟨fun X w hw => ⟨RE.isR_raw (h.go X w hw).x (by omega) (by omega), RE.isR_raw (h.go X w hw).y (by omega) (by omega)⟩⟩
theorem PW.good_raw {p : PW} (hx : p.x.Fit) (hy : p.y.Fit) (h : p.good) : ∃ e : PE, p = e.raw := by
  obtain ⟨a, ha⟩ := RW.good_raw hx h.1
  obtain ⟨b, hb⟩ := RW.good_raw hy h.2
  exact ⟨⟨a, b⟩, by cases p; simp only at ha hb; subst ha; subst hb; rfl⟩
section
variable {X : List Nat} {w0 : World} {M0 : List Ent} {I0 : List Imm}
set_option maxRecDepth 100000 in
theorem gValid_ok {q : Option Addr} {c m : Nat} {ps : List PW} (hm : m = ps.length) (hn : ps.length ≤ 1000000) (hs : ∀ p ∈ ps, p.small) (hq : slI q (recs ePW ps) ∈ I0) (ha : Hv I0 (allPW ps)) :
    CD Tryz.prog 18 [.slice q m c] X w0 M0 I0 (fun v M I => M0 = M ∧ I0 = I ∧ v = .bool (B (∀ p ∈ ps, p.good))) := by
  subst hm
  refine enterD1 Tryz.func18 rfl Tryz.ntmps18 rfl ?_
  repeat (refine wXh ?_)
  refine TD_loop [5, 6] rfl (fun k G M I => ∃ i : Nat, i ≤ ps.length ∧ k = ps.length - i ∧ (∀ j : Nat, j < i → (gt ps (j : Int)).good) ∧ G = [(7, .int .i64 i)] ∧ M0 = M ∧ I0 = I) (ps.length) _ _ _ subG subF incF (⟨0, by omega, rfl, fun j hj => by omega, rfl, rfl, rfl⟩) ?_
  rintro k G M I ⟨i, hi, rfl, hg, rfl, rfl, rfl⟩
  by_cases hin : i < ps.length
  · have hsi := hs _ (gt_mem (ms := ps) (i := (i : Int)) (by omega))
    have hai : Hv I0 (isPW (gt ps (i : Int))) := ha.pwAt (by omega)
    have hV1 := fun M0 => rValid_raw (X := X) (w0 := w0) (M0 := M0) (I0 := I0) (r := (gt ps (i : Int)).x) hsi.1 hai.pwx
    have hV2 := fun M0 => rValid_raw (X := X) (w0 := w0) (M0 := M0) (I0 := I0) (r := (gt ps (i : Int)).y) hsi.2 hai.pwy
    repeat (refine wXh ?_)
    (refine RD_alloc rfl rfl ?_; intro b; refine ⟨okF, ?_⟩)
    repeat (refine wXh ?_)
    (refine RD_callS rfl (hV1 _) rfl rfl ?_; rintro _ _ _ ⟨rfl, rfl, rfl⟩; refine ⟨okF, ?_⟩)
    repeat' (first | refine wXh ?_ | (refine TD_isCo ?_; first | refine TD_dec rfl (fun h => ?_) (fun h => ?_) | refine TD_cond rfl (fun h => ?_) (fun h => ?_)) | (refine RD_isGu ?_; first | refine RD_grd rfl rfl (fun h => ?_) (fun h => ?_) | (fail_if_success (refine RD_isW rfl ?_); refine RD_grdB rfl rfl (fun h => ?_) (fun h => ?_))))
    · have hb : ¬ (gt ps (i : Int)).x.good := by assumption
      refine ND_ret1 (by first | exact .inl rfl | exact .inr rfl) rfl rfl _ _ subF incF (⟨rfl, rfl, congrArg Value.bool (B_false (fun e => hb (e _ (gt_mem (by omega))).1)).symm⟩)
    · (refine RD_callS rfl (hV2 _) rfl rfl ?_; rintro _ _ _ ⟨rfl, rfl, rfl⟩; refine ⟨okF, ?_⟩)
      repeat' (first | refine wXh ?_ | (refine TD_isCo ?_; first | refine TD_dec rfl (fun h => ?_) (fun h => ?_) | refine TD_cond rfl (fun h => ?_) (fun h => ?_)) | (refine RD_isGu ?_; first | refine RD_grd rfl rfl (fun h => ?_) (fun h => ?_) | (fail_if_success (refine RD_isW rfl ?_); refine RD_grdB rfl rfl (fun h => ?_) (fun h => ?_))))
      · have hb : ¬ (gt ps (i : Int)).y.good := by assumption
        refine ND_ret1 (by first | exact .inl rfl | exact .inr rfl) rfl rfl _ _ subF incF (⟨rfl, rfl, congrArg Value.bool (B_false (fun e => hb (e _ (gt_mem (by omega))).2)).symm⟩)
      · have h1 : ¬ ¬ (gt ps (i : Int)).x.good := by assumption
        have h2 : ¬ ¬ (gt ps (i : Int)).y.good := by assumption
        refine ND_again (ps.length - (i + 1)) _ _ _ (by first | omega | (simp only [List.length_append, List.length_cons, List.length_nil]; omega)) subG subF incF (⟨i + 1, by omega, rfl, fun j hj => ?_, rfl, rfl, rfl⟩)
        by_cases e : j = i
        · subst e; exact ⟨Decidable.not_not.1 h1, Decidable.not_not.1 h2⟩
        · exact hg j (by omega)
  · repeat (refine wXh ?_)
    refine ND_ret1 (by first | exact .inl rfl | exact .inr rfl) rfl rfl _ _ subF incF (⟨rfl, rfl, congrArg Value.bool (B_true (all_snoc (fun j hj => hg j (by omega)))).symm⟩)
set_option maxRecDepth 100000 in
theorem gShort_ok {q : Option Addr} {c m : Nat} {ps : List PW} (hm : m = ps.length) (hn : ps.length ≤ 1000000) (hs : ∀ p ∈ ps, p.reach) (hq : slI q (recs ePW ps) ∈ I0) :
    CD Tryz.prog 16 [.slice q m c] X w0 M0 I0 (fun v M I => M0 = M ∧ I0 = I ∧ v = .bool (B (∀ p ∈ ps, p.dig ≤ 8))) := by
  subst hm
  refine enterD1 Tryz.func16 rfl Tryz.ntmps16 rfl ?_
  repeat (refine wXh ?_)
  refine TD_loop [5, 6] rfl (fun k G M I => ∃ i : Nat, i ≤ ps.length ∧ k = ps.length - i ∧ (∀ j : Nat, j < i → (gt ps (j : Int)).dig ≤ 8) ∧ G = [(7, .int .i64 i)] ∧ M0 = M ∧ I0 = I) (ps.length) _ _ _ subG subF incF (⟨0, by omega, rfl, fun j hj => by omega, rfl, rfl, rfl⟩) ?_
  rintro k G M I ⟨i, hi, rfl, hg, rfl, rfl, rfl⟩
  by_cases hin : i < ps.length
  · have hsi := hs _ (gt_mem (ms := ps) (i := (i : Int)) (by omega))
    have hV1 := fun M0 I0 => Digits_raw (X := X) (w0 := w0) (M0 := M0) (I0 := I0) (r := (gt ps (i : Int)).x) hsi.1
    have hV2 := fun M0 I0 => Digits_raw (X := X) (w0 := w0) (M0 := M0) (I0 := I0) (r := (gt ps (i : Int)).y) hsi.2
    obtain ⟨⟨r1, r2⟩, r3, r4⟩ := hsi
    repeat (refine wXh ?_)
    (refine RD_alloc rfl rfl ?_; intro b; refine ⟨okF, ?_⟩)
    repeat (refine wXh ?_)
    (repeat refine TD_seq ?_); refine TD_drawnW (.blk b (ePW (gt ps (i : Int))) 28 :: M0) (I0) [0, 1, 3, 4, 2, 5, 6, 7] [2, 1, 2, 1, 0, 0, 0, 0] subF incF mixed (by kernel_rfl) ?_
    repeat (refine wXh ?_)
    (refine RD_callS rfl (hV1 _ _) rfl rfl ?_; rintro _ _ _ ⟨rfl, rfl, rfl⟩; refine ⟨okF, ?_⟩)
    (refine RD_callS rfl (hV2 _ _) rfl rfl ?_; rintro _ _ _ ⟨rfl, rfl, rfl⟩; refine ⟨okF, ?_⟩)
    repeat' (first | refine wXh ?_ | (refine TD_isCo ?_; first | refine TD_dec rfl (fun h => ?_) (fun h => ?_) | refine TD_cond rfl (fun h => ?_) (fun h => ?_)) | (refine RD_isGu ?_; first | refine RD_grd rfl rfl (fun h => ?_) (fun h => ?_) | (fail_if_success (refine RD_isW rfl ?_); refine RD_grdB rfl rfl (fun h => ?_) (fun h => ?_))))
    · have hb : ¬ (gt ps (i : Int)).dig ≤ 8 := by unfold PW.dig; omega
      refine ND_ret1 (by first | exact .inl rfl | exact .inr rfl) rfl rfl _ _ subF incF (⟨rfl, rfl, congrArg Value.bool (B_false (fun e => hb (e _ (gt_mem (by omega))))).symm⟩)
    · refine ND_again (ps.length - (i + 1)) _ _ _ (by first | omega | (simp only [List.length_append, List.length_cons, List.length_nil]; omega)) subG subF incF (⟨i + 1, by omega, rfl, fun j hj => ?_, rfl, rfl, rfl⟩)
      by_cases e : j = i
      · subst e; unfold PW.dig; omega
      · exact hg j (by omega)
  · repeat (refine wXh ?_)
    refine ND_ret1 (by first | exact .inl rfl | exact .inr rfl) rfl rfl _ _ subF incF (⟨rfl, rfl, congrArg Value.bool (B_true (all_snoc (fun j hj => hg j (by omega)))).symm⟩)
set_option maxRecDepth 100000 in
set_option maxHeartbeats 1000000 in
theorem gSlope_deg {c f p : PE} {k : Nat} (hk : k ≤ 4000000) (hc : Hv I0 (isP c k)) (hf : Hv I0 (isP f k)) (hp : Hv I0 (isP p k)) (hb : f.v.z0) :
    CD Tryz.prog 20 [pv c, pv f, pv p] X w0 M0 I0 (fun v M I => M0 = M ∧ I0 = I ∧ v = .tuple #[zR, .bool false, .int .i64 13]) := by
  have hZx := fun M0 I0 => gZero_ok (X := X) (w0 := w0) (M0 := M0) (I0 := I0) (a := f.x) (k := k) (by omega)
  have hZy := fun M0 I0 => gZero_ok (X := X) (w0 := w0) (M0 := M0) (I0 := I0) (a := f.y) (k := k) (by omega)
  rw [B_true (show f.x.q = 0 from hb.1)] at hZx
  rw [B_true (show f.y.q = 0 from hb.2)] at hZy
  refine CD_hv hc (CD_hv hf.cons (CD_hv hp.cons.cons ?_))
  refine enterD3 Tryz.func20 rfl Tryz.ntmps20 rfl ?_
  refine TD_seq ?_
  refine TD_region ?_
  (refine RD_boxA rfl rfl rfl ?_; intro b3; refine ⟨okF, ?_⟩)
  (refine RD_boxA rfl rfl rfl ?_; intro b4; refine ⟨okF, ?_⟩)
  (refine RD_boxA rfl rfl rfl ?_; intro b5; refine ⟨okF, ?_⟩)
  (refine RD_alloc rfl rfl ?_; intro b6; refine ⟨okF, ?_⟩)
  repeat (refine wXh ?_)
  (refine RD_callS rfl (hZx _ _ hvY) rfl rfl ?_; rintro _ _ _ ⟨rfl, rfl, rfl⟩; refine ⟨okF, ?_⟩)
  repeat (refine wXh ?_)
  (refine RD_callS rfl (hZy _ _ hvY) rfl rfl ?_; rintro _ _ _ ⟨rfl, rfl, rfl⟩; refine ⟨okF, ?_⟩)
  repeat (refine wXh ?_)
  (refine RD_c rfl (fun _ => Const_struct (pvs := ([]).zipIdx.map (fun p => (p.2, p.1))) (cells := zRc) rfl rfl) rfl rfl ?_)
  repeat (refine wXh ?_)
  refine ND_retsC (rs := [.cell 6 26, .tmp 7, .tmp 8]) (vs := [zR, .bool false, .int .i64 13]) (.inl rfl) rfl (.cellN (cs := zRc) inferInstance rfl memF rfl (.tmp rfl (.tmp rfl .nil))) rfl M0 I0 subF incF ⟨rfl, rfl, rfl⟩
set_option maxRecDepth 100000 in
set_option maxHeartbeats 2000000 in
theorem gSlope_beh {c f p : PE} {k : Nat} (hk : k ≤ 4000000) (hc : Hv I0 (isP c k)) (hf : Hv I0 (isP f k)) (hp : Hv I0 (isP p k)) (hb : ¬ f.v.z0) (h0 : ahd c.v f.v p.v = 0) :
    CD Tryz.prog 20 [pv c, pv f, pv p] X w0 M0 I0 (fun v M I => M0 = M ∧ I0 = I ∧ v = .tuple #[zR, .bool false, .int .i64 20]) := by
  have hZx := fun M0 I0 => gZero_ok (X := X) (w0 := w0) (M0 := M0) (I0 := I0) (a := f.x) (k := k) (by omega)
  have hZy := fun M0 I0 => gZero_ok (X := X) (w0 := w0) (M0 := M0) (I0 := I0) (a := f.y) (k := k) (by omega)
  have hMi := fun M0 I0 => gMinus_ok (X := X) (w0 := w0) (M0 := M0) (I0 := I0) (a := p) (b := c) (k := k) (m := k) (by omega)
  have hDo := fun p9 g M0 I0 => gDot_ok (X := X) (w0 := w0) (M0 := M0) (I0 := I0) (a := p9) (b := g) (k := k + k + 1) (m := k) (by omega)
  have hNg := fun M0 I0 => rQNeg_ok (X := X) (w0 := w0) (M0 := M0) (I0 := I0) (e := f.x) (k := k) (by omega)
  obtain ⟨z, hz⟩ : ∃ z, z = (k + k + 1 + k) + (k + k + 1 + k) + 1 := ⟨_, rfl⟩
  rw [← hz] at hDo
  have hZr := fun e M0 I0 => gZero_ok (X := X) (w0 := w0) (M0 := M0) (I0 := I0) (a := e) (k := z) (by omega)
  by_cases hx : f.x.q = 0
  · have hy : ¬ f.y.q = 0 := fun e => hb ⟨hx, e⟩
    rw [B_true hx] at hZx
    rw [B_false hy] at hZy
    refine CD_hv hc (CD_hv hf.cons (CD_hv hp.cons.cons ?_))
    refine enterD3 Tryz.func20 rfl Tryz.ntmps20 rfl ?_
    refine TD_seq ?_
    refine TD_region ?_
    (refine RD_boxA rfl rfl rfl ?_; intro b3; refine ⟨okF, ?_⟩)
    (refine RD_boxA rfl rfl rfl ?_; intro b4; refine ⟨okF, ?_⟩)
    (refine RD_boxA rfl rfl rfl ?_; intro b5; refine ⟨okF, ?_⟩)
    (refine RD_alloc rfl rfl ?_; intro b6; refine ⟨okF, ?_⟩)
    repeat (refine wXh ?_)
    (refine RD_callS rfl (hZx _ _ hvY) rfl rfl ?_; rintro _ _ _ ⟨rfl, rfl, rfl⟩; refine ⟨okF, ?_⟩)
    repeat (refine wXh ?_)
    (refine RD_callS rfl (hZy _ _ hvY) rfl rfl ?_; rintro _ _ _ ⟨rfl, rfl, rfl⟩; refine ⟨okF, ?_⟩)
    repeat (refine wXh ?_)
    (refine RD_callS rfl (hMi _ _ hvY hvY) rfl rfl ?_; rintro _ _ _ ⟨rfl, p9, rfl, hp9, rfl⟩; refine ⟨okF, ?_⟩)
    (refine RD_alloc rfl rfl ?_; intro b9; refine ⟨okF, ?_⟩)
    repeat (refine wXh ?_)
    refine TD_cutT (fun G M I => ∃ (b10 : Nat) (p10 : PE), p10.v = f.v.sd ∧ G = [(4, .pointer (some ⟨b4, 0, none⟩)), (6, .pointer (some ⟨b6, 0, none⟩)), (9, .pointer (some ⟨b9, 0, none⟩)), (10, .pointer (some ⟨b10, 0, none⟩))] ∧ M = .blk b10 (eP p10) 28 :: .blk b9 (eP p9) 28 :: .blk b6 zRc 26 :: .blk b4 (eP f) 28 :: M0 ∧ I = isP p10 k :: isP p9 (k + k + 1) :: isP p k :: isP f k :: isP c k :: I0) ?_ ?_
    · ((repeat refine TD_seq ?_); refine TD_rest (.blk b4 (eP f) 28 :: M0) (isP p9 (k + k + 1) :: isP p k :: isP f k :: isP c k :: I0) mixed ?_)
      refine ND_restPre (fuel := 4) (listed' := #[true, true, true, true, false, false, false, false]) [0, 1, 2, 3] [2, 2, 2, 1] subF incF (by kernel_rfl) (by kernel_rfl) rfl rfl ?_
      repeat (refine wXh ?_)
      refine ND_restFork (fuel := 3) (i := 4) (j := 6) (by kernel_rfl) ?_ ?_
      · (refine RD_callS rfl (hNg _ _ hvY) rfl rfl ?_; rintro _ _ _ ⟨rfl, e4, rfl, he4, rfl⟩; refine ⟨okF, ?_⟩)
        refine RD_nil ?_
        refine ND_restEnd [5, 6, 7] [1, 0, 0] subF incF (by kernel_rfl) (by kernel_rfl) rfl rfl ?_
        repeat (refine wXh ?_)
        (refine RD_c rfl (fun _ => Const_structC (vals := [rv f.y, rv e4]) (cells := eP ⟨f.y, e4⟩) rfl ?hpl rfl ?hz) rfl rfl ?_; (case hpl => repeat (first | exact True.intro | refine ⟨rfl, ?_⟩)); (case hz => rfl))
        repeat (refine wXh ?_)
        (refine RD_alloc rfl rfl ?_; intro b10; refine ⟨okF, ?_⟩)
        repeat (refine wXh ?_)
        refine ND_closeP (a := f.y) (b := e4) (k := k) hvY hvY (ND_cut _ _ _ subG subF incF ⟨b10, ⟨f.y, e4⟩, by simp only [PE.v, V2.sd, he4], rfl, rfl, rfl⟩)
      · (refine RD_alloc rfl rfl ?_; intro b10; refine ⟨okF, ?_⟩)
        refine RD_nil ?_
        refine ND_restEnd [4, 5, 7] [0, 0, 0] subF incF (by kernel_rfl) (by kernel_rfl) rfl rfl ?_
        repeat (refine wXh ?_)
        (refine RD_callS rfl (hNg _ _ hvY) rfl rfl ?_; rintro _ _ _ ⟨rfl, e4, rfl, he4, rfl⟩; refine ⟨okF, ?_⟩)
        repeat (refine wXh ?_)
        (refine RD_c rfl (fun _ => Const_structC (vals := [rv f.y, rv e4]) (cells := eP ⟨f.y, e4⟩) rfl ?hpl rfl ?hz) rfl rfl ?_; (case hpl => repeat (first | exact True.intro | refine ⟨rfl, ?_⟩)); (case hz => rfl))
        repeat (refine wXh ?_)
        refine ND_closeP (a := f.y) (b := e4) (k := k) hvY hvY (ND_cut _ _ _ subG subF incF ⟨b10, ⟨f.y, e4⟩, by simp only [PE.v, V2.sd, he4], rfl, rfl, rfl⟩)
    · rintro G M I ⟨b10, p10, hp10, rfl, rfl, rfl⟩
      repeat (refine wXh ?_)
      (refine RD_callS rfl (hDo p9 f _ _ hvY hvY) rfl rfl ?_; rintro _ _ _ ⟨rfl, e11, rfl, he11, rfl⟩; refine ⟨okF, ?_⟩)
      (refine RD_alloc rfl rfl ?_; intro b11; refine ⟨okF, ?_⟩)
      repeat (refine wXh ?_)
      have ea : e11.q = ahd c.v f.v p.v := by rw [he11, hp9]; rfl
      have hZ2 := fun M0 I0 => hZr e11 M0 I0
      rw [B_true (ea.trans h0)] at hZ2
      (refine RD_callS rfl (hZ2 _ _ hvY) rfl rfl ?_; rintro _ _ _ ⟨rfl, rfl, rfl⟩; refine ⟨okF, ?_⟩)
      repeat (refine wXh ?_)
      (refine RD_c rfl (fun _ => Const_struct (pvs := ([]).zipIdx.map (fun p => (p.2, p.1))) (cells := zRc) rfl rfl) rfl rfl ?_)
      repeat (refine wXh ?_)
      refine ND_retsC (rs := [.cell 6 26, .tmp 7, .tmp 8]) (vs := [zR, .bool false, .int .i64 20]) (.inl rfl) rfl (.cellN (cs := zRc) inferInstance rfl memF rfl (.tmp rfl (.tmp rfl .nil))) rfl M0 I0 subF incF ⟨rfl, rfl, rfl⟩
  · rw [B_false hx] at hZx
    refine CD_hv hc (CD_hv hf.cons (CD_hv hp.cons.cons ?_))
    refine enterD3 Tryz.func20 rfl Tryz.ntmps20 rfl ?_
    refine TD_seq ?_
    refine TD_region ?_
    (refine RD_boxA rfl rfl rfl ?_; intro b3; refine ⟨okF, ?_⟩)
    (refine RD_boxA rfl rfl rfl ?_; intro b4; refine ⟨okF, ?_⟩)
    (refine RD_boxA rfl rfl rfl ?_; intro b5; refine ⟨okF, ?_⟩)
    (refine RD_alloc rfl rfl ?_; intro b6; refine ⟨okF, ?_⟩)
    repeat (refine wXh ?_)
    (refine RD_callS rfl (hZx _ _ hvY) rfl rfl ?_; rintro _ _ _ ⟨rfl, rfl, rfl⟩; refine ⟨okF, ?_⟩)
    repeat (refine wXh ?_)
    (refine RD_callS rfl (hMi _ _ hvY hvY) rfl rfl ?_; rintro _ _ _ ⟨rfl, p9, rfl, hp9, rfl⟩; refine ⟨okF, ?_⟩)
    (refine RD_alloc rfl rfl ?_; intro b9; refine ⟨okF, ?_⟩)
    repeat (refine wXh ?_)
    refine TD_cutT (fun G M I => ∃ (b10 : Nat) (p10 : PE), p10.v = f.v.sd ∧ G = [(4, .pointer (some ⟨b4, 0, none⟩)), (6, .pointer (some ⟨b6, 0, none⟩)), (9, .pointer (some ⟨b9, 0, none⟩)), (10, .pointer (some ⟨b10, 0, none⟩))] ∧ M = .blk b10 (eP p10) 28 :: .blk b9 (eP p9) 28 :: .blk b6 zRc 26 :: .blk b4 (eP f) 28 :: M0 ∧ I = isP p10 k :: isP p9 (k + k + 1) :: isP p k :: isP f k :: isP c k :: I0) ?_ ?_
    · ((repeat refine TD_seq ?_); refine TD_rest (.blk b4 (eP f) 28 :: M0) (isP p9 (k + k + 1) :: isP p k :: isP f k :: isP c k :: I0) mixed ?_)
      refine ND_restPre (fuel := 4) (listed' := #[true, true, true, true, false, false, false, false]) [0, 1, 2, 3] [2, 2, 2, 1] subF incF (by kernel_rfl) (by kernel_rfl) rfl rfl ?_
      repeat (refine wXh ?_)
      refine ND_restFork (fuel := 3) (i := 4) (j := 6) (by kernel_rfl) ?_ ?_
      · (refine RD_callS rfl (hNg _ _ hvY) rfl rfl ?_; rintro _ _ _ ⟨rfl, e4, rfl, he4, rfl⟩; refine ⟨okF, ?_⟩)
        refine RD_nil ?_
        refine ND_restEnd [5, 6, 7] [1, 0, 0] subF incF (by kernel_rfl) (by kernel_rfl) rfl rfl ?_
        repeat (refine wXh ?_)
        (refine RD_c rfl (fun _ => Const_structC (vals := [rv f.y, rv e4]) (cells := eP ⟨f.y, e4⟩) rfl ?hpl rfl ?hz) rfl rfl ?_; (case hpl => repeat (first | exact True.intro | refine ⟨rfl, ?_⟩)); (case hz => rfl))
        repeat (refine wXh ?_)
        (refine RD_alloc rfl rfl ?_; intro b10; refine ⟨okF, ?_⟩)
        repeat (refine wXh ?_)
        refine ND_closeP (a := f.y) (b := e4) (k := k) hvY hvY (ND_cut _ _ _ subG subF incF ⟨b10, ⟨f.y, e4⟩, by simp only [PE.v, V2.sd, he4], rfl, rfl, rfl⟩)
      · (refine RD_alloc rfl rfl ?_; intro b10; refine ⟨okF, ?_⟩)
        refine RD_nil ?_
        refine ND_restEnd [4, 5, 7] [0, 0, 0] subF incF (by kernel_rfl) (by kernel_rfl) rfl rfl ?_
        repeat (refine wXh ?_)
        (refine RD_callS rfl (hNg _ _ hvY) rfl rfl ?_; rintro _ _ _ ⟨rfl, e4, rfl, he4, rfl⟩; refine ⟨okF, ?_⟩)
        repeat (refine wXh ?_)
        (refine RD_c rfl (fun _ => Const_structC (vals := [rv f.y, rv e4]) (cells := eP ⟨f.y, e4⟩) rfl ?hpl rfl ?hz) rfl rfl ?_; (case hpl => repeat (first | exact True.intro | refine ⟨rfl, ?_⟩)); (case hz => rfl))
        repeat (refine wXh ?_)
        refine ND_closeP (a := f.y) (b := e4) (k := k) hvY hvY (ND_cut _ _ _ subG subF incF ⟨b10, ⟨f.y, e4⟩, by simp only [PE.v, V2.sd, he4], rfl, rfl, rfl⟩)
    · rintro G M I ⟨b10, p10, hp10, rfl, rfl, rfl⟩
      repeat (refine wXh ?_)
      (refine RD_callS rfl (hDo p9 f _ _ hvY hvY) rfl rfl ?_; rintro _ _ _ ⟨rfl, e11, rfl, he11, rfl⟩; refine ⟨okF, ?_⟩)
      (refine RD_alloc rfl rfl ?_; intro b11; refine ⟨okF, ?_⟩)
      repeat (refine wXh ?_)
      have ea : e11.q = ahd c.v f.v p.v := by rw [he11, hp9]; rfl
      have hZ2 := fun M0 I0 => hZr e11 M0 I0
      rw [B_true (ea.trans h0)] at hZ2
      (refine RD_callS rfl (hZ2 _ _ hvY) rfl rfl ?_; rintro _ _ _ ⟨rfl, rfl, rfl⟩; refine ⟨okF, ?_⟩)
      repeat (refine wXh ?_)
      (refine RD_c rfl (fun _ => Const_struct (pvs := ([]).zipIdx.map (fun p => (p.2, p.1))) (cells := zRc) rfl rfl) rfl rfl ?_)
      repeat (refine wXh ?_)
      refine ND_retsC (rs := [.cell 6 26, .tmp 7, .tmp 8]) (vs := [zR, .bool false, .int .i64 20]) (.inl rfl) rfl (.cellN (cs := zRc) inferInstance rfl memF rfl (.tmp rfl (.tmp rfl .nil))) rfl M0 I0 subF incF ⟨rfl, rfl, rfl⟩
set_option maxRecDepth 100000 in
set_option maxHeartbeats 2000000 in
theorem gSlope_ok {c f p : PE} {k : Nat} (hk : k ≤ 4000000) (hc : Hv I0 (isP c k)) (hf : Hv I0 (isP f k)) (hp : Hv I0 (isP p k)) (hb : ¬ f.v.z0) (h0 : ahd c.v f.v p.v ≠ 0) :
    CD Tryz.prog 20 [pv c, pv f, pv p] X w0 M0 I0 (fun v M I => M0 = M ∧ ∃ e : RE, v = .tuple #[rv e, .bool (B (0 < ahd c.v f.v p.v)), .int .i64 0] ∧ e.q = slp c.v f.v p.v ∧ I = isR e (12 * k + 6) :: I0) := by
  have hZx := fun M0 I0 => gZero_ok (X := X) (w0 := w0) (M0 := M0) (I0 := I0) (a := f.x) (k := k) (by omega)
  have hZy := fun M0 I0 => gZero_ok (X := X) (w0 := w0) (M0 := M0) (I0 := I0) (a := f.y) (k := k) (by omega)
  have hMi := fun M0 I0 => gMinus_ok (X := X) (w0 := w0) (M0 := M0) (I0 := I0) (a := p) (b := c) (k := k) (m := k) (by omega)
  have hDo := fun p9 g M0 I0 => gDot_ok (X := X) (w0 := w0) (M0 := M0) (I0 := I0) (a := p9) (b := g) (k := k + k + 1) (m := k) (by omega)
  have hNg := fun M0 I0 => rQNeg_ok (X := X) (w0 := w0) (M0 := M0) (I0 := I0) (e := f.x) (k := k) (by omega)
  obtain ⟨z, hz⟩ : ∃ z, z = (k + k + 1 + k) + (k + k + 1 + k) + 1 := ⟨_, rfl⟩
  rw [← hz] at hDo
  have hZr := fun e M0 I0 => gZero_ok (X := X) (w0 := w0) (M0 := M0) (I0 := I0) (a := e) (k := z) (by omega)
  have hDv := fun e4 e5 M0 I0 (hb0 : e5.q ≠ 0) => gDiv_ok (X := X) (w0 := w0) (M0 := M0) (I0 := I0) (a := e4) (b := e5) (k := z) (m := z) (by omega) hb0
  have hSg := fun e4 M0 I0 => rQSign_ok (X := X) (w0 := w0) (M0 := M0) (I0 := I0) (e := e4) (k := z) (by omega)
  by_cases hx : f.x.q = 0
  · have hy : ¬ f.y.q = 0 := fun e => hb ⟨hx, e⟩
    rw [B_true hx] at hZx
    rw [B_false hy] at hZy
    refine CD_hv hc (CD_hv hf.cons (CD_hv hp.cons.cons ?_))
    refine enterD3 Tryz.func20 rfl Tryz.ntmps20 rfl ?_
    refine TD_seq ?_
    refine TD_region ?_
    (refine RD_boxA rfl rfl rfl ?_; intro b3; refine ⟨okF, ?_⟩)
    (refine RD_boxA rfl rfl rfl ?_; intro b4; refine ⟨okF, ?_⟩)
    (refine RD_boxA rfl rfl rfl ?_; intro b5; refine ⟨okF, ?_⟩)
    (refine RD_alloc rfl rfl ?_; intro b6; refine ⟨okF, ?_⟩)
    repeat (refine wXh ?_)
    (refine RD_callS rfl (hZx _ _ hvY) rfl rfl ?_; rintro _ _ _ ⟨rfl, rfl, rfl⟩; refine ⟨okF, ?_⟩)
    repeat (refine wXh ?_)
    (refine RD_callS rfl (hZy _ _ hvY) rfl rfl ?_; rintro _ _ _ ⟨rfl, rfl, rfl⟩; refine ⟨okF, ?_⟩)
    repeat (refine wXh ?_)
    (refine RD_callS rfl (hMi _ _ hvY hvY) rfl rfl ?_; rintro _ _ _ ⟨rfl, p9, rfl, hp9, rfl⟩; refine ⟨okF, ?_⟩)
    (refine RD_alloc rfl rfl ?_; intro b9; refine ⟨okF, ?_⟩)
    repeat (refine wXh ?_)
    refine TD_cutT (fun G M I => ∃ (b10 : Nat) (p10 : PE), p10.v = f.v.sd ∧ G = [(4, .pointer (some ⟨b4, 0, none⟩)), (6, .pointer (some ⟨b6, 0, none⟩)), (9, .pointer (some ⟨b9, 0, none⟩)), (10, .pointer (some ⟨b10, 0, none⟩))] ∧ M = .blk b10 (eP p10) 28 :: .blk b9 (eP p9) 28 :: .blk b6 zRc 26 :: .blk b4 (eP f) 28 :: M0 ∧ I = isP p10 k :: isP p9 (k + k + 1) :: isP p k :: isP f k :: isP c k :: I0) ?_ ?_
    · ((repeat refine TD_seq ?_); refine TD_rest (.blk b4 (eP f) 28 :: M0) (isP p9 (k + k + 1) :: isP p k :: isP f k :: isP c k :: I0) mixed ?_)
      refine ND_restPre (fuel := 4) (listed' := #[true, true, true, true, false, false, false, false]) [0, 1, 2, 3] [2, 2, 2, 1] subF incF (by kernel_rfl) (by kernel_rfl) rfl rfl ?_
      repeat (refine wXh ?_)
      refine ND_restFork (fuel := 3) (i := 4) (j := 6) (by kernel_rfl) ?_ ?_
      · (refine RD_callS rfl (hNg _ _ hvY) rfl rfl ?_; rintro _ _ _ ⟨rfl, e4, rfl, he4, rfl⟩; refine ⟨okF, ?_⟩)
        refine RD_nil ?_
        refine ND_restEnd [5, 6, 7] [1, 0, 0] subF incF (by kernel_rfl) (by kernel_rfl) rfl rfl ?_
        repeat (refine wXh ?_)
        (refine RD_c rfl (fun _ => Const_structC (vals := [rv f.y, rv e4]) (cells := eP ⟨f.y, e4⟩) rfl ?hpl rfl ?hz) rfl rfl ?_; (case hpl => repeat (first | exact True.intro | refine ⟨rfl, ?_⟩)); (case hz => rfl))
        repeat (refine wXh ?_)
        (refine RD_alloc rfl rfl ?_; intro b10; refine ⟨okF, ?_⟩)
        repeat (refine wXh ?_)
        refine ND_closeP (a := f.y) (b := e4) (k := k) hvY hvY (ND_cut _ _ _ subG subF incF ⟨b10, ⟨f.y, e4⟩, by simp only [PE.v, V2.sd, he4], rfl, rfl, rfl⟩)
      · (refine RD_alloc rfl rfl ?_; intro b10; refine ⟨okF, ?_⟩)
        refine RD_nil ?_
        refine ND_restEnd [4, 5, 7] [0, 0, 0] subF incF (by kernel_rfl) (by kernel_rfl) rfl rfl ?_
        repeat (refine wXh ?_)
        (refine RD_callS rfl (hNg _ _ hvY) rfl rfl ?_; rintro _ _ _ ⟨rfl, e4, rfl, he4, rfl⟩; refine ⟨okF, ?_⟩)
        repeat (refine wXh ?_)
        (refine RD_c rfl (fun _ => Const_structC (vals := [rv f.y, rv e4]) (cells := eP ⟨f.y, e4⟩) rfl ?hpl rfl ?hz) rfl rfl ?_; (case hpl => repeat (first | exact True.intro | refine ⟨rfl, ?_⟩)); (case hz => rfl))
        repeat (refine wXh ?_)
        refine ND_closeP (a := f.y) (b := e4) (k := k) hvY hvY (ND_cut _ _ _ subG subF incF ⟨b10, ⟨f.y, e4⟩, by simp only [PE.v, V2.sd, he4], rfl, rfl, rfl⟩)
    · rintro G M I ⟨b10, p10, hp10, rfl, rfl, rfl⟩
      repeat (refine wXh ?_)
      (refine RD_callS rfl (hDo p9 f _ _ hvY hvY) rfl rfl ?_; rintro _ _ _ ⟨rfl, e11, rfl, he11, rfl⟩; refine ⟨okF, ?_⟩)
      (refine RD_alloc rfl rfl ?_; intro b11; refine ⟨okF, ?_⟩)
      repeat (refine wXh ?_)
      have ea : e11.q = ahd c.v f.v p.v := by rw [he11, hp9]; rfl
      have hZ2 := fun M0 I0 => hZr e11 M0 I0
      have hne : e11.q ≠ 0 := by rw [ea]; exact h0
      rw [B_false hne] at hZ2
      (refine RD_callS rfl (hZ2 _ _ hvY) rfl rfl ?_; rintro _ _ _ ⟨rfl, rfl, rfl⟩; refine ⟨okF, ?_⟩)
      repeat (refine wXh ?_)
      (repeat refine TD_seq ?_); refine TD_drawnW (.blk b11 (eR e11) 26 :: .blk b10 (eP p10) 28 :: .blk b9 (eP p9) 28 :: M0) (isR e11 z :: isP p10 k :: isP p9 (k + k + 1) :: isP p k :: isP f k :: isP c k :: I0) [0, 1, 3, 5, 2, 4, 6, 7, 8, 9, 10] [2, 2, 2, 3, 0, 0, 0, 1, 0, 0, 0] subF incF mixed (by kernel_rfl) ?_
      repeat (refine wXh ?_)
      (refine RD_callS rfl (hDo p9 p10 _ _ hvY hvY) rfl rfl ?_; rintro _ _ _ ⟨rfl, e12, rfl, he12, rfl⟩; refine ⟨okF, ?_⟩)
      repeat (refine wXh ?_)
      (refine RD_callS rfl (hDv e12 e11 _ _ hne hvY hvY) rfl rfl ?_; rintro _ _ _ ⟨rfl, e13, rfl, he13, rfl⟩; refine ⟨okF, ?_⟩)
      repeat (refine wXh ?_)
      (refine RD_callS rfl (hSg e11 _ _ hvY) rfl rfl ?_; rintro _ _ _ ⟨rfl, rfl, rfl⟩; refine ⟨okF, ?_⟩)
      repeat (refine wXh ?_)
      refine ND_hv (φ := isR e13 (12 * k + 6)) hvY ?_
      refine ND_retsC (rs := [.cell 6 26, .tmp 7, .tmp 8]) (vs := [rv e13, .bool (B (0 < e11.q.num.sign)), .int .i64 0]) (.inl rfl) rfl (.cellN (cs := eR e13) inferInstance rfl memF rfl (.tmp rfl (.tmp rfl .nil))) rfl M0 (isR e13 (12 * k + 6) :: I0) subF incF ⟨rfl, e13, ?_, ?_, rfl⟩
      · rw [B_congr sgnP, ea]
      · rw [he13, he12, hp9, hp10, ea]; rfl
  · rw [B_false hx] at hZx
    refine CD_hv hc (CD_hv hf.cons (CD_hv hp.cons.cons ?_))
    refine enterD3 Tryz.func20 rfl Tryz.ntmps20 rfl ?_
    refine TD_seq ?_
    refine TD_region ?_
    (refine RD_boxA rfl rfl rfl ?_; intro b3; refine ⟨okF, ?_⟩)
    (refine RD_boxA rfl rfl rfl ?_; intro b4; refine ⟨okF, ?_⟩)
    (refine RD_boxA rfl rfl rfl ?_; intro b5; refine ⟨okF, ?_⟩)
    (refine RD_alloc rfl rfl ?_; intro b6; refine ⟨okF, ?_⟩)
    repeat (refine wXh ?_)
    (refine RD_callS rfl (hZx _ _ hvY) rfl rfl ?_; rintro _ _ _ ⟨rfl, rfl, rfl⟩; refine ⟨okF, ?_⟩)
    repeat (refine wXh ?_)
    (refine RD_callS rfl (hMi _ _ hvY hvY) rfl rfl ?_; rintro _ _ _ ⟨rfl, p9, rfl, hp9, rfl⟩; refine ⟨okF, ?_⟩)
    (refine RD_alloc rfl rfl ?_; intro b9; refine ⟨okF, ?_⟩)
    repeat (refine wXh ?_)
    refine TD_cutT (fun G M I => ∃ (b10 : Nat) (p10 : PE), p10.v = f.v.sd ∧ G = [(4, .pointer (some ⟨b4, 0, none⟩)), (6, .pointer (some ⟨b6, 0, none⟩)), (9, .pointer (some ⟨b9, 0, none⟩)), (10, .pointer (some ⟨b10, 0, none⟩))] ∧ M = .blk b10 (eP p10) 28 :: .blk b9 (eP p9) 28 :: .blk b6 zRc 26 :: .blk b4 (eP f) 28 :: M0 ∧ I = isP p10 k :: isP p9 (k + k + 1) :: isP p k :: isP f k :: isP c k :: I0) ?_ ?_
    · ((repeat refine TD_seq ?_); refine TD_rest (.blk b4 (eP f) 28 :: M0) (isP p9 (k + k + 1) :: isP p k :: isP f k :: isP c k :: I0) mixed ?_)
      refine ND_restPre (fuel := 4) (listed' := #[true, true, true, true, false, false, false, false]) [0, 1, 2, 3] [2, 2, 2, 1] subF incF (by kernel_rfl) (by kernel_rfl) rfl rfl ?_
      repeat (refine wXh ?_)
      refine ND_restFork (fuel := 3) (i := 4) (j := 6) (by kernel_rfl) ?_ ?_
      · (refine RD_callS rfl (hNg _ _ hvY) rfl rfl ?_; rintro _ _ _ ⟨rfl, e4, rfl, he4, rfl⟩; refine ⟨okF, ?_⟩)
        refine RD_nil ?_
        refine ND_restEnd [5, 6, 7] [1, 0, 0] subF incF (by kernel_rfl) (by kernel_rfl) rfl rfl ?_
        repeat (refine wXh ?_)
        (refine RD_c rfl (fun _ => Const_structC (vals := [rv f.y, rv e4]) (cells := eP ⟨f.y, e4⟩) rfl ?hpl rfl ?hz) rfl rfl ?_; (case hpl => repeat (first | exact True.intro | refine ⟨rfl, ?_⟩)); (case hz => rfl))
        repeat (refine wXh ?_)
        (refine RD_alloc rfl rfl ?_; intro b10; refine ⟨okF, ?_⟩)
        repeat (refine wXh ?_)
        refine ND_closeP (a := f.y) (b := e4) (k := k) hvY hvY (ND_cut _ _ _ subG subF incF ⟨b10, ⟨f.y, e4⟩, by simp only [PE.v, V2.sd, he4], rfl, rfl, rfl⟩)
      · (refine RD_alloc rfl rfl ?_; intro b10; refine ⟨okF, ?_⟩)
        refine RD_nil ?_
        refine ND_restEnd [4, 5, 7] [0, 0, 0] subF incF (by kernel_rfl) (by kernel_rfl) rfl rfl ?_
        repeat (refine wXh ?_)
        (refine RD_callS rfl (hNg _ _ hvY) rfl rfl ?_; rintro _ _ _ ⟨rfl, e4, rfl, he4, rfl⟩; refine ⟨okF, ?_⟩)
        repeat (refine wXh ?_)
        (refine RD_c rfl (fun _ => Const_structC (vals := [rv f.y, rv e4]) (cells := eP ⟨f.y, e4⟩) rfl ?hpl rfl ?hz) rfl rfl ?_; (case hpl => repeat (first | exact True.intro | refine ⟨rfl, ?_⟩)); (case hz => rfl))
        repeat (refine wXh ?_)
        refine ND_closeP (a := f.y) (b := e4) (k := k) hvY hvY (ND_cut _ _ _ subG subF incF ⟨b10, ⟨f.y, e4⟩, by simp only [PE.v, V2.sd, he4], rfl, rfl, rfl⟩)
    · rintro G M I ⟨b10, p10, hp10, rfl, rfl, rfl⟩
      repeat (refine wXh ?_)
      (refine RD_callS rfl (hDo p9 f _ _ hvY hvY) rfl rfl ?_; rintro _ _ _ ⟨rfl, e11, rfl, he11, rfl⟩; refine ⟨okF, ?_⟩)
      (refine RD_alloc rfl rfl ?_; intro b11; refine ⟨okF, ?_⟩)
      repeat (refine wXh ?_)
      have ea : e11.q = ahd c.v f.v p.v := by rw [he11, hp9]; rfl
      have hZ2 := fun M0 I0 => hZr e11 M0 I0
      have hne : e11.q ≠ 0 := by rw [ea]; exact h0
      rw [B_false hne] at hZ2
      (refine RD_callS rfl (hZ2 _ _ hvY) rfl rfl ?_; rintro _ _ _ ⟨rfl, rfl, rfl⟩; refine ⟨okF, ?_⟩)
      repeat (refine wXh ?_)
      (repeat refine TD_seq ?_); refine TD_drawnW (.blk b11 (eR e11) 26 :: .blk b10 (eP p10) 28 :: .blk b9 (eP p9) 28 :: M0) (isR e11 z :: isP p10 k :: isP p9 (k + k + 1) :: isP p k :: isP f k :: isP c k :: I0) [0, 1, 3, 5, 2, 4, 6, 7, 8, 9, 10] [2, 2, 2, 3, 0, 0, 0, 1, 0, 0, 0] subF incF mixed (by kernel_rfl) ?_
      repeat (refine wXh ?_)
      (refine RD_callS rfl (hDo p9 p10 _ _ hvY hvY) rfl rfl ?_; rintro _ _ _ ⟨rfl, e12, rfl, he12, rfl⟩; refine ⟨okF, ?_⟩)
      repeat (refine wXh ?_)
      (refine RD_callS rfl (hDv e12 e11 _ _ hne hvY hvY) rfl rfl ?_; rintro _ _ _ ⟨rfl, e13, rfl, he13, rfl⟩; refine ⟨okF, ?_⟩)
      repeat (refine wXh ?_)
      (refine RD_callS rfl (hSg e11 _ _ hvY) rfl rfl ?_; rintro _ _ _ ⟨rfl, rfl, rfl⟩; refine ⟨okF, ?_⟩)
      repeat (refine wXh ?_)
      refine ND_hv (φ := isR e13 (12 * k + 6)) hvY ?_
      refine ND_retsC (rs := [.cell 6 26, .tmp 7, .tmp 8]) (vs := [rv e13, .bool (B (0 < e11.q.num.sign)), .int .i64 0]) (.inl rfl) rfl (.cellN (cs := eR e13) inferInstance rfl memF rfl (.tmp rfl (.tmp rfl .nil))) rfl M0 (isR e13 (12 * k + 6) :: I0) subF incF ⟨rfl, e13, ?_, ?_, rfl⟩
      · rw [B_congr sgnP, ea]
      · rw [he13, he12, hp9, hp10, ea]; rfl
end
end Go.Proofs.YtdmlebigkakplaaGreat
