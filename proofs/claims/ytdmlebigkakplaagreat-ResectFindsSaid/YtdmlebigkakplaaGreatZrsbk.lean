/- resect.Plane where there is not exactly one position. Arguments, opened: slices of records, structs with slices. -/
import Derived.Test.YtdmlebigkakplaaGreatZrsbj
import Derived.Test.YtdmlebigkakplaaGreatZrsbg
import Derived.Test.YtdmlebigkakplaaGreatZrsac
import Derived.Test.YtdmlebigkakplaaGreatZrsag
set_option linter.unusedSimpArgs false
set_option linter.unusedVariables false
namespace Go.Proofs.YtdmlebigkakplaaGreat
open Go Go.Fx
section
variable {X : List Nat} {w0 : World} {M0 : List Ent} {I0 : List Imm}
set_option maxRecDepth 100000 in
set_option maxHeartbeats 4000000 in
theorem Plane_deg {p0 p1 p2 : PE} {s0 s1 s2 : RE} {k s K : Nat} (hK : K = 136 * s + 96 * k + 200) (hk : 2 * K + s + k ≤ 4000000) (h0 : Hv I0 (isP p0 k)) (h1 : Hv I0 (isP p1 k)) (h2 : Hv I0 (isP p2 k)) (g0 : Hv I0 (isR s0 s)) (g1 : Hv I0 (isR s1 s)) (g2 : Hv I0 (isR s2 s))
    (hd : plD p0.v p1.v p2.v s0.q s1.q s2.q = 0) :
    CD Tryz.prog 24 [.agg (recs eP [p0, p1, p2]).toArray, .agg (recs eR [s0, s1, s2]).toArray] X w0 M0 I0 (fun v M I => M0 = M ∧ I0 = I ∧ v = .tuple #[zP, zP, .int .i64 13]) := by
  refine CD_fact (φ := (p0.raw.small ∧ p1.raw.small ∧ p2.raw.small) ∧ s0.raw.small ∧ s1.raw.small ∧ s2.raw.small) (fun w hw => ⟨⟨Mem.pureP h0 (by omega) hw, Mem.pureP h1 (by omega) hw, Mem.pureP h2 (by omega) hw⟩, Mem.pureR g0 (by omega) hw, Mem.pureR g1 (by omega) hw, Mem.pureR g2 (by omega) hw⟩) (fun hs => ?_)
  have hV := fun q M0 I0 h1 => valid_ok (X := X) (w0 := w0) (M0 := M0) (I0 := I0) (q := q) (c := 3) (m := 3) (ps := [p0.raw, p1.raw, p2.raw]) rfl (by simp) (all3 hs.1.1 hs.1.2.1 hs.1.2.2) h1
  rw [B_true (show ∀ x ∈ [p0.raw, p1.raw, p2.raw], x.good from all3 p0.raw_good p1.raw_good p2.raw_good)] at hV
  have hVc := fun q M0 I0 h1 => canonical_ok (X := X) (w0 := w0) (M0 := M0) (I0 := I0) (q := q) (c := 3) (m := 3) (ps := [s0.raw, s1.raw, s2.raw]) rfl (by simp) (all3R hs.2.1 hs.2.2.1 hs.2.2.2) h1
  rw [B_true (show ∀ x ∈ [s0.raw, s1.raw, s2.raw], x.good from all3R s0.raw_good s1.raw_good s2.raw_good)] at hVc
  have hMi := fun a b M0 I0 => pMinus_ok (X := X) (w0 := w0) (M0 := M0) (I0 := I0) (a := a) (b := b) (k := k) (m := k) (by omega)
  have hCo := fun p a b M0 I0 => condition_ok (X := X) (w0 := w0) (M0 := M0) (I0 := I0) (p := p) (own := a) (org := b) (k := k + k + 1) (s := s) (by omega)
  obtain ⟨kb, hkb⟩ : ∃ kb, kb = 4 * s + 2 * (k + k + 1) + 3 := ⟨_, rfl⟩
  rw [← hkb] at hCo
  have hMe := fun c0 c1 M0 I0 => meet_no (X := X) (w0 := w0) (M0 := M0) (I0 := I0) (c0 := c0) (c1 := c1) (k := kb) (by omega)
  refine CD_hv (Hv.pw3 (h0.toPW (by omega)) (h1.toPW (by omega)) (h2.toPW (by omega))) (CD_hv (Hv.w3 (g0.toW (by omega)) (g1.toW (by omega)) (g2.toW (by omega))).cons (CD_hv (Hv.p3 h0 h1 h2).cons.cons (CD_hv h0.cons.cons.cons (CD_hv h1.cons.cons.cons.cons (CD_hv h2.cons.cons.cons.cons.cons (CD_hv g0.cons.cons.cons.cons.cons.cons (CD_hv g1.cons.cons.cons.cons.cons.cons.cons (CD_hv g2.cons.cons.cons.cons.cons.cons.cons.cons ?_))))))))
  generalize hI1 : isR s2 s :: isR s1 s :: isR s0 s :: isP p2 k :: isP p1 k :: isP p0 k :: allP [p0, p1, p2] k :: allW [s0.raw, s1.raw, s2.raw] :: allPW [p0.raw, p1.raw, p2.raw] :: I0 = I1
  have f0 : isP p0 k ∈ I1 := by rw [← hI1]; exact memF
  have f1 : isP p1 k ∈ I1 := by rw [← hI1]; exact memF
  have f2 : isP p2 k ∈ I1 := by rw [← hI1]; exact memF
  have f3 : isR s0 s ∈ I1 := by rw [← hI1]; exact memF
  have f4 : isR s1 s ∈ I1 := by rw [← hI1]; exact memF
  have f5 : isR s2 s ∈ I1 := by rw [← hI1]; exact memF
  have f6 : allP [p0, p1, p2] k ∈ I1 := by rw [← hI1]; exact memF
  have f7 : allW [s0.raw, s1.raw, s2.raw] ∈ I1 := by rw [← hI1]; exact memF
  have f8 : allPW [p0.raw, p1.raw, p2.raw] ∈ I1 := by rw [← hI1]; exact memF
  have f9 : Inc I1 I0 := by rw [← hI1]; exact incF
  clear hI1
  have fP0 := fun (ψ : Imm) (I : List Imm) (h : ψ ∈ I1) => h
  refine enterD2 Tryz.func24 rfl Tryz.ntmps24 rfl ?_
  refine TD_seq ?_
  refine TD_region ?_
  (refine RD_boxA rfl rfl rfl ?_; intro b2; refine ⟨okF, ?_⟩)
  (refine RD_boxA rfl rfl rfl ?_; intro b3; refine ⟨okF, ?_⟩)
  (refine RD_alloc rfl rfl ?_; intro b4; refine ⟨okF, ?_⟩)
  (refine RD_alloc rfl rfl ?_; intro b5; refine ⟨okF, ?_⟩)
  refine RD_freezeB (b := b2) remF ?_
  refine RD_freezeB (b := b3) remF ?_
  repeat (refine wXh ?_)
  refine RD_c rfl (fun _ => Const_sliceA rfl) rfl rfl ?_
  (refine RD_callS rfl (hV _ _ _ (List.Mem.tail _ (List.Mem.head _)) (Hv.mem (List.Mem.tail _ (List.Mem.tail _ f8)))) rfl rfl ?_; rintro _ _ _ ⟨rfl, rfl, rfl⟩; refine ⟨okF, ?_⟩)
  repeat (refine wXh ?_)
  refine RD_c rfl (fun _ => Const_sliceA rfl) rfl rfl ?_
  (refine RD_callS rfl (hVc _ _ _ (List.Mem.head _) (Hv.mem (List.Mem.tail _ (List.Mem.tail _ f7)))) rfl rfl ?_; rintro _ _ _ ⟨rfl, rfl, rfl⟩; refine ⟨okF, ?_⟩)
  repeat (refine wXh ?_)
  (refine RD_alloc rfl rfl ?_; intro b7; refine ⟨okF, ?_⟩)
  repeat (refine wXh ?_)
  refine TD_cutT (fun G M I => ∃ (b8 b9 : Nat) (q8 q9 : PE), q8.v = p0.v.sub p1.v ∧ q9.v = p2.v.sub p1.v ∧ G = [(2, .pointer (some ⟨b2, 0, none⟩)), (3, .pointer (some ⟨b3, 0, none⟩)), (4, .pointer (some ⟨b4, 0, none⟩)), (5, .pointer (some ⟨b5, 0, none⟩)), (7, .pointer (some ⟨b7, 0, none⟩)), (8, .pointer (some ⟨b8, 0, none⟩)), (9, .pointer (some ⟨b9, 0, none⟩))] ∧ M = .blk b9 (eP q9) 28 :: .blk b8 (eP q8) 28 :: .blk b7 (eP p1) 28 :: .blk b5 zPc 28 :: .blk b4 zPc 28 :: M0 ∧ I = isP q9 (k + k + 1) :: isP q8 (k + k + 1) :: slI (some ⟨b3, 0, none⟩) (recs eR [s0, s1, s2]) :: slI (some ⟨b2, 0, none⟩) (recs eP [p0, p1, p2]) :: I1) ?_ ?_
  · ((repeat refine TD_seq ?_); refine TD_rest (.blk b7 (eP p1) 28 :: M0) (slI (some ⟨b3, 0, none⟩) (recs eR [s0, s1, s2]) :: slI (some ⟨b2, 0, none⟩) (recs eP [p0, p1, p2]) :: I1) mixed ?_)
    refine ND_restPre (fuel := 6) (listed' := #[true, true, true, false, true, true, true, false, false, false, false, false]) [0, 1, 2, 4, 5, 6] [4, 3, 3, 5, 4, 4] subF incF (by kernel_rfl) (by kernel_rfl) rfl rfl ?_
    repeat (refine wXh ?_)
    refine ND_restFork3 (fuel := 5) (i := 3) (j := 8) (m := 9) (by kernel_rfl) ?_ ?_ ?_
    · (refine RD_callS rfl (hMi p0 p1 _ _ hvY hvY) rfl rfl ?_; rintro _ _ _ ⟨rfl, q8, rfl, hq8, rfl⟩; refine ⟨okF, ?_⟩)
      refine RD_nil ?_
      repeat (refine wXh ?_)
      refine ND_restFork3 (fuel := 4) (i := 7) (j := 8) (m := 9) (by kernel_rfl) ?_ ?_ ?_
      · (refine RD_callS rfl (hMi p2 p1 _ _ hvY hvY) rfl rfl ?_; rintro _ _ _ ⟨rfl, q9, rfl, hq9, rfl⟩; refine ⟨okF, ?_⟩)
        refine RD_nil ?_
        repeat (refine wXh ?_)
        refine ND_restFork (fuel := 3) (i := 8) (j := 9) (by kernel_rfl) ?_ ?_
        · (refine RD_alloc rfl rfl ?_; intro b8; refine ⟨okF, ?_⟩)
          refine RD_nil ?_
          refine ND_restEnd [9, 10, 11] [0, 0, 0] subF incF (by kernel_rfl) (by kernel_rfl) rfl rfl ?_
          repeat (refine wXh ?_)
          (refine RD_alloc rfl rfl ?_; intro b9; refine ⟨okF, ?_⟩)
          repeat (refine wXh ?_)
          refine ND_cut _ _ _ subG subF incF ⟨b8, b9, q8, q9, hq8, hq9, rfl, rfl, rfl⟩
        · (refine RD_alloc rfl rfl ?_; intro b9; refine ⟨okF, ?_⟩)
          refine RD_nil ?_
          refine ND_restEnd [8, 10, 11] [0, 0, 0] subF incF (by kernel_rfl) (by kernel_rfl) rfl rfl ?_
          repeat (refine wXh ?_)
          (refine RD_alloc rfl rfl ?_; intro b8; refine ⟨okF, ?_⟩)
          repeat (refine wXh ?_)
          refine ND_cut _ _ _ subG subF incF ⟨b8, b9, q8, q9, hq8, hq9, rfl, rfl, rfl⟩
      · (refine RD_alloc rfl rfl ?_; intro b8; refine ⟨okF, ?_⟩)
        refine RD_nil ?_
        repeat (refine wXh ?_)
        refine ND_restFork (fuel := 3) (i := 7) (j := 9) (by kernel_rfl) ?_ ?_
        · (refine RD_callS rfl (hMi p2 p1 _ _ hvY hvY) rfl rfl ?_; rintro _ _ _ ⟨rfl, q9, rfl, hq9, rfl⟩; refine ⟨okF, ?_⟩)
          refine RD_nil ?_
          refine ND_restEnd [9, 10, 11] [0, 0, 0] subF incF (by kernel_rfl) (by kernel_rfl) rfl rfl ?_
          repeat (refine wXh ?_)
          (refine RD_alloc rfl rfl ?_; intro b9; refine ⟨okF, ?_⟩)
          repeat (refine wXh ?_)
          refine ND_cut _ _ _ subG subF incF ⟨b8, b9, q8, q9, hq8, hq9, rfl, rfl, rfl⟩
        · (refine RD_alloc rfl rfl ?_; intro b9; refine ⟨okF, ?_⟩)
          refine RD_nil ?_
          refine ND_restEnd [7, 10, 11] [0, 0, 0] subF incF (by kernel_rfl) (by kernel_rfl) rfl rfl ?_
          repeat (refine wXh ?_)
          (refine RD_callS rfl (hMi p2 p1 _ _ hvY hvY) rfl rfl ?_; rintro _ _ _ ⟨rfl, q9, rfl, hq9, rfl⟩; refine ⟨okF, ?_⟩)
          repeat (refine wXh ?_)
          refine ND_cut _ _ _ subG subF incF ⟨b8, b9, q8, q9, hq8, hq9, rfl, rfl, rfl⟩
      · (refine RD_alloc rfl rfl ?_; intro b9; refine ⟨okF, ?_⟩)
        refine RD_nil ?_
        repeat (refine wXh ?_)
        refine ND_restFork (fuel := 3) (i := 7) (j := 8) (by kernel_rfl) ?_ ?_
        · (refine RD_callS rfl (hMi p2 p1 _ _ hvY hvY) rfl rfl ?_; rintro _ _ _ ⟨rfl, q9, rfl, hq9, rfl⟩; refine ⟨okF, ?_⟩)
          refine RD_nil ?_
          refine ND_restEnd [8, 10, 11] [0, 0, 0] subF incF (by kernel_rfl) (by kernel_rfl) rfl rfl ?_
          repeat (refine wXh ?_)
          (refine RD_alloc rfl rfl ?_; intro b8; refine ⟨okF, ?_⟩)
          repeat (refine wXh ?_)
          refine ND_cut _ _ _ subG subF incF ⟨b8, b9, q8, q9, hq8, hq9, rfl, rfl, rfl⟩
        · (refine RD_alloc rfl rfl ?_; intro b8; refine ⟨okF, ?_⟩)
          refine RD_nil ?_
          refine ND_restEnd [7, 10, 11] [0, 0, 0] subF incF (by kernel_rfl) (by kernel_rfl) rfl rfl ?_
          repeat (refine wXh ?_)
          (refine RD_callS rfl (hMi p2 p1 _ _ hvY hvY) rfl rfl ?_; rintro _ _ _ ⟨rfl, q9, rfl, hq9, rfl⟩; refine ⟨okF, ?_⟩)
          repeat (refine wXh ?_)
          refine ND_cut _ _ _ subG subF incF ⟨b8, b9, q8, q9, hq8, hq9, rfl, rfl, rfl⟩
    · (refine RD_alloc rfl rfl ?_; intro b8; refine ⟨okF, ?_⟩)
      refine RD_nil ?_
      repeat (refine wXh ?_)
      refine ND_restFork (fuel := 4) (i := 3) (j := 9) (by kernel_rfl) ?_ ?_
      · (refine RD_callS rfl (hMi p0 p1 _ _ hvY hvY) rfl rfl ?_; rintro _ _ _ ⟨rfl, q8, rfl, hq8, rfl⟩; refine ⟨okF, ?_⟩)
        refine RD_nil ?_
        repeat (refine wXh ?_)
        refine ND_restFork (fuel := 3) (i := 7) (j := 9) (by kernel_rfl) ?_ ?_
        · (refine RD_callS rfl (hMi p2 p1 _ _ hvY hvY) rfl rfl ?_; rintro _ _ _ ⟨rfl, q9, rfl, hq9, rfl⟩; refine ⟨okF, ?_⟩)
          refine RD_nil ?_
          refine ND_restEnd [9, 10, 11] [0, 0, 0] subF incF (by kernel_rfl) (by kernel_rfl) rfl rfl ?_
          repeat (refine wXh ?_)
          (refine RD_alloc rfl rfl ?_; intro b9; refine ⟨okF, ?_⟩)
          repeat (refine wXh ?_)
          refine ND_cut _ _ _ subG subF incF ⟨b8, b9, q8, q9, hq8, hq9, rfl, rfl, rfl⟩
        · (refine RD_alloc rfl rfl ?_; intro b9; refine ⟨okF, ?_⟩)
          refine RD_nil ?_
          refine ND_restEnd [7, 10, 11] [0, 0, 0] subF incF (by kernel_rfl) (by kernel_rfl) rfl rfl ?_
          repeat (refine wXh ?_)
          (refine RD_callS rfl (hMi p2 p1 _ _ hvY hvY) rfl rfl ?_; rintro _ _ _ ⟨rfl, q9, rfl, hq9, rfl⟩; refine ⟨okF, ?_⟩)
          repeat (refine wXh ?_)
          refine ND_cut _ _ _ subG subF incF ⟨b8, b9, q8, q9, hq8, hq9, rfl, rfl, rfl⟩
      · (refine RD_alloc rfl rfl ?_; intro b9; refine ⟨okF, ?_⟩)
        refine RD_nil ?_
        refine ND_restEnd [3, 7, 10, 11] [0, 0, 0, 0] subF incF (by kernel_rfl) (by kernel_rfl) rfl rfl ?_
        repeat (refine wXh ?_)
        (refine RD_callS rfl (hMi p0 p1 _ _ hvY hvY) rfl rfl ?_; rintro _ _ _ ⟨rfl, q8, rfl, hq8, rfl⟩; refine ⟨okF, ?_⟩)
        repeat (refine wXh ?_)
        (refine RD_callS rfl (hMi p2 p1 _ _ hvY hvY) rfl rfl ?_; rintro _ _ _ ⟨rfl, q9, rfl, hq9, rfl⟩; refine ⟨okF, ?_⟩)
        repeat (refine wXh ?_)
        refine ND_cut _ _ _ subG subF incF ⟨b8, b9, q8, q9, hq8, hq9, rfl, rfl, rfl⟩
    · (refine RD_alloc rfl rfl ?_; intro b9; refine ⟨okF, ?_⟩)
      refine RD_nil ?_
      repeat (refine wXh ?_)
      refine ND_restFork (fuel := 4) (i := 3) (j := 8) (by kernel_rfl) ?_ ?_
      · (refine RD_callS rfl (hMi p0 p1 _ _ hvY hvY) rfl rfl ?_; rintro _ _ _ ⟨rfl, q8, rfl, hq8, rfl⟩; refine ⟨okF, ?_⟩)
        refine RD_nil ?_
        repeat (refine wXh ?_)
        refine ND_restFork (fuel := 3) (i := 7) (j := 8) (by kernel_rfl) ?_ ?_
        · (refine RD_callS rfl (hMi p2 p1 _ _ hvY hvY) rfl rfl ?_; rintro _ _ _ ⟨rfl, q9, rfl, hq9, rfl⟩; refine ⟨okF, ?_⟩)
          refine RD_nil ?_
          refine ND_restEnd [8, 10, 11] [0, 0, 0] subF incF (by kernel_rfl) (by kernel_rfl) rfl rfl ?_
          repeat (refine wXh ?_)
          (refine RD_alloc rfl rfl ?_; intro b8; refine ⟨okF, ?_⟩)
          repeat (refine wXh ?_)
          refine ND_cut _ _ _ subG subF incF ⟨b8, b9, q8, q9, hq8, hq9, rfl, rfl, rfl⟩
        · (refine RD_alloc rfl rfl ?_; intro b8; refine ⟨okF, ?_⟩)
          refine RD_nil ?_
          refine ND_restEnd [7, 10, 11] [0, 0, 0] subF incF (by kernel_rfl) (by kernel_rfl) rfl rfl ?_
          repeat (refine wXh ?_)
          (refine RD_callS rfl (hMi p2 p1 _ _ hvY hvY) rfl rfl ?_; rintro _ _ _ ⟨rfl, q9, rfl, hq9, rfl⟩; refine ⟨okF, ?_⟩)
          repeat (refine wXh ?_)
          refine ND_cut _ _ _ subG subF incF ⟨b8, b9, q8, q9, hq8, hq9, rfl, rfl, rfl⟩
      · (refine RD_alloc rfl rfl ?_; intro b8; refine ⟨okF, ?_⟩)
        refine RD_nil ?_
        refine ND_restEnd [3, 7, 10, 11] [0, 0, 0, 0] subF incF (by kernel_rfl) (by kernel_rfl) rfl rfl ?_
        repeat (refine wXh ?_)
        (refine RD_callS rfl (hMi p0 p1 _ _ hvY hvY) rfl rfl ?_; rintro _ _ _ ⟨rfl, q8, rfl, hq8, rfl⟩; refine ⟨okF, ?_⟩)
        repeat (refine wXh ?_)
        (refine RD_callS rfl (hMi p2 p1 _ _ hvY hvY) rfl rfl ?_; rintro _ _ _ ⟨rfl, q9, rfl, hq9, rfl⟩; refine ⟨okF, ?_⟩)
        repeat (refine wXh ?_)
        refine ND_cut _ _ _ subG subF incF ⟨b8, b9, q8, q9, hq8, hq9, rfl, rfl, rfl⟩
  · rintro G M I ⟨b8, b9, q8, q9, hq8, hq9, rfl, rfl, rfl⟩
    refine TD_cut (fun G M I => ∃ (b10 : Nat), G = (11, .bool false) :: [(2, .pointer (some ⟨b2, 0, none⟩)), (3, .pointer (some ⟨b3, 0, none⟩)), (4, .pointer (some ⟨b4, 0, none⟩)), (5, .pointer (some ⟨b5, 0, none⟩)), (7, .pointer (some ⟨b7, 0, none⟩)), (8, .pointer (some ⟨b8, 0, none⟩)), (9, .pointer (some ⟨b9, 0, none⟩)), (10, .pointer (some ⟨b10, 0, none⟩))] ∧ M = .blk b10 zPc 28 :: .blk b9 (eP q9) 28 :: .blk b8 (eP q8) 28 :: .blk b7 (eP p1) 28 :: .blk b5 zPc 28 :: .blk b4 zPc 28 :: M0 ∧ I = slI (some ⟨b3, 0, none⟩) (recs eR [s0, s1, s2]) :: slI (some ⟨b2, 0, none⟩) (recs eP [p0, p1, p2]) :: I1) ?_ ?_
    · have hMe2 : ∀ (c0 c1 : CE) M0 I0, c0.b.v = cnB q8.v s0.q s1.q → c1.b.v = cnB q9.v s2.q s1.q → _ → _ → CD Tryz.prog 112 [.agg (recs eC [c0, c1]).toArray] X w0 M0 I0 (fun v M I => M0 = M ∧ I0 = I ∧ v = .tuple #[zP, .bool false]) := fun c0 c1 M0 I0 e2 e4 a1 a2 => by
        have hh := hMe c0 c1 M0 I0 a1 a2
        rw [e2, e4, hq8, hq9] at hh
        exact hh hd
      ((repeat refine TD_seq ?_); refine TD_rest (.blk b9 (eP q9) 28 :: .blk b8 (eP q8) 28 :: M0) (isP q9 (k + k + 1) :: isP q8 (k + k + 1) :: slI (some ⟨b3, 0, none⟩) (recs eR [s0, s1, s2]) :: slI (some ⟨b2, 0, none⟩) (recs eP [p0, p1, p2]) :: I1) mixed ?_)
      refine ND_restPre (fuel := 10) (listed' := #[true, true, true, true, true, false, true, true, true, true, true, false, false, false, false, false, false, false, false, false]) [0, 1, 2, 3, 4, 6, 7, 8, 9, 10] [3, 4, 3, 4, 3, 3, 4, 3, 4, 3] subF incF (by kernel_rfl) (by kernel_rfl) rfl rfl ?_
      repeat (refine wXh ?_)
      refine ND_restFork (fuel := 9) (i := 5) (j := 17) (by kernel_rfl) ?_ ?_
      · (refine RD_callS rfl (hCo q8 s0 s1 _ _ hvY hvY hvY) rfl rfl ?_; rintro _ _ _ ⟨rfl, c0, rfl, ha0, hb0, rfl⟩; refine ⟨okF, ?_⟩)
        refine RD_nil ?_
        repeat (refine wXh ?_)
        refine ND_restFork (fuel := 8) (i := 11) (j := 17) (by kernel_rfl) ?_ ?_
        · (refine RD_callS rfl (hCo q9 s2 s1 _ _ hvY hvY hvY) rfl rfl ?_; rintro _ _ _ ⟨rfl, c1, rfl, ha1, hb1, rfl⟩; refine ⟨okF, ?_⟩)
          refine RD_nil ?_
          refine ND_restPre (fuel := 7) (listed' := #[true, true, true, true, true, true, true, true, true, true, true, true, true, false, false, false, false, false, false, false]) [12] [1] subF incF (by kernel_rfl) (by kernel_rfl) rfl rfl ?_
          repeat (refine wXh ?_)
          (refine RD_c rfl (fun _ => Const_arrC (vals := [cv c0, cv c1]) (cells := recs eC [c0, c1]) rfl ?hpl rfl ?hz) rfl rfl ?_; (case hpl => exact (by intro v hv; repeat (first | exact absurd hv (List.not_mem_nil) | (rcases List.mem_cons.1 hv with rfl | hv; · rfl)))); (case hz => rfl))
          repeat (refine wXh ?_)
          refine ND_restFork (fuel := 6) (i := 13) (j := 17) (by kernel_rfl) ?_ ?_
          · (refine RD_callS rfl (hMe2 c0 c1 _ _ hb0 hb1 hvY hvY) rfl rfl ?_; rintro _ _ _ ⟨rfl, rfl, rfl⟩; refine ⟨okF, ?_⟩)
            refine RD_nil ?_
            refine ND_restEnd [14, 15, 16, 17, 18, 19] [1, 1, 2, 0, 0, 0] subF incF (by kernel_rfl) (by kernel_rfl) rfl rfl ?_
            repeat (refine wXh ?_)
            (refine RD_alloc rfl rfl ?_; intro b10; refine ⟨okF, ?_⟩)
            repeat (refine wXh ?_)
            refine ND_cut _ _ _ subG subF incF ⟨b10, rfl, rfl, rfl⟩
          · (refine RD_alloc rfl rfl ?_; intro b10; refine ⟨okF, ?_⟩)
            refine RD_nil ?_
            refine ND_restEnd [13, 14, 15, 16, 18, 19] [0, 0, 0, 1, 0, 0] subF incF (by kernel_rfl) (by kernel_rfl) rfl rfl ?_
            repeat (refine wXh ?_)
            (refine RD_callS rfl (hMe2 c0 c1 _ _ hb0 hb1 hvY hvY) rfl rfl ?_; rintro _ _ _ ⟨rfl, rfl, rfl⟩; refine ⟨okF, ?_⟩)
            repeat (refine wXh ?_)
            refine ND_cut _ _ _ subG subF incF ⟨b10, rfl, rfl, rfl⟩
        · (refine RD_alloc rfl rfl ?_; intro b10; refine ⟨okF, ?_⟩)
          refine RD_nil ?_
          refine ND_restEnd [11, 12, 13, 14, 15, 16, 18, 19] [0, 0, 0, 0, 0, 1, 0, 0] subF incF (by kernel_rfl) (by kernel_rfl) rfl rfl ?_
          repeat (refine wXh ?_)
          (refine RD_callS rfl (hCo q9 s2 s1 _ _ hvY hvY hvY) rfl rfl ?_; rintro _ _ _ ⟨rfl, c1, rfl, ha1, hb1, rfl⟩; refine ⟨okF, ?_⟩)
          repeat (refine wXh ?_)
          (refine RD_c rfl (fun _ => Const_arrC (vals := [cv c0, cv c1]) (cells := recs eC [c0, c1]) rfl ?hpl rfl ?hz) rfl rfl ?_; (case hpl => exact (by intro v hv; repeat (first | exact absurd hv (List.not_mem_nil) | (rcases List.mem_cons.1 hv with rfl | hv; · rfl)))); (case hz => rfl))
          repeat (refine wXh ?_)
          (refine RD_callS rfl (hMe2 c0 c1 _ _ hb0 hb1 hvY hvY) rfl rfl ?_; rintro _ _ _ ⟨rfl, rfl, rfl⟩; refine ⟨okF, ?_⟩)
          repeat (refine wXh ?_)
          refine ND_cut _ _ _ subG subF incF ⟨b10, rfl, rfl, rfl⟩
      · (refine RD_alloc rfl rfl ?_; intro b10; refine ⟨okF, ?_⟩)
        refine RD_nil ?_
        refine ND_restEnd [5, 11, 12, 13, 14, 15, 16, 18, 19] [0, 0, 0, 0, 0, 0, 1, 0, 0] subF incF (by kernel_rfl) (by kernel_rfl) rfl rfl ?_
        repeat (refine wXh ?_)
        (refine RD_callS rfl (hCo q8 s0 s1 _ _ hvY hvY hvY) rfl rfl ?_; rintro _ _ _ ⟨rfl, c0, rfl, ha0, hb0, rfl⟩; refine ⟨okF, ?_⟩)
        repeat (refine wXh ?_)
        (refine RD_callS rfl (hCo q9 s2 s1 _ _ hvY hvY hvY) rfl rfl ?_; rintro _ _ _ ⟨rfl, c1, rfl, ha1, hb1, rfl⟩; refine ⟨okF, ?_⟩)
        repeat (refine wXh ?_)
        (refine RD_c rfl (fun _ => Const_arrC (vals := [cv c0, cv c1]) (cells := recs eC [c0, c1]) rfl ?hpl rfl ?hz) rfl rfl ?_; (case hpl => exact (by intro v hv; repeat (first | exact absurd hv (List.not_mem_nil) | (rcases List.mem_cons.1 hv with rfl | hv; · rfl)))); (case hz => rfl))
        repeat (refine wXh ?_)
        (refine RD_callS rfl (hMe2 c0 c1 _ _ hb0 hb1 hvY hvY) rfl rfl ?_; rintro _ _ _ ⟨rfl, rfl, rfl⟩; refine ⟨okF, ?_⟩)
        repeat (refine wXh ?_)
        refine ND_cut _ _ _ subG subF incF ⟨b10, rfl, rfl, rfl⟩
    · rintro G M I ⟨b10, rfl, rfl, rfl⟩
      repeat (refine wXh ?_)
      (refine RD_c rfl (fun _ => Const_struct (pvs := ([]).zipIdx.map (fun p => (p.2, p.1))) (cells := zPc) rfl rfl) rfl rfl ?_)
      (refine RD_c rfl (fun _ => Const_struct (pvs := ([]).zipIdx.map (fun p => (p.2, p.1))) (cells := zPc) rfl rfl) rfl rfl ?_)
      repeat (refine wXh ?_)
      refine ND_retsC (rs := [.cell 4 28, .cell 5 28, .tmp 6]) (vs := [zP, zP, .int .i64 13]) (.inl rfl) rfl (.cellN (cs := zPc) inferInstance rfl memF rfl (.cellN (cs := zPc) inferInstance rfl memF rfl (.tmp rfl .nil))) rfl M0 I0 subF (.of (fun φ hp => List.mem_cons_of_mem _ (List.mem_cons_of_mem _ (f9.mem φ hp)))) ⟨rfl, rfl, rfl⟩
end
end Go.Proofs.YtdmlebigkakplaaGreat
namespace Go.Fx
open Go.ChangeShapes Go.WideShapes Go.RowKit Go.ChangeAt

section
variable {H : Type} {enc : TypeId × Value → H} {P : Program} {W : World}

theorem flat_inv {sz : Nat} : ∀ (rows : List (List Value)) (k : Nat) (v : Value), (∀ r ∈ rows, r.length = sz) → rows.flatten[k]? = some v → ∃ i row, rows[i]? = some row ∧ i * sz ≤ k ∧ row[k - i * sz]? = some v
  | [], k, v, _, h => by simp at h
  | r :: rows, k, v, hr, h => by
    rw [List.flatten_cons] at h
    have hl := hr r (by simp)
    by_cases hk : k < r.length
    · rw [List.getElem?_append_left hk] at h
      exact ⟨0, r, by simp, by omega, by simpa using h⟩
    · rw [List.getElem?_append_right (by omega)] at h
      obtain ⟨i, row, h1, h2, h3⟩ := flat_inv rows _ v (fun r' hr' => hr r' (by simp [hr'])) h
      refine ⟨i + 1, row, by simpa using h1, by rw [Nat.add_mul]; omega, ?_⟩
      rw [← h3]
      congr 1
      rw [Nat.add_mul]; omega

/-- a slice's cells, row by row -/
theorem open_rows {base fuel : Nat} {t e : TypeId} {v : Value} {x : DataW H × List MemPlace} (ht : P.underlying t = some (.slice e)) (hv : Value.okWide P W .any base t v) (h : DataW.trod enc P W 0 (fun _ => true) true fuel t v.cells.toList = some x) :
    ∃ (a : Option Addr) (len c : Nat), v = .slice a len c ∧ (len : Int) ≤ 9223372036854775807 ∧ len ≤ c ∧ (Ok a ∨ (a = none ∧ len = 0 ∧ c = 0)) ∧
      ∃ rows : List (List Value), rows.length = len ∧ (∀ r ∈ rows, r.length = P.cellsOf e ∧ ∃ n y, DataW.trod enc P W 0 (fun _ => true) true n e r = some y) ∧ Sl [] W a rows.flatten := by
  obtain ⟨a, len, c, rfl⟩ := okWide_slice ht hv
  obtain ⟨h1, h2, h3⟩ := slice_ok ht hv
  refine ⟨a, len, c, rfl, h1, h2, h3, ?_⟩
  rcases DataW.trod_slice ht h with ⟨hcs, _⟩ | ⟨a', len', cap', elems, rest, n, _, hcs, _, _, _, _, hlen, hel, _, _⟩
  · simp [Value.cells] at hcs
    obtain ⟨rfl, rfl, rfl⟩ := hcs
    exact ⟨[], rfl, by simp, Sl.nil _ _ _⟩
  · simp [Value.cells] at hcs
    obtain ⟨rfl, rfl, rfl⟩ := hcs
    have hok : Ok (some a') := h3.resolve_right (by simp)
    have each : ∀ i, i < len → ∃ cs y, W.cells? 0 (a'.add (i * P.cellsOf e)) (P.cellsOf e) = some cs ∧ DataW.trod enc P W 0 (fun _ => true) true n e cs = some y := fun i hi => by
      have := hel i hi
      rw [List.getElem?_eq_getElem (by omega), Option.bind_eq_some_iff] at this
      obtain ⟨cs, h1, h2⟩ := this
      exact ⟨cs, _, h1, h2⟩
    refine ⟨(List.range len).map (fun i => (W.cells? 0 (a'.add (i * P.cellsOf e)) (P.cellsOf e)).getD []), by simp, ?_, ?_⟩
    · intro r hr
      obtain ⟨i, hi, rfl⟩ := List.mem_map.1 hr
      obtain ⟨cs, y, h4, h5⟩ := each i (by simpa using hi)
      rw [h4]
      exact ⟨(World.cells?_some h4).2.1, n, y, h5⟩
    · intro j v hj
      have hall : ∀ r ∈ (List.range len).map (fun i => (W.cells? 0 (a'.add (i * P.cellsOf e)) (P.cellsOf e)).getD []), r.length = P.cellsOf e := by
        intro r hr
        obtain ⟨i, hi, rfl⟩ := List.mem_map.1 hr
        obtain ⟨cs, y, h4, h5⟩ := each i (by simpa using hi)
        rw [h4]
        exact (World.cells?_some h4).2.1
      obtain ⟨i, row, h4, h5, h6⟩ := flat_inv _ j v hall hj
      rw [List.getElem?_map] at h4
      obtain ⟨i', hi', rfl⟩ := Option.map_eq_some_iff.1 h4
      have hii : i' = i ∧ i < len := by
        obtain ⟨q1, q2⟩ := List.getElem?_eq_some_iff.1 hi'
        rw [List.getElem_range] at q2
        exact ⟨q2.symm, by simpa using q1⟩
      obtain ⟨rfl, hil⟩ := hii
      obtain ⟨cs, y, h7, h8⟩ := each i' hil
      rw [h7] at h6
      simp only [Option.getD_some] at h6
      obtain ⟨_, hl, hc⟩ := World.cells?_some h7
      have hlt : j - i' * P.cellsOf e < P.cellsOf e := by
        have := (List.getElem?_eq_some_iff.1 h6).1
        omega
      have hcell := hc _ hlt
      rw [h6] at hcell
      refine ⟨hok, by simp, ?_⟩
      obtain ⟨b, o, eq⟩ := hok.cases
      injection eq with eq
      subst eq
      rw [add_lit, add_lit] at hcell
      rw [← hcell]
      simp only [pt, bl, of, Option.getD_some]
      congr 2
      omega
/-- a slice of records -/
theorem open_sliceM {α : Type} {en : α → List Value} {Pm : α → Prop} {base : Nat} {t e : TypeId} {v : Value} {d : DataW H} {p : List MemPlace} (ht : P.underlying t = some (.slice e)) (hdec : ∀ (r : List Value) n y, r.length = P.cellsOf e → DataW.trod enc P W 0 (fun _ => true) true n e r = some y → ∃ m, r = en m ∧ Pm m)
    (hv : Value.okWide P W .any base t v) (h : DataW.Trod enc P W 0 (fun _ => true) true t v d p) :
    ∃ (a : Option Addr) (ms : List α) (c : Nat), v = .slice a ms.length c ∧ Sl [] W a (recs en ms) ∧ (∀ m ∈ ms, Pm m) ∧ (ms.length : Int) ≤ 9223372036854775807 ∧ ms.length ≤ c ∧ (Ok a ∨ (a = none ∧ ms.length = 0 ∧ c = 0)) := by
  obtain ⟨fuel, hf⟩ := h
  obtain ⟨a, len, c, rfl, h1, h2, h3, rows, hl, hr, hs⟩ := open_rows ht hv hf
  have key : ∀ rows : List (List Value), (∀ r ∈ rows, r.length = P.cellsOf e ∧ ∃ n y, DataW.trod enc P W 0 (fun _ => true) true n e r = some y) → ∃ ms : List α, rows = ms.map en ∧ ∀ m ∈ ms, Pm m := by
    intro rows
    induction rows with
    | nil => intro _; exact ⟨[], rfl, by simp⟩
    | cons r rows ih =>
      intro hr
      obtain ⟨hrl, n, y, hy⟩ := hr r (by simp)
      obtain ⟨m, rfl, hm⟩ := hdec r n y hrl hy
      obtain ⟨ms, rfl, hms⟩ := ih (fun r' hr' => hr r' (by simp [hr']))
      exact ⟨m :: ms, rfl, fun m' hm' => by
        rcases List.mem_cons.1 hm' with rfl | hm'
        · exact hm
        · exact hms m' hm'⟩
  obtain ⟨ms, rfl, hms⟩ := key rows hr
  have hlen : ms.length = len := by simpa using hl
  subst hlen
  refine ⟨a, ms, c, rfl, ?_, hms, h1, h2, h3⟩
  rw [← List.flatMap_def] at hs
  exact hs
/-- a struct, cell by cell -/
theorem open_struct {base : Nat} {t : TypeId} {v : Value} {d : DataW H} {p : List MemPlace} {fs : Array Field} (ht : P.underlying t = some (.struct fs)) (hv : Value.okWide P W .any base t v) (h : DataW.Trod enc P W 0 (fun _ => true) true t v d p) :
    ∃ cs : List Value, v = .agg cs.toArray ∧ cs.length = P.cellsOf t ∧ Row.okWide P W .any base t cs.toArray ∧ ∀ (i : Nat) (f : Field), fs[i]? = some f → ∃ n y, DataW.trod enc P W 0 (fun _ => true) true n f.type ((cs.drop f.offset).take (P.cellsOf f.type)) = some y := by
  simp only [Value.okWide, ht] at hv
  obtain ⟨cs, rfl, hsz, hrow⟩ := hv
  obtain ⟨fuel, hf⟩ := h
  obtain ⟨xs, n, rfl, _, hl, hxl, hx⟩ := DataW.trod_struct ht hf
  refine ⟨cs.toList, by simp, by simpa using hsz, by simpa using hrow, fun i f hfi => ?_⟩
  have hi : i < fs.size := (Array.getElem?_eq_some_iff.1 hfi).1
  have := hx i f hfi
  rw [List.getElem?_eq_getElem (by omega)] at this
  exact ⟨n, _, this⟩
theorem dec_int {t : TypeId} {k : IntKind} {n : Nat} {cs : List Value} {y : DataW H × List MemPlace} (ht : P.underlying t = some (.int k)) (h : DataW.trod enc P W 0 (fun _ => true) true n t cs = some y) : ∃ x : Int, cs = [.int k x] ∧ (Lit.int k x).wf = true := by
  obtain ⟨m, h1, _, h2⟩ := DataW.trod_int ht h
  exact ⟨m, h1, h2⟩
/-- a record of ints of one kind -/
theorem dec_ints {t : TypeId} {k : IntKind} {m n : Nat} {cs : List Value} {y : DataW H × List MemPlace} {fs : Array Field} (ht : P.underlying t = some (.struct fs)) (hf : fs.toList.map (fun (f : Field) => (f.offset, P.cellsOf f.type)) = (List.range m).map (fun i => (i, 1))) (hk : ∀ f ∈ fs.toList, P.underlying f.type = some (.int k)) (hl : cs.length = m)
    (h : DataW.trod enc P W 0 (fun _ => true) true n t cs = some y) : ∃ xs : List Int, cs = xs.map (Value.int k) ∧ xs.length = m ∧ ∀ x ∈ xs, (Lit.int k x).wf = true := by
  obtain ⟨zs, n', rfl, _, _, hzl, hz⟩ := DataW.trod_struct ht h
  have each : ∀ i, i < m → ∃ x : Int, cs[i]? = some (.int k x) ∧ (Lit.int k x).wf = true := fun i hi => by
    have hsz : fs.toList.length = m := by have := congrArg List.length hf; simpa using this
    obtain ⟨f, hfi⟩ : ∃ f, fs.toList[i]? = some f := ⟨_, List.getElem?_eq_getElem (by omega)⟩
    have hoff : (f.offset, P.cellsOf f.type) = (i, 1) := by
      have : (fs.toList.map (fun f => (f.offset, P.cellsOf f.type)))[i]? = some (f.offset, P.cellsOf f.type) := by rw [List.getElem?_map, hfi]; rfl
      rw [hf, List.getElem?_map, List.getElem?_range hi] at this
      simpa using this.symm
    injection hoff with ho hc
    have hf2 : fs[i]? = some f := by simpa using hfi
    have := hz i f hf2
    rw [List.getElem?_eq_getElem (by rw [hzl]; exact (Array.getElem?_eq_some_iff.1 hf2).1), ho, hc] at this
    obtain ⟨x, hx, hw⟩ := dec_int (hk f (List.mem_of_getElem? hfi)) this
    refine ⟨x, ?_, hw⟩
    have : ((cs.drop i).take 1)[0]? = some (.int k x) := by rw [hx]; rfl
    rw [List.getElem?_take, if_pos (by omega), List.getElem?_drop] at this
    simpa using this
  refine ⟨cs.map (fun v => match v with | .int _ x => x | _ => 0), ?_, by simpa using hl, ?_⟩
  · apply List.ext_getElem
    · simp
    · intro i h1 h2
      obtain ⟨x, hx, _⟩ := each i (by omega)
      have : cs[i] = .int k x := by
        have := (List.getElem?_eq_some_iff.1 hx).2
        exact this
      simp [this]
  · intro x hx
    obtain ⟨v, hv, rfl⟩ := List.mem_map.1 hx
    obtain ⟨i, hi, rfl⟩ := List.mem_iff_getElem.1 hv
    obtain ⟨y, hy, hw⟩ := each i (by omega)
    have : cs[i] = .int k y := (List.getElem?_eq_some_iff.1 hy).2
    rw [this]
    exact hw
theorem three_of {xs : List Int} (h : xs.length = 3) : ∃ a b c, xs = [a, b, c] := by
  match xs, h with
  | [a, b, c], _ => exact ⟨a, b, c, rfl⟩
theorem Mem.startS {W : World} {I : List Imm} {a : Option Addr} {cs : List Value} (h : Mem [] W [] I W) (hs : Sl [] W a cs) : Mem [] W [] (slI a cs :: I) W := h.add (φ := slI a cs) ⟨hs⟩
end
end Go.Fx
