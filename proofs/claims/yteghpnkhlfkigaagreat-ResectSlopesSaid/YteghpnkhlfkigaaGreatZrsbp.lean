/- resect.Plane where there is not exactly one position. -/
import Derived.Test.YteghpnkhlfkigaaGreatZrsbo
import Derived.Test.YteghpnkhlfkigaaGreatZrsbk
set_option linter.unusedSimpArgs false
set_option linter.unusedVariables false
namespace Go.Proofs.YteghpnkhlfkigaaGreat
open Go Go.Fx
section
variable {X : List Nat} {w0 : World} {M0 : List Ent} {I0 : List Imm}
set_option maxRecDepth 100000 in
set_option maxHeartbeats 4000000 in
theorem Plane_deg {p0 p1 p2 : PE} {s0 s1 s2 : RE} {k s K : Nat} (hK : K = 136 * s + 96 * k + 200) (hk : 2 * K + s + k ≤ 4000000) (h0 : Hv I0 (isP p0 k)) (h1 : Hv I0 (isP p1 k)) (h2 : Hv I0 (isP p2 k)) (g0 : Hv I0 (isR s0 s)) (g1 : Hv I0 (isR s1 s)) (g2 : Hv I0 (isR s2 s))
    (hd : plD p0.v p1.v p2.v s0.q s1.q s2.q = 0) :
    CD Tryz.prog 24 [.agg (recs eP [p0, p1, p2]).toArray, .agg (recs eR [s0, s1, s2]).toArray] X w0 M0 I0 (fun v M I => M0 = M ∧ I0 = I ∧ v = .tuple #[zP, zP, .int .i64 13]) := by
  refine CD_fact (φ := (p0.raw.small ∧ p1.raw.small ∧ p2.raw.small) ∧ s0.raw.small ∧ s1.raw.small ∧ s2.raw.small) (fun w hw => ⟨⟨Mem.pureP h0 (by omega) hw, Mem.pureP h1 (by omega) hw, Mem.pureP h2 (by omega) hw⟩, Mem.pureR g0 (by omega) hw, Mem.pureR g1 (by omega) hw, Mem.pureR g2 (by omega) hw⟩) (fun hs => ?_)
  have hV := fun q M0 I0 h1 => valid_ok (X := X) (w0 := w0) (M0 := M0) (I0 := I0) (q := q) (c := 3) (m := 3) (ps := [p0.raw, p1.raw, p2.raw]) rfl (by simp) (all3 hs.1.1 hs.1.2.1 hs.1.2.2) h1
  rw [B_true (show ∀ x ∈ [p0.raw, p1.raw, p2.raw], x.good from all3 p0.raw_good p1.raw_good p2.raw_good)] at hV
  have hVc := fun q M0 I0 h1 => canonical_ok (X := X) (w0 := w0) (M0 := M0) (I0 := I0) (q := q) (c := 3) (m := 3) (ps := [s0.raw, s1.raw, s2.raw]) rfl (by simp) (all3R hs.2.1 hs.2.2.1 hs.2.2.2) h1
  rw [B_true (show ∀ x ∈ [s0.raw, s1.raw, s2.raw], x.good from all3R s0.raw_good s1.raw_good s2.raw_good)] at hVc
  have hMi := fun a b M0 I0 => pMinus_ok (X := X) (w0 := w0) (M0 := M0) (I0 := I0) (a := a) (b := b) (k := k) (m := k) (by omega)
  have hCo := fun p a b M0 I0 => condition_ok (X := X) (w0 := w0) (M0 := M0) (I0 := I0) (p := p) (own := a) (org := b) (k := k + k + 1) (s := s) (by omega)
  obtain ⟨kb, hkb⟩ : ∃ kb, kb = 4 * s + 2 * (k + k + 1) + 3 := ⟨_, rfl⟩
  rw [← hkb] at hCo
  have hMe := fun c0 c1 M0 I0 => meet_no (X := X) (w0 := w0) (M0 := M0) (I0 := I0) (c0 := c0) (c1 := c1) (k := kb) (by omega)
  refine CD_hv (Hv.pw3 (h0.toPW (by omega)) (h1.toPW (by omega)) (h2.toPW (by omega))) (CD_hv (Hv.w3 (g0.toW (by omega)) (g1.toW (by omega)) (g2.toW (by omega))).cons (CD_hv (Hv.p3 h0 h1 h2).cons.cons (CD_hv h0.cons.cons.cons (CD_hv h1.cons.cons.cons.cons (CD_hv h2.cons.cons.cons.cons.cons (CD_hv g0.cons.cons.cons.cons.cons.cons (CD_hv g1.cons.cons.cons.cons.cons.cons.cons (CD_hv g2.cons.cons.cons.cons.cons.cons.cons.cons ?_))))))))
  generalize hI1 : isR s2 s :: isR s1 s :: isR s0 s :: isP p2 k :: isP p1 k :: isP p0 k :: allP [p0, p1, p2] k :: allW [s0.raw, s1.raw, s2.raw] :: allPW [p0.raw, p1.raw, p2.raw] :: I0 = I1
  have f0 : isP p0 k ∈ I1 := by rw [← hI1]; exact memF
  have f1 : isP p1 k ∈ I1 := by rw [← hI1]; exact memF
  have f2 : isP p2 k ∈ I1 := by rw [← hI1]; exact memF
  have f3 : isR s0 s ∈ I1 := by rw [← hI1]; exact memF
  have f4 : isR s1 s ∈ I1 := by rw [← hI1]; exact memF
  have f5 : isR s2 s ∈ I1 := by rw [← hI1]; exact memF
  have f6 : allP [p0, p1, p2] k ∈ I1 := by rw [← hI1]; exact memF
  have f7 : allW [s0.raw, s1.raw, s2.raw] ∈ I1 := by rw [← hI1]; exact memF
  have f8 : allPW [p0.raw, p1.raw, p2.raw] ∈ I1 := by rw [← hI1]; exact memF
  have f9 : Inc I1 I0 := by rw [← hI1]; exact incF
  clear hI1
  have fP0 := fun (ψ : Imm) (I : List Imm) (h : ψ ∈ I1) => h
  refine enterD2 Tryz.func24 rfl Tryz.ntmps24 rfl ?_
  refine TD_seq ?_
  refine TD_region ?_
  (refine RD_boxA rfl rfl rfl ?_; intro b2; refine ⟨okF, ?_⟩)
  (refine RD_boxA rfl rfl rfl ?_; intro b3; refine ⟨okF, ?_⟩)
  (refine RD_alloc rfl rfl ?_; intro b4; refine ⟨okF, ?_⟩)
  (refine RD_alloc rfl rfl ?_; intro b5; refine ⟨okF, ?_⟩)
  refine RD_freezeB (b := b2) remF ?_
  refine RD_freezeB (b := b3) remF ?_
  repeat (first | (refine isR' ?_; refine whR ?_) | (refine isT' ?_; refine whT ?_) | (refine isN' ?_; refine whN ?_))
  refine RD_c rfl (fun _ => Const_sliceA rfl) rfl rfl ?_
  (refine RD_callS rfl (hV _ _ _ (List.Mem.tail _ (List.Mem.head _)) (Hv.mem (List.Mem.tail _ (List.Mem.tail _ f8)))) rfl rfl ?_; rintro _ _ _ ⟨rfl, rfl, rfl⟩; refine ⟨okF, ?_⟩)
  repeat (first | (refine isR' ?_; refine whR ?_) | (refine isT' ?_; refine whT ?_) | (refine isN' ?_; refine whN ?_))
  refine RD_c rfl (fun _ => Const_sliceA rfl) rfl rfl ?_
  (refine RD_callS rfl (hVc _ _ _ (List.Mem.head _) (Hv.mem (List.Mem.tail _ (List.Mem.tail _ f7)))) rfl rfl ?_; rintro _ _ _ ⟨rfl, rfl, rfl⟩; refine ⟨okF, ?_⟩)
  repeat (first | (refine isR' ?_; refine whR ?_) | (refine isT' ?_; refine whT ?_) | (refine isN' ?_; refine whN ?_))
  (refine RD_alloc rfl rfl ?_; intro b7; refine ⟨okF, ?_⟩)
  repeat (first | (refine isR' ?_; refine whR ?_) | (refine isT' ?_; refine whT ?_) | (refine isN' ?_; refine whN ?_))
  refine TD_cutT (fun G M I => ∃ (b8 b9 : Nat) (q8 q9 : PE), q8.v = p0.v.sub p1.v ∧ q9.v = p2.v.sub p1.v ∧ G = [(2, .pointer (some ⟨b2, 0, none⟩)), (3, .pointer (some ⟨b3, 0, none⟩)), (4, .pointer (some ⟨b4, 0, none⟩)), (5, .pointer (some ⟨b5, 0, none⟩)), (7, .pointer (some ⟨b7, 0, none⟩)), (8, .pointer (some ⟨b8, 0, none⟩)), (9, .pointer (some ⟨b9, 0, none⟩))] ∧ M = .blk b9 (eP q9) 28 :: .blk b8 (eP q8) 28 :: .blk b7 (eP p1) 28 :: .blk b5 zPc 28 :: .blk b4 zPc 28 :: M0 ∧ I = isP q9 (k + k + 1) :: isP q8 (k + k + 1) :: slI (some ⟨b3, 0, none⟩) (recs eR [s0, s1, s2]) :: slI (some ⟨b2, 0, none⟩) (recs eP [p0, p1, p2]) :: I1) ?_ ?_
  · ((repeat refine TD_seq ?_); refine TD_rest (.blk b7 (eP p1) 28 :: M0) (slI (some ⟨b3, 0, none⟩) (recs eR [s0, s1, s2]) :: slI (some ⟨b2, 0, none⟩) (recs eP [p0, p1, p2]) :: I1) mixed ?_)
    refine ND_restPre (fuel := 6) (listed' := #[true, true, true, false, true, true, true, false, false, false, false, false]) [0, 1, 2, 4, 5, 6] [4, 3, 3, 5, 4, 4] subF incF (by kernel_rfl) (by kernel_rfl) rfl rfl ?_
    repeat (first | (refine isR' ?_; refine whR ?_) | (refine isT' ?_; refine whT ?_) | (refine isN' ?_; refine whN ?_))
    refine ND_restFork3 (fuel := 5) (i := 3) (j := 8) (m := 9) (by kernel_rfl) ?_ ?_ ?_
    · (refine RD_callS rfl (hMi p0 p1 _ _ hvY hvY) rfl rfl ?_; rintro _ _ _ ⟨rfl, q8, rfl, hq8, rfl⟩; refine ⟨okF, ?_⟩)
      refine RD_nil ?_
      repeat (first | (refine isR' ?_; refine whR ?_) | (refine isT' ?_; refine whT ?_) | (refine isN' ?_; refine whN ?_))
      refine ND_restFork3 (fuel := 4) (i := 7) (j := 8) (m := 9) (by kernel_rfl) ?_ ?_ ?_
      · (refine RD_callS rfl (hMi p2 p1 _ _ hvY hvY) rfl rfl ?_; rintro _ _ _ ⟨rfl, q9, rfl, hq9, rfl⟩; refine ⟨okF, ?_⟩)
        refine RD_nil ?_
        repeat (first | (refine isR' ?_; refine whR ?_) | (refine isT' ?_; refine whT ?_) | (refine isN' ?_; refine whN ?_))
        refine ND_restFork (fuel := 3) (i := 8) (j := 9) (by kernel_rfl) ?_ ?_
        · (refine RD_alloc rfl rfl ?_; intro b8; refine ⟨okF, ?_⟩)
          refine RD_nil ?_
          refine ND_restEnd [9, 10, 11] [0, 0, 0] subF incF (by kernel_rfl) (by kernel_rfl) rfl rfl ?_
          repeat (first | (refine isR' ?_; refine whR ?_) | (refine isT' ?_; refine whT ?_) | (refine isN' ?_; refine whN ?_))
          (refine RD_alloc rfl rfl ?_; intro b9; refine ⟨okF, ?_⟩)
          repeat (first | (refine isR' ?_; refine whR ?_) | (refine isT' ?_; refine whT ?_) | (refine isN' ?_; refine whN ?_))
          refine ND_cut _ _ _ subG subF incF ⟨b8, b9, q8, q9, hq8, hq9, rfl, rfl, rfl⟩
        · (refine RD_alloc rfl rfl ?_; intro b9; refine ⟨okF, ?_⟩)
          refine RD_nil ?_
          refine ND_restEnd [8, 10, 11] [0, 0, 0] subF incF (by kernel_rfl) (by kernel_rfl) rfl rfl ?_
          repeat (first | (refine isR' ?_; refine whR ?_) | (refine isT' ?_; refine whT ?_) | (refine isN' ?_; refine whN ?_))
          (refine RD_alloc rfl rfl ?_; intro b8; refine ⟨okF, ?_⟩)
          repeat (first | (refine isR' ?_; refine whR ?_) | (refine isT' ?_; refine whT ?_) | (refine isN' ?_; refine whN ?_))
          refine ND_cut _ _ _ subG subF incF ⟨b8, b9, q8, q9, hq8, hq9, rfl, rfl, rfl⟩
      · (refine RD_alloc rfl rfl ?_; intro b8; refine ⟨okF, ?_⟩)
        refine RD_nil ?_
        repeat (first | (refine isR' ?_; refine whR ?_) | (refine isT' ?_; refine whT ?_) | (refine isN' ?_; refine whN ?_))
        refine ND_restFork (fuel := 3) (i := 7) (j := 9) (by kernel_rfl) ?_ ?_
        · (refine RD_callS rfl (hMi p2 p1 _ _ hvY hvY) rfl rfl ?_; rintro _ _ _ ⟨rfl, q9, rfl, hq9, rfl⟩; refine ⟨okF, ?_⟩)
          refine RD_nil ?_
          refine ND_restEnd [9, 10, 11] [0, 0, 0] subF incF (by kernel_rfl) (by kernel_rfl) rfl rfl ?_
          repeat (first | (refine isR' ?_; refine whR ?_) | (refine isT' ?_; refine whT ?_) | (refine isN' ?_; refine whN ?_))
          (refine RD_alloc rfl rfl ?_; intro b9; refine ⟨okF, ?_⟩)
          repeat (first | (refine isR' ?_; refine whR ?_) | (refine isT' ?_; refine whT ?_) | (refine isN' ?_; refine whN ?_))
          refine ND_cut _ _ _ subG subF incF ⟨b8, b9, q8, q9, hq8, hq9, rfl, rfl, rfl⟩
        · (refine RD_alloc rfl rfl ?_; intro b9; refine ⟨okF, ?_⟩)
          refine RD_nil ?_
          refine ND_restEnd [7, 10, 11] [0, 0, 0] subF incF (by kernel_rfl) (by kernel_rfl) rfl rfl ?_
          repeat (first | (refine isR' ?_; refine whR ?_) | (refine isT' ?_; refine whT ?_) | (refine isN' ?_; refine whN ?_))
          (refine RD_callS rfl (hMi p2 p1 _ _ hvY hvY) rfl rfl ?_; rintro _ _ _ ⟨rfl, q9, rfl, hq9, rfl⟩; refine ⟨okF, ?_⟩)
          repeat (first | (refine isR' ?_; refine whR ?_) | (refine isT' ?_; refine whT ?_) | (refine isN' ?_; refine whN ?_))
          refine ND_cut _ _ _ subG subF incF ⟨b8, b9, q8, q9, hq8, hq9, rfl, rfl, rfl⟩
      · (refine RD_alloc rfl rfl ?_; intro b9; refine ⟨okF, ?_⟩)
        refine RD_nil ?_
        repeat (first | (refine isR' ?_; refine whR ?_) | (refine isT' ?_; refine whT ?_) | (refine isN' ?_; refine whN ?_))
        refine ND_restFork (fuel := 3) (i := 7) (j := 8) (by kernel_rfl) ?_ ?_
        · (refine RD_callS rfl (hMi p2 p1 _ _ hvY hvY) rfl rfl ?_; rintro _ _ _ ⟨rfl, q9, rfl, hq9, rfl⟩; refine ⟨okF, ?_⟩)
          refine RD_nil ?_
          refine ND_restEnd [8, 10, 11] [0, 0, 0] subF incF (by kernel_rfl) (by kernel_rfl) rfl rfl ?_
          repeat (first | (refine isR' ?_; refine whR ?_) | (refine isT' ?_; refine whT ?_) | (refine isN' ?_; refine whN ?_))
          (refine RD_alloc rfl rfl ?_; intro b8; refine ⟨okF, ?_⟩)
          repeat (first | (refine isR' ?_; refine whR ?_) | (refine isT' ?_; refine whT ?_) | (refine isN' ?_; refine whN ?_))
          refine ND_cut _ _ _ subG subF incF ⟨b8, b9, q8, q9, hq8, hq9, rfl, rfl, rfl⟩
        · (refine RD_alloc rfl rfl ?_; intro b8; refine ⟨okF, ?_⟩)
          refine RD_nil ?_
          refine ND_restEnd [7, 10, 11] [0, 0, 0] subF incF (by kernel_rfl) (by kernel_rfl) rfl rfl ?_
          repeat (first | (refine isR' ?_; refine whR ?_) | (refine isT' ?_; refine whT ?_) | (refine isN' ?_; refine whN ?_))
          (refine RD_callS rfl (hMi p2 p1 _ _ hvY hvY) rfl rfl ?_; rintro _ _ _ ⟨rfl, q9, rfl, hq9, rfl⟩; refine ⟨okF, ?_⟩)
          repeat (first | (refine isR' ?_; refine whR ?_) | (refine isT' ?_; refine whT ?_) | (refine isN' ?_; refine whN ?_))
          refine ND_cut _ _ _ subG subF incF ⟨b8, b9, q8, q9, hq8, hq9, rfl, rfl, rfl⟩
    · (refine RD_alloc rfl rfl ?_; intro b8; refine ⟨okF, ?_⟩)
      refine RD_nil ?_
      repeat (first | (refine isR' ?_; refine whR ?_) | (refine isT' ?_; refine whT ?_) | (refine isN' ?_; refine whN ?_))
      refine ND_restFork (fuel := 4) (i := 3) (j := 9) (by kernel_rfl) ?_ ?_
      · (refine RD_callS rfl (hMi p0 p1 _ _ hvY hvY) rfl rfl ?_; rintro _ _ _ ⟨rfl, q8, rfl, hq8, rfl⟩; refine ⟨okF, ?_⟩)
        refine RD_nil ?_
        repeat (first | (refine isR' ?_; refine whR ?_) | (refine isT' ?_; refine whT ?_) | (refine isN' ?_; refine whN ?_))
        refine ND_restFork (fuel := 3) (i := 7) (j := 9) (by kernel_rfl) ?_ ?_
        · (refine RD_callS rfl (hMi p2 p1 _ _ hvY hvY) rfl rfl ?_; rintro _ _ _ ⟨rfl, q9, rfl, hq9, rfl⟩; refine ⟨okF, ?_⟩)
          refine RD_nil ?_
          refine ND_restEnd [9, 10, 11] [0, 0, 0] subF incF (by kernel_rfl) (by kernel_rfl) rfl rfl ?_
          repeat (first | (refine isR' ?_; refine whR ?_) | (refine isT' ?_; refine whT ?_) | (refine isN' ?_; refine whN ?_))
          (refine RD_alloc rfl rfl ?_; intro b9; refine ⟨okF, ?_⟩)
          repeat (first | (refine isR' ?_; refine whR ?_) | (refine isT' ?_; refine whT ?_) | (refine isN' ?_; refine whN ?_))
          refine ND_cut _ _ _ subG subF incF ⟨b8, b9, q8, q9, hq8, hq9, rfl, rfl, rfl⟩
        · (refine RD_alloc rfl rfl ?_; intro b9; refine ⟨okF, ?_⟩)
          refine RD_nil ?_
          refine ND_restEnd [7, 10, 11] [0, 0, 0] subF incF (by kernel_rfl) (by kernel_rfl) rfl rfl ?_
          repeat (first | (refine isR' ?_; refine whR ?_) | (refine isT' ?_; refine whT ?_) | (refine isN' ?_; refine whN ?_))
          (refine RD_callS rfl (hMi p2 p1 _ _ hvY hvY) rfl rfl ?_; rintro _ _ _ ⟨rfl, q9, rfl, hq9, rfl⟩; refine ⟨okF, ?_⟩)
          repeat (first | (refine isR' ?_; refine whR ?_) | (refine isT' ?_; refine whT ?_) | (refine isN' ?_; refine whN ?_))
          refine ND_cut _ _ _ subG subF incF ⟨b8, b9, q8, q9, hq8, hq9, rfl, rfl, rfl⟩
      · (refine RD_alloc rfl rfl ?_; intro b9; refine ⟨okF, ?_⟩)
        refine RD_nil ?_
        refine ND_restEnd [3, 7, 10, 11] [0, 0, 0, 0] subF incF (by kernel_rfl) (by kernel_rfl) rfl rfl ?_
        repeat (first | (refine isR' ?_; refine whR ?_) | (refine isT' ?_; refine whT ?_) | (refine isN' ?_; refine whN ?_))
        (refine RD_callS rfl (hMi p0 p1 _ _ hvY hvY) rfl rfl ?_; rintro _ _ _ ⟨rfl, q8, rfl, hq8, rfl⟩; refine ⟨okF, ?_⟩)
        repeat (first | (refine isR' ?_; refine whR ?_) | (refine isT' ?_; refine whT ?_) | (refine isN' ?_; refine whN ?_))
        (refine RD_callS rfl (hMi p2 p1 _ _ hvY hvY) rfl rfl ?_; rintro _ _ _ ⟨rfl, q9, rfl, hq9, rfl⟩; refine ⟨okF, ?_⟩)
        repeat (first | (refine isR' ?_; refine whR ?_) | (refine isT' ?_; refine whT ?_) | (refine isN' ?_; refine whN ?_))
        refine ND_cut _ _ _ subG subF incF ⟨b8, b9, q8, q9, hq8, hq9, rfl, rfl, rfl⟩
    · (refine RD_alloc rfl rfl ?_; intro b9; refine ⟨okF, ?_⟩)
      refine RD_nil ?_
      repeat (first | (refine isR' ?_; refine whR ?_) | (refine isT' ?_; refine whT ?_) | (refine isN' ?_; refine whN ?_))
      refine ND_restFork (fuel := 4) (i := 3) (j := 8) (by kernel_rfl) ?_ ?_
      · (refine RD_callS rfl (hMi p0 p1 _ _ hvY hvY) rfl rfl ?_; rintro _ _ _ ⟨rfl, q8, rfl, hq8, rfl⟩; refine ⟨okF, ?_⟩)
        refine RD_nil ?_
        repeat (first | (refine isR' ?_; refine whR ?_) | (refine isT' ?_; refine whT ?_) | (refine isN' ?_; refine whN ?_))
        refine ND_restFork (fuel := 3) (i := 7) (j := 8) (by kernel_rfl) ?_ ?_
        · (refine RD_callS rfl (hMi p2 p1 _ _ hvY hvY) rfl rfl ?_; rintro _ _ _ ⟨rfl, q9, rfl, hq9, rfl⟩; refine ⟨okF, ?_⟩)
          refine RD_nil ?_
          refine ND_restEnd [8, 10, 11] [0, 0, 0] subF incF (by kernel_rfl) (by kernel_rfl) rfl rfl ?_
          repeat (first | (refine isR' ?_; refine whR ?_) | (refine isT' ?_; refine whT ?_) | (refine isN' ?_; refine whN ?_))
          (refine RD_alloc rfl rfl ?_; intro b8; refine ⟨okF, ?_⟩)
          repeat (first | (refine isR' ?_; refine whR ?_) | (refine isT' ?_; refine whT ?_) | (refine isN' ?_; refine whN ?_))
          refine ND_cut _ _ _ subG subF incF ⟨b8, b9, q8, q9, hq8, hq9, rfl, rfl, rfl⟩
        · (refine RD_alloc rfl rfl ?_; intro b8; refine ⟨okF, ?_⟩)
          refine RD_nil ?_
          refine ND_restEnd [7, 10, 11] [0, 0, 0] subF incF (by kernel_rfl) (by kernel_rfl) rfl rfl ?_
          repeat (first | (refine isR' ?_; refine whR ?_) | (refine isT' ?_; refine whT ?_) | (refine isN' ?_; refine whN ?_))
          (refine RD_callS rfl (hMi p2 p1 _ _ hvY hvY) rfl rfl ?_; rintro _ _ _ ⟨rfl, q9, rfl, hq9, rfl⟩; refine ⟨okF, ?_⟩)
          repeat (first | (refine isR' ?_; refine whR ?_) | (refine isT' ?_; refine whT ?_) | (refine isN' ?_; refine whN ?_))
          refine ND_cut _ _ _ subG subF incF ⟨b8, b9, q8, q9, hq8, hq9, rfl, rfl, rfl⟩
      · (refine RD_alloc rfl rfl ?_; intro b8; refine ⟨okF, ?_⟩)
        refine RD_nil ?_
        refine ND_restEnd [3, 7, 10, 11] [0, 0, 0, 0] subF incF (by kernel_rfl) (by kernel_rfl) rfl rfl ?_
        repeat (first | (refine isR' ?_; refine whR ?_) | (refine isT' ?_; refine whT ?_) | (refine isN' ?_; refine whN ?_))
        (refine RD_callS rfl (hMi p0 p1 _ _ hvY hvY) rfl rfl ?_; rintro _ _ _ ⟨rfl, q8, rfl, hq8, rfl⟩; refine ⟨okF, ?_⟩)
        repeat (first | (refine isR' ?_; refine whR ?_) | (refine isT' ?_; refine whT ?_) | (refine isN' ?_; refine whN ?_))
        (refine RD_callS rfl (hMi p2 p1 _ _ hvY hvY) rfl rfl ?_; rintro _ _ _ ⟨rfl, q9, rfl, hq9, rfl⟩; refine ⟨okF, ?_⟩)
        repeat (first | (refine isR' ?_; refine whR ?_) | (refine isT' ?_; refine whT ?_) | (refine isN' ?_; refine whN ?_))
        refine ND_cut _ _ _ subG subF incF ⟨b8, b9, q8, q9, hq8, hq9, rfl, rfl, rfl⟩
  · rintro G M I ⟨b8, b9, q8, q9, hq8, hq9, rfl, rfl, rfl⟩
    refine TD_cut (fun G M I => ∃ (b10 : Nat), G = (11, .bool false) :: [(2, .pointer (some ⟨b2, 0, none⟩)), (3, .pointer (some ⟨b3, 0, none⟩)), (4, .pointer (some ⟨b4, 0, none⟩)), (5, .pointer (some ⟨b5, 0, none⟩)), (7, .pointer (some ⟨b7, 0, none⟩)), (8, .pointer (some ⟨b8, 0, none⟩)), (9, .pointer (some ⟨b9, 0, none⟩)), (10, .pointer (some ⟨b10, 0, none⟩))] ∧ M = .blk b10 zPc 28 :: .blk b9 (eP q9) 28 :: .blk b8 (eP q8) 28 :: .blk b7 (eP p1) 28 :: .blk b5 zPc 28 :: .blk b4 zPc 28 :: M0 ∧ I = slI (some ⟨b3, 0, none⟩) (recs eR [s0, s1, s2]) :: slI (some ⟨b2, 0, none⟩) (recs eP [p0, p1, p2]) :: I1) ?_ ?_
    · have hMe2 : ∀ (c0 c1 : CE) M0 I0, c0.b.v = cnB q8.v s0.q s1.q → c1.b.v = cnB q9.v s2.q s1.q → _ → _ → CD Tryz.prog 112 [.agg (recs eC [c0, c1]).toArray] X w0 M0 I0 (fun v M I => M0 = M ∧ I0 = I ∧ v = .tuple #[zP, .bool false]) := fun c0 c1 M0 I0 e2 e4 a1 a2 => by
        have hh := hMe c0 c1 M0 I0 a1 a2
        rw [e2, e4, hq8, hq9] at hh
        exact hh hd
      ((repeat refine TD_seq ?_); refine TD_rest (.blk b9 (eP q9) 28 :: .blk b8 (eP q8) 28 :: M0) (isP q9 (k + k + 1) :: isP q8 (k + k + 1) :: slI (some ⟨b3, 0, none⟩) (recs eR [s0, s1, s2]) :: slI (some ⟨b2, 0, none⟩) (recs eP [p0, p1, p2]) :: I1) mixed ?_)
      refine ND_restPre (fuel := 10) (listed' := #[true, true, true, true, true, false, true, true, true, true, true, false, false, false, false, false, false, false, false, false]) [0, 1, 2, 3, 4, 6, 7, 8, 9, 10] [3, 4, 3, 4, 3, 3, 4, 3, 4, 3] subF incF (by kernel_rfl) (by kernel_rfl) rfl rfl ?_
      repeat (first | (refine isR' ?_; refine whR ?_) | (refine isT' ?_; refine whT ?_) | (refine isN' ?_; refine whN ?_))
      refine ND_restFork (fuel := 9) (i := 5) (j := 17) (by kernel_rfl) ?_ ?_
      · (refine RD_callS rfl (hCo q8 s0 s1 _ _ hvY hvY hvY) rfl rfl ?_; rintro _ _ _ ⟨rfl, c0, rfl, ha0, hb0, rfl⟩; refine ⟨okF, ?_⟩)
        refine RD_nil ?_
        repeat (first | (refine isR' ?_; refine whR ?_) | (refine isT' ?_; refine whT ?_) | (refine isN' ?_; refine whN ?_))
        refine ND_restFork (fuel := 8) (i := 11) (j := 17) (by kernel_rfl) ?_ ?_
        · (refine RD_callS rfl (hCo q9 s2 s1 _ _ hvY hvY hvY) rfl rfl ?_; rintro _ _ _ ⟨rfl, c1, rfl, ha1, hb1, rfl⟩; refine ⟨okF, ?_⟩)
          refine RD_nil ?_
          refine ND_restPre (fuel := 7) (listed' := #[true, true, true, true, true, true, true, true, true, true, true, true, true, false, false, false, false, false, false, false]) [12] [1] subF incF (by kernel_rfl) (by kernel_rfl) rfl rfl ?_
          repeat (first | (refine isR' ?_; refine whR ?_) | (refine isT' ?_; refine whT ?_) | (refine isN' ?_; refine whN ?_))
          (refine RD_c rfl (fun _ => Const_arrC (vals := [cv c0, cv c1]) (cells := recs eC [c0, c1]) rfl ?hpl rfl ?hz) rfl rfl ?_; (case hpl => exact (by intro v hv; repeat (first | exact absurd hv (List.not_mem_nil) | (rcases List.mem_cons.1 hv with rfl | hv; · rfl)))); (case hz => rfl))
          repeat (first | (refine isR' ?_; refine whR ?_) | (refine isT' ?_; refine whT ?_) | (refine isN' ?_; refine whN ?_))
          refine ND_restFork (fuel := 6) (i := 13) (j := 17) (by kernel_rfl) ?_ ?_
          · (refine RD_callS rfl (hMe2 c0 c1 _ _ hb0 hb1 hvY hvY) rfl rfl ?_; rintro _ _ _ ⟨rfl, rfl, rfl⟩; refine ⟨okF, ?_⟩)
            refine RD_nil ?_
            refine ND_restEnd [14, 15, 16, 17, 18, 19] [1, 1, 2, 0, 0, 0] subF incF (by kernel_rfl) (by kernel_rfl) rfl rfl ?_
            repeat (first | (refine isR' ?_; refine whR ?_) | (refine isT' ?_; refine whT ?_) | (refine isN' ?_; refine whN ?_))
            (refine RD_alloc rfl rfl ?_; intro b10; refine ⟨okF, ?_⟩)
            repeat (first | (refine isR' ?_; refine whR ?_) | (refine isT' ?_; refine whT ?_) | (refine isN' ?_; refine whN ?_))
            refine ND_cut _ _ _ subG subF incF ⟨b10, rfl, rfl, rfl⟩
          · (refine RD_alloc rfl rfl ?_; intro b10; refine ⟨okF, ?_⟩)
            refine RD_nil ?_
            refine ND_restEnd [13, 14, 15, 16, 18, 19] [0, 0, 0, 1, 0, 0] subF incF (by kernel_rfl) (by kernel_rfl) rfl rfl ?_
            repeat (first | (refine isR' ?_; refine whR ?_) | (refine isT' ?_; refine whT ?_) | (refine isN' ?_; refine whN ?_))
            (refine RD_callS rfl (hMe2 c0 c1 _ _ hb0 hb1 hvY hvY) rfl rfl ?_; rintro _ _ _ ⟨rfl, rfl, rfl⟩; refine ⟨okF, ?_⟩)
            repeat (first | (refine isR' ?_; refine whR ?_) | (refine isT' ?_; refine whT ?_) | (refine isN' ?_; refine whN ?_))
            refine ND_cut _ _ _ subG subF incF ⟨b10, rfl, rfl, rfl⟩
        · (refine RD_alloc rfl rfl ?_; intro b10; refine ⟨okF, ?_⟩)
          refine RD_nil ?_
          refine ND_restEnd [11, 12, 13, 14, 15, 16, 18, 19] [0, 0, 0, 0, 0, 1, 0, 0] subF incF (by kernel_rfl) (by kernel_rfl) rfl rfl ?_
          repeat (first | (refine isR' ?_; refine whR ?_) | (refine isT' ?_; refine whT ?_) | (refine isN' ?_; refine whN ?_))
          (refine RD_callS rfl (hCo q9 s2 s1 _ _ hvY hvY hvY) rfl rfl ?_; rintro _ _ _ ⟨rfl, c1, rfl, ha1, hb1, rfl⟩; refine ⟨okF, ?_⟩)
          repeat (first | (refine isR' ?_; refine whR ?_) | (refine isT' ?_; refine whT ?_) | (refine isN' ?_; refine whN ?_))
          (refine RD_c rfl (fun _ => Const_arrC (vals := [cv c0, cv c1]) (cells := recs eC [c0, c1]) rfl ?hpl rfl ?hz) rfl rfl ?_; (case hpl => exact (by intro v hv; repeat (first | exact absurd hv (List.not_mem_nil) | (rcases List.mem_cons.1 hv with rfl | hv; · rfl)))); (case hz => rfl))
          repeat (first | (refine isR' ?_; refine whR ?_) | (refine isT' ?_; refine whT ?_) | (refine isN' ?_; refine whN ?_))
          (refine RD_callS rfl (hMe2 c0 c1 _ _ hb0 hb1 hvY hvY) rfl rfl ?_; rintro _ _ _ ⟨rfl, rfl, rfl⟩; refine ⟨okF, ?_⟩)
          repeat (first | (refine isR' ?_; refine whR ?_) | (refine isT' ?_; refine whT ?_) | (refine isN' ?_; refine whN ?_))
          refine ND_cut _ _ _ subG subF incF ⟨b10, rfl, rfl, rfl⟩
      · (refine RD_alloc rfl rfl ?_; intro b10; refine ⟨okF, ?_⟩)
        refine RD_nil ?_
        refine ND_restEnd [5, 11, 12, 13, 14, 15, 16, 18, 19] [0, 0, 0, 0, 0, 0, 1, 0, 0] subF incF (by kernel_rfl) (by kernel_rfl) rfl rfl ?_
        repeat (first | (refine isR' ?_; refine whR ?_) | (refine isT' ?_; refine whT ?_) | (refine isN' ?_; refine whN ?_))
        (refine RD_callS rfl (hCo q8 s0 s1 _ _ hvY hvY hvY) rfl rfl ?_; rintro _ _ _ ⟨rfl, c0, rfl, ha0, hb0, rfl⟩; refine ⟨okF, ?_⟩)
        repeat (first | (refine isR' ?_; refine whR ?_) | (refine isT' ?_; refine whT ?_) | (refine isN' ?_; refine whN ?_))
        (refine RD_callS rfl (hCo q9 s2 s1 _ _ hvY hvY hvY) rfl rfl ?_; rintro _ _ _ ⟨rfl, c1, rfl, ha1, hb1, rfl⟩; refine ⟨okF, ?_⟩)
        repeat (first | (refine isR' ?_; refine whR ?_) | (refine isT' ?_; refine whT ?_) | (refine isN' ?_; refine whN ?_))
        (refine RD_c rfl (fun _ => Const_arrC (vals := [cv c0, cv c1]) (cells := recs eC [c0, c1]) rfl ?hpl rfl ?hz) rfl rfl ?_; (case hpl => exact (by intro v hv; repeat (first | exact absurd hv (List.not_mem_nil) | (rcases List.mem_cons.1 hv with rfl | hv; · rfl)))); (case hz => rfl))
        repeat (first | (refine isR' ?_; refine whR ?_) | (refine isT' ?_; refine whT ?_) | (refine isN' ?_; refine whN ?_))
        (refine RD_callS rfl (hMe2 c0 c1 _ _ hb0 hb1 hvY hvY) rfl rfl ?_; rintro _ _ _ ⟨rfl, rfl, rfl⟩; refine ⟨okF, ?_⟩)
        repeat (first | (refine isR' ?_; refine whR ?_) | (refine isT' ?_; refine whT ?_) | (refine isN' ?_; refine whN ?_))
        refine ND_cut _ _ _ subG subF incF ⟨b10, rfl, rfl, rfl⟩
    · rintro G M I ⟨b10, rfl, rfl, rfl⟩
      repeat (first | (refine isR' ?_; refine whR ?_) | (refine isT' ?_; refine whT ?_) | (refine isN' ?_; refine whN ?_))
      (refine RD_c rfl (fun _ => Const_struct (pvs := ([]).zipIdx.map (fun p => (p.2, p.1))) (cells := zPc) rfl rfl) rfl rfl ?_)
      (refine RD_c rfl (fun _ => Const_struct (pvs := ([]).zipIdx.map (fun p => (p.2, p.1))) (cells := zPc) rfl rfl) rfl rfl ?_)
      repeat (first | (refine isR' ?_; refine whR ?_) | (refine isT' ?_; refine whT ?_) | (refine isN' ?_; refine whN ?_))
      refine ND_retsC (rs := [.cell 4 28, .cell 5 28, .tmp 6]) (vs := [zP, zP, .int .i64 13]) (.inl rfl) rfl (.cellN (cs := zPc) inferInstance rfl memF rfl (.cellN (cs := zPc) inferInstance rfl memF rfl (.tmp rfl .nil))) rfl M0 I0 subF (.of (fun φ hp => List.mem_cons_of_mem _ (List.mem_cons_of_mem _ (f9.mem φ hp)))) ⟨rfl, rfl, rfl⟩
end
end Go.Proofs.YteghpnkhlfkigaaGreat
