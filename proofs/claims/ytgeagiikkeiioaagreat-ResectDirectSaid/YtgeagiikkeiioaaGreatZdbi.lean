/- resect.Plane where there is not exactly one position. Arguments, opened: slices of records, structs with slices. Arguments opened: integers, fractions in groups of digits, as they come in. The law's arithmetic with numbers and vectors (chapter 30). The law's guards and slope (chapter 30). The determinant by elimination, one column at a time. matrix.Determinant. matrix: zero, symmetric. -/
import Derived.Test.YtgeagiikkeiioaaGreatZdbh
import Derived.Test.YtgeagiikkeiioaaGreatZdax
import Derived.Test.YtgeagiikkeiioaaGreatZdab
import Derived.Test.YtgeagiikkeiioaaGreatZdae
import Derived.Test.YtgeagiikkeiioaaGreatZdav
import Derived.Test.YtgeagiikkeiioaaGreatZdbb
import Derived.Test.YtgeagiikkeiioaaGreatZdaw
set_option linter.unusedSimpArgs false
set_option linter.unusedVariables false
set_option maxRecDepth 100000
set_option maxHeartbeats 4000000
namespace Go.Proofs.YtgeagiikkeiioaaGreat
open Go Go.Fx
section
variable {X : List Nat} {w0 : World} {M0 : List Ent} {I0 : List bD}
theorem aIR {p0 p1 p2 : PE} {s0 s1 s2 : RE} {k s K : Nat} (hK : K = 136 * s + 96 * k + 200) (hk : 2 * K + s + k ≤ 4000000) (h0 : Hv I0 (dJ p0 k)) (h1 : Hv I0 (dJ p1 k)) (h2 : Hv I0 (dJ p2 k)) (g0 : Hv I0 (bP s0 s)) (g1 : Hv I0 (bP s1 s)) (g2 : Hv I0 (bP s2 s))
  (hd : plD p0.v p1.v p2.v s0.q s1.q s2.q = 0) :
  CD Tryz.prog 63 [.agg (recs eP [p0, p1, p2]).toArray, .agg (recs eR [s0, s1, s2]).toArray] X w0 M0 I0 (fun v M I => M0 = M ∧ I0 = I ∧ v = .tuple #[zP, zP, .int .i64 13]) := by
 refine yI (φ := (p0.raw.small ∧ p1.raw.small ∧ p2.raw.small) ∧ s0.raw.small ∧ s1.raw.small ∧ s2.raw.small) (fun w hw => ⟨⟨Mem.pureP h0 (by omega) hw, Mem.pureP h1 (by omega) hw, Mem.pureP h2 (by omega) hw⟩, Mem.pureR g0 (by omega) hw, Mem.pureR g1 (by omega) hw, Mem.pureR g2 (by omega) hw⟩) (fun hs => ?_)
 have hV := fun q M0 I0 h1 => sW (X := X) (w0 := w0) (M0 := M0) (I0 := I0) (q := q) (c := 3) (m := 3) (ps := [p0.raw, p1.raw, p2.raw]) rfl (by simp) (aKE hs.1.1 hs.1.2.1 hs.1.2.2) h1
 rw [bS (show ∀ x ∈ [p0.raw, p1.raw, p2.raw], x.good from aKE p0.raw_good p1.raw_good p2.raw_good)] at hV
 have hVc := fun q M0 I0 h1 => rU (X := X) (w0 := w0) (M0 := M0) (I0 := I0) (q := q) (c := 3) (m := 3) (ps := [s0.raw, s1.raw, s2.raw]) rfl (by simp) (aIC hs.2.1 hs.2.2.1 hs.2.2.2) h1
 rw [bS (show ∀ x ∈ [s0.raw, s1.raw, s2.raw], x.good from aIC s0.raw_good s1.raw_good s2.raw_good)] at hVc
 have hMi := fun a b M0 I0 => nK (X := X) (w0 := w0) (M0 := M0) (I0 := I0) (a := a) (b := b) (k := k) (m := k) (by omega)
 have hCo := fun p a b M0 I0 => vX (X := X) (w0 := w0) (M0 := M0) (I0 := I0) (p := p) (own := a) (org := b) (k := k + k + 1) (s := s) (by omega)
 obtain ⟨kb, hkb⟩ : ∃ kb, kb = 4 * s + 2 * (k + k + 1) + 3 := ⟨_, rfl⟩
 rw [← hkb] at hCo
 have hMe := fun c0 c1 M0 I0 => aNS (X := X) (w0 := w0) (M0 := M0) (I0 := I0) (c0 := c0) (c1 := c1) (k := kb) (by omega)
 refine eX (Hv.pw3 (h0.toPW (by omega)) (h1.toPW (by omega)) (h2.toPW (by omega))) (eX (Hv.w3 (g0.toW (by omega)) (g1.toW (by omega)) (g2.toW (by omega))).cons (eX (Hv.p3 h0 h1 h2).cons.cons (eX h0.cons.cons.cons (eX h1.cons.cons.cons.cons (eX h2.cons.cons.cons.cons.cons (eX g0.cons.cons.cons.cons.cons.cons (eX g1.cons.cons.cons.cons.cons.cons.cons (eX g2.cons.cons.cons.cons.cons.cons.cons.cons ?_))))))))
 generalize hI1 : bP s2 s :: bP s1 s :: bP s0 s :: dJ p2 k :: dJ p1 k :: dJ p0 k :: rW [p0, p1, p2] k :: aDK [s0.raw, s1.raw, s2.raw] :: mE [p0.raw, p1.raw, p2.raw] :: I0 = I1
 have f0 : dJ p0 k ∈ I1 := by rw [← hI1]; exact aC
 have f1 : dJ p1 k ∈ I1 := by rw [← hI1]; exact aC
 have f2 : dJ p2 k ∈ I1 := by rw [← hI1]; exact aC
 have f3 : bP s0 s ∈ I1 := by rw [← hI1]; exact aC
 have f4 : bP s1 s ∈ I1 := by rw [← hI1]; exact aC
 have f5 : bP s2 s ∈ I1 := by rw [← hI1]; exact aC
 have f6 : rW [p0, p1, p2] k ∈ I1 := by rw [← hI1]; exact aC
 have f7 : aDK [s0.raw, s1.raw, s2.raw] ∈ I1 := by rw [← hI1]; exact aC
 have f8 : mE [p0.raw, p1.raw, p2.raw] ∈ I1 := by rw [← hI1]; exact aC
 have f9 : Inc I1 I0 := by rw [← hI1]; exact aD
 clear hI1
 have fP0 := fun (ψ : bD) (I : List bD) (h : ψ ∈ I1) => h
 refine bG Tryz.func63 rfl Tryz.ntmps63 rfl ?_
 refine aK ?_
 refine aL ?_
 (refine aR rfl rfl rfl ?_; intro b2; refine ⟨okF, ?_⟩)
 (refine aR rfl rfl rfl ?_; intro b3; refine ⟨okF, ?_⟩)
 (refine aB rfl rfl ?_; intro b4; refine ⟨okF, ?_⟩)
 (refine aB rfl rfl ?_; intro b5; refine ⟨okF, ?_⟩)
 refine bT (b := b2) mG ?_
 refine bT (b := b3) mG ?_
 repeat (refine aI ?_)
 refine aH rfl (fun _ => iQ rfl) rfl rfl ?_
 (refine aA rfl (hV _ _ _ (List.Mem.tail _ (List.Mem.head _)) (Hv.mem (List.Mem.tail _ (List.Mem.tail _ f8)))) rfl rfl ?_; rintro _ _ _ ⟨rfl, rfl, rfl⟩; refine ⟨okF, ?_⟩)
 repeat (refine aI ?_)
 refine aH rfl (fun _ => iQ rfl) rfl rfl ?_
 (refine aA rfl (hVc _ _ _ (List.Mem.head _) (Hv.mem (List.Mem.tail _ (List.Mem.tail _ f7)))) rfl rfl ?_; rintro _ _ _ ⟨rfl, rfl, rfl⟩; refine ⟨okF, ?_⟩)
 repeat (refine aI ?_)
 (refine aB rfl rfl ?_; intro b7; refine ⟨okF, ?_⟩)
 repeat (refine aI ?_)
 refine lU (fun G M I => ∃ (b8 b9 : Nat) (q8 q9 : PE), q8.v = p0.v.sub p1.v ∧ q9.v = p2.v.sub p1.v ∧ G = [(2, .pointer (some ⟨b2, 0, none⟩)), (3, .pointer (some ⟨b3, 0, none⟩)), (4, .pointer (some ⟨b4, 0, none⟩)), (5, .pointer (some ⟨b5, 0, none⟩)), (7, .pointer (some ⟨b7, 0, none⟩)), (8, .pointer (some ⟨b8, 0, none⟩)), (9, .pointer (some ⟨b9, 0, none⟩))] ∧ M = .blk b9 (eP q9) 47 :: .blk b8 (eP q8) 47 :: .blk b7 (eP p1) 47 :: .blk b5 zPc 47 :: .blk b4 zPc 47 :: M0 ∧ I = dJ q9 (k + k + 1) :: dJ q8 (k + k + 1) :: bH (some ⟨b3, 0, none⟩) (recs eR [s0, s1, s2]) :: bH (some ⟨b2, 0, none⟩) (recs eP [p0, p1, p2]) :: I1) ?_ ?_
 ·((repeat refine aK ?_); refine kD (.blk b7 (eP p1) 47 :: M0) (bH (some ⟨b3, 0, none⟩) (recs eR [s0, s1, s2]) :: bH (some ⟨b2, 0, none⟩) (recs eP [p0, p1, p2]) :: I1) mixed ?_)
  refine bR (fuel := 6) (listed' := #[true, true, true, false, true, true, true, false, false, false, false, false]) [0, 1, 2, 4, 5, 6] [4, 3, 3, 5, 4, 4] aF aD (by kernel_rfl) (by kernel_rfl) rfl rfl ?_
  repeat (refine aI ?_)
  refine fF (fuel := 5) (i := 3) (j := 8) (m := 9) (by kernel_rfl) ?_ ?_ ?_
  ·(refine aA rfl (hMi p0 p1 _ _ aS aS) rfl rfl ?_; rintro _ _ _ ⟨rfl, q8, rfl, hq8, rfl⟩; refine ⟨okF, ?_⟩)
   refine aJ ?_
   repeat (refine aI ?_)
   refine fF (fuel := 4) (i := 7) (j := 8) (m := 9) (by kernel_rfl) ?_ ?_ ?_
   ·(refine aA rfl (hMi p2 p1 _ _ aS aS) rfl rfl ?_; rintro _ _ _ ⟨rfl, q9, rfl, hq9, rfl⟩; refine ⟨okF, ?_⟩)
    refine aJ ?_
    repeat (refine aI ?_)
    refine aM (fuel := 3) (i := 8) (j := 9) (by kernel_rfl) ?_ ?_
    ·(refine aB rfl rfl ?_; intro b8; refine ⟨okF, ?_⟩)
     refine aJ ?_
     refine aG [9, 10, 11] [0, 0, 0] aF aD (by kernel_rfl) (by kernel_rfl) rfl rfl ?_
     repeat (refine aI ?_)
     (refine aB rfl rfl ?_; intro b9; refine ⟨okF, ?_⟩)
     repeat (refine aI ?_)
     refine aQ _ _ _ aO aF aD ⟨b8, b9, q8, q9, hq8, hq9, rfl, rfl, rfl⟩
    ·(refine aB rfl rfl ?_; intro b9; refine ⟨okF, ?_⟩)
     refine aJ ?_
     refine aG [8, 10, 11] [0, 0, 0] aF aD (by kernel_rfl) (by kernel_rfl) rfl rfl ?_
     repeat (refine aI ?_)
     (refine aB rfl rfl ?_; intro b8; refine ⟨okF, ?_⟩)
     repeat (refine aI ?_)
     refine aQ _ _ _ aO aF aD ⟨b8, b9, q8, q9, hq8, hq9, rfl, rfl, rfl⟩
   ·(refine aB rfl rfl ?_; intro b8; refine ⟨okF, ?_⟩)
    refine aJ ?_
    repeat (refine aI ?_)
    refine aM (fuel := 3) (i := 7) (j := 9) (by kernel_rfl) ?_ ?_
    ·(refine aA rfl (hMi p2 p1 _ _ aS aS) rfl rfl ?_; rintro _ _ _ ⟨rfl, q9, rfl, hq9, rfl⟩; refine ⟨okF, ?_⟩)
     refine aJ ?_
     refine aG [9, 10, 11] [0, 0, 0] aF aD (by kernel_rfl) (by kernel_rfl) rfl rfl ?_
     repeat (refine aI ?_)
     (refine aB rfl rfl ?_; intro b9; refine ⟨okF, ?_⟩)
     repeat (refine aI ?_)
     refine aQ _ _ _ aO aF aD ⟨b8, b9, q8, q9, hq8, hq9, rfl, rfl, rfl⟩
    ·(refine aB rfl rfl ?_; intro b9; refine ⟨okF, ?_⟩)
     refine aJ ?_
     refine aG [7, 10, 11] [0, 0, 0] aF aD (by kernel_rfl) (by kernel_rfl) rfl rfl ?_
     repeat (refine aI ?_)
     (refine aA rfl (hMi p2 p1 _ _ aS aS) rfl rfl ?_; rintro _ _ _ ⟨rfl, q9, rfl, hq9, rfl⟩; refine ⟨okF, ?_⟩)
     repeat (refine aI ?_)
     refine aQ _ _ _ aO aF aD ⟨b8, b9, q8, q9, hq8, hq9, rfl, rfl, rfl⟩
   ·(refine aB rfl rfl ?_; intro b9; refine ⟨okF, ?_⟩)
    refine aJ ?_
    repeat (refine aI ?_)
    refine aM (fuel := 3) (i := 7) (j := 8) (by kernel_rfl) ?_ ?_
    ·(refine aA rfl (hMi p2 p1 _ _ aS aS) rfl rfl ?_; rintro _ _ _ ⟨rfl, q9, rfl, hq9, rfl⟩; refine ⟨okF, ?_⟩)
     refine aJ ?_
     refine aG [8, 10, 11] [0, 0, 0] aF aD (by kernel_rfl) (by kernel_rfl) rfl rfl ?_
     repeat (refine aI ?_)
     (refine aB rfl rfl ?_; intro b8; refine ⟨okF, ?_⟩)
     repeat (refine aI ?_)
     refine aQ _ _ _ aO aF aD ⟨b8, b9, q8, q9, hq8, hq9, rfl, rfl, rfl⟩
    ·(refine aB rfl rfl ?_; intro b8; refine ⟨okF, ?_⟩)
     refine aJ ?_
     refine aG [7, 10, 11] [0, 0, 0] aF aD (by kernel_rfl) (by kernel_rfl) rfl rfl ?_
     repeat (refine aI ?_)
     (refine aA rfl (hMi p2 p1 _ _ aS aS) rfl rfl ?_; rintro _ _ _ ⟨rfl, q9, rfl, hq9, rfl⟩; refine ⟨okF, ?_⟩)
     repeat (refine aI ?_)
     refine aQ _ _ _ aO aF aD ⟨b8, b9, q8, q9, hq8, hq9, rfl, rfl, rfl⟩
  ·(refine aB rfl rfl ?_; intro b8; refine ⟨okF, ?_⟩)
   refine aJ ?_
   repeat (refine aI ?_)
   refine aM (fuel := 4) (i := 3) (j := 9) (by kernel_rfl) ?_ ?_
   ·(refine aA rfl (hMi p0 p1 _ _ aS aS) rfl rfl ?_; rintro _ _ _ ⟨rfl, q8, rfl, hq8, rfl⟩; refine ⟨okF, ?_⟩)
    refine aJ ?_
    repeat (refine aI ?_)
    refine aM (fuel := 3) (i := 7) (j := 9) (by kernel_rfl) ?_ ?_
    ·(refine aA rfl (hMi p2 p1 _ _ aS aS) rfl rfl ?_; rintro _ _ _ ⟨rfl, q9, rfl, hq9, rfl⟩; refine ⟨okF, ?_⟩)
     refine aJ ?_
     refine aG [9, 10, 11] [0, 0, 0] aF aD (by kernel_rfl) (by kernel_rfl) rfl rfl ?_
     repeat (refine aI ?_)
     (refine aB rfl rfl ?_; intro b9; refine ⟨okF, ?_⟩)
     repeat (refine aI ?_)
     refine aQ _ _ _ aO aF aD ⟨b8, b9, q8, q9, hq8, hq9, rfl, rfl, rfl⟩
    ·(refine aB rfl rfl ?_; intro b9; refine ⟨okF, ?_⟩)
     refine aJ ?_
     refine aG [7, 10, 11] [0, 0, 0] aF aD (by kernel_rfl) (by kernel_rfl) rfl rfl ?_
     repeat (refine aI ?_)
     (refine aA rfl (hMi p2 p1 _ _ aS aS) rfl rfl ?_; rintro _ _ _ ⟨rfl, q9, rfl, hq9, rfl⟩; refine ⟨okF, ?_⟩)
     repeat (refine aI ?_)
     refine aQ _ _ _ aO aF aD ⟨b8, b9, q8, q9, hq8, hq9, rfl, rfl, rfl⟩
   ·(refine aB rfl rfl ?_; intro b9; refine ⟨okF, ?_⟩)
    refine aJ ?_
    refine aG [3, 7, 10, 11] [0, 0, 0, 0] aF aD (by kernel_rfl) (by kernel_rfl) rfl rfl ?_
    repeat (refine aI ?_)
    (refine aA rfl (hMi p0 p1 _ _ aS aS) rfl rfl ?_; rintro _ _ _ ⟨rfl, q8, rfl, hq8, rfl⟩; refine ⟨okF, ?_⟩)
    repeat (refine aI ?_)
    (refine aA rfl (hMi p2 p1 _ _ aS aS) rfl rfl ?_; rintro _ _ _ ⟨rfl, q9, rfl, hq9, rfl⟩; refine ⟨okF, ?_⟩)
    repeat (refine aI ?_)
    refine aQ _ _ _ aO aF aD ⟨b8, b9, q8, q9, hq8, hq9, rfl, rfl, rfl⟩
  ·(refine aB rfl rfl ?_; intro b9; refine ⟨okF, ?_⟩)
   refine aJ ?_
   repeat (refine aI ?_)
   refine aM (fuel := 4) (i := 3) (j := 8) (by kernel_rfl) ?_ ?_
   ·(refine aA rfl (hMi p0 p1 _ _ aS aS) rfl rfl ?_; rintro _ _ _ ⟨rfl, q8, rfl, hq8, rfl⟩; refine ⟨okF, ?_⟩)
    refine aJ ?_
    repeat (refine aI ?_)
    refine aM (fuel := 3) (i := 7) (j := 8) (by kernel_rfl) ?_ ?_
    ·(refine aA rfl (hMi p2 p1 _ _ aS aS) rfl rfl ?_; rintro _ _ _ ⟨rfl, q9, rfl, hq9, rfl⟩; refine ⟨okF, ?_⟩)
     refine aJ ?_
     refine aG [8, 10, 11] [0, 0, 0] aF aD (by kernel_rfl) (by kernel_rfl) rfl rfl ?_
     repeat (refine aI ?_)
     (refine aB rfl rfl ?_; intro b8; refine ⟨okF, ?_⟩)
     repeat (refine aI ?_)
     refine aQ _ _ _ aO aF aD ⟨b8, b9, q8, q9, hq8, hq9, rfl, rfl, rfl⟩
    ·(refine aB rfl rfl ?_; intro b8; refine ⟨okF, ?_⟩)
     refine aJ ?_
     refine aG [7, 10, 11] [0, 0, 0] aF aD (by kernel_rfl) (by kernel_rfl) rfl rfl ?_
     repeat (refine aI ?_)
     (refine aA rfl (hMi p2 p1 _ _ aS aS) rfl rfl ?_; rintro _ _ _ ⟨rfl, q9, rfl, hq9, rfl⟩; refine ⟨okF, ?_⟩)
     repeat (refine aI ?_)
     refine aQ _ _ _ aO aF aD ⟨b8, b9, q8, q9, hq8, hq9, rfl, rfl, rfl⟩
   ·(refine aB rfl rfl ?_; intro b8; refine ⟨okF, ?_⟩)
    refine aJ ?_
    refine aG [3, 7, 10, 11] [0, 0, 0, 0] aF aD (by kernel_rfl) (by kernel_rfl) rfl rfl ?_
    repeat (refine aI ?_)
    (refine aA rfl (hMi p0 p1 _ _ aS aS) rfl rfl ?_; rintro _ _ _ ⟨rfl, q8, rfl, hq8, rfl⟩; refine ⟨okF, ?_⟩)
    repeat (refine aI ?_)
    (refine aA rfl (hMi p2 p1 _ _ aS aS) rfl rfl ?_; rintro _ _ _ ⟨rfl, q9, rfl, hq9, rfl⟩; refine ⟨okF, ?_⟩)
    repeat (refine aI ?_)
    refine aQ _ _ _ aO aF aD ⟨b8, b9, q8, q9, hq8, hq9, rfl, rfl, rfl⟩
 ·rintro G M I ⟨b8, b9, q8, q9, hq8, hq9, rfl, rfl, rfl⟩
  refine sZ (fun G M I => ∃ (b10 : Nat), G = (11, .bool false) :: [(2, .pointer (some ⟨b2, 0, none⟩)), (3, .pointer (some ⟨b3, 0, none⟩)), (4, .pointer (some ⟨b4, 0, none⟩)), (5, .pointer (some ⟨b5, 0, none⟩)), (7, .pointer (some ⟨b7, 0, none⟩)), (8, .pointer (some ⟨b8, 0, none⟩)), (9, .pointer (some ⟨b9, 0, none⟩)), (10, .pointer (some ⟨b10, 0, none⟩))] ∧ M = .blk b10 zPc 47 :: .blk b9 (eP q9) 47 :: .blk b8 (eP q8) 47 :: .blk b7 (eP p1) 47 :: .blk b5 zPc 47 :: .blk b4 zPc 47 :: M0 ∧ I = bH (some ⟨b3, 0, none⟩) (recs eR [s0, s1, s2]) :: bH (some ⟨b2, 0, none⟩) (recs eP [p0, p1, p2]) :: I1) ?_ ?_
  ·have hMe2 : ∀ (c0 c1 : CE) M0 I0, c0.b.v = cnB q8.v s0.q s1.q → c1.b.v = cnB q9.v s2.q s1.q → _ → _ → CD Tryz.prog 122 [.agg (recs eC [c0, c1]).toArray] X w0 M0 I0 (fun v M I => M0 = M ∧ I0 = I ∧ v = .tuple #[zP, .bool false]) := fun c0 c1 M0 I0 e2 e4 a1 a2 => by
    have hh := hMe c0 c1 M0 I0 a1 a2
    rw [e2, e4, hq8, hq9] at hh
    exact hh hd
   ((repeat refine aK ?_); refine kD (.blk b9 (eP q9) 47 :: .blk b8 (eP q8) 47 :: M0) (dJ q9 (k + k + 1) :: dJ q8 (k + k + 1) :: bH (some ⟨b3, 0, none⟩) (recs eR [s0, s1, s2]) :: bH (some ⟨b2, 0, none⟩) (recs eP [p0, p1, p2]) :: I1) mixed ?_)
   refine bR (fuel := 10) (listed' := #[true, true, true, true, true, false, true, true, true, true, true, false, false, false, false, false, false, false, false, false]) [0, 1, 2, 3, 4, 6, 7, 8, 9, 10] [3, 4, 3, 4, 3, 3, 4, 3, 4, 3] aF aD (by kernel_rfl) (by kernel_rfl) rfl rfl ?_
   repeat (refine aI ?_)
   refine aM (fuel := 9) (i := 5) (j := 17) (by kernel_rfl) ?_ ?_
   ·(refine aA rfl (hCo q8 s0 s1 _ _ aS aS aS) rfl rfl ?_; rintro _ _ _ ⟨rfl, c0, rfl, ha0, hb0, rfl⟩; refine ⟨okF, ?_⟩)
    refine aJ ?_
    repeat (refine aI ?_)
    refine aM (fuel := 8) (i := 11) (j := 17) (by kernel_rfl) ?_ ?_
    ·(refine aA rfl (hCo q9 s2 s1 _ _ aS aS aS) rfl rfl ?_; rintro _ _ _ ⟨rfl, c1, rfl, ha1, hb1, rfl⟩; refine ⟨okF, ?_⟩)
     refine aJ ?_
     refine bR (fuel := 7) (listed' := #[true, true, true, true, true, true, true, true, true, true, true, true, true, false, false, false, false, false, false, false]) [12] [1] aF aD (by kernel_rfl) (by kernel_rfl) rfl rfl ?_
     repeat (refine aI ?_)
     (refine aH rfl (fun _ => bE (vals := [cv c0, cv c1]) (cells := recs eC [c0, c1]) rfl ?hpl rfl ?hz) rfl rfl ?_; (case hpl => exact (by intro v hv; repeat (first | exact absurd hv (List.not_mem_nil) | (rcases List.mem_cons.1 hv with rfl | hv; · rfl)))); (case hz => rfl))
     repeat (refine aI ?_)
     refine aM (fuel := 6) (i := 13) (j := 17) (by kernel_rfl) ?_ ?_
     ·(refine aA rfl (hMe2 c0 c1 _ _ hb0 hb1 aS aS) rfl rfl ?_; rintro _ _ _ ⟨rfl, rfl, rfl⟩; refine ⟨okF, ?_⟩)
      refine aJ ?_
      refine aG [14, 15, 16, 17, 18, 19] [1, 1, 2, 0, 0, 0] aF aD (by kernel_rfl) (by kernel_rfl) rfl rfl ?_
      repeat (refine aI ?_)
      (refine aB rfl rfl ?_; intro b10; refine ⟨okF, ?_⟩)
      repeat (refine aI ?_)
      refine aQ _ _ _ aO aF aD ⟨b10, rfl, rfl, rfl⟩
     ·(refine aB rfl rfl ?_; intro b10; refine ⟨okF, ?_⟩)
      refine aJ ?_
      refine aG [13, 14, 15, 16, 18, 19] [0, 0, 0, 1, 0, 0] aF aD (by kernel_rfl) (by kernel_rfl) rfl rfl ?_
      repeat (refine aI ?_)
      (refine aA rfl (hMe2 c0 c1 _ _ hb0 hb1 aS aS) rfl rfl ?_; rintro _ _ _ ⟨rfl, rfl, rfl⟩; refine ⟨okF, ?_⟩)
      repeat (refine aI ?_)
      refine aQ _ _ _ aO aF aD ⟨b10, rfl, rfl, rfl⟩
    ·(refine aB rfl rfl ?_; intro b10; refine ⟨okF, ?_⟩)
     refine aJ ?_
     refine aG [11, 12, 13, 14, 15, 16, 18, 19] [0, 0, 0, 0, 0, 1, 0, 0] aF aD (by kernel_rfl) (by kernel_rfl) rfl rfl ?_
     repeat (refine aI ?_)
     (refine aA rfl (hCo q9 s2 s1 _ _ aS aS aS) rfl rfl ?_; rintro _ _ _ ⟨rfl, c1, rfl, ha1, hb1, rfl⟩; refine ⟨okF, ?_⟩)
     repeat (refine aI ?_)
     (refine aH rfl (fun _ => bE (vals := [cv c0, cv c1]) (cells := recs eC [c0, c1]) rfl ?hpl rfl ?hz) rfl rfl ?_; (case hpl => exact (by intro v hv; repeat (first | exact absurd hv (List.not_mem_nil) | (rcases List.mem_cons.1 hv with rfl | hv; · rfl)))); (case hz => rfl))
     repeat (refine aI ?_)
     (refine aA rfl (hMe2 c0 c1 _ _ hb0 hb1 aS aS) rfl rfl ?_; rintro _ _ _ ⟨rfl, rfl, rfl⟩; refine ⟨okF, ?_⟩)
     repeat (refine aI ?_)
     refine aQ _ _ _ aO aF aD ⟨b10, rfl, rfl, rfl⟩
   ·(refine aB rfl rfl ?_; intro b10; refine ⟨okF, ?_⟩)
    refine aJ ?_
    refine aG [5, 11, 12, 13, 14, 15, 16, 18, 19] [0, 0, 0, 0, 0, 0, 1, 0, 0] aF aD (by kernel_rfl) (by kernel_rfl) rfl rfl ?_
    repeat (refine aI ?_)
    (refine aA rfl (hCo q8 s0 s1 _ _ aS aS aS) rfl rfl ?_; rintro _ _ _ ⟨rfl, c0, rfl, ha0, hb0, rfl⟩; refine ⟨okF, ?_⟩)
    repeat (refine aI ?_)
    (refine aA rfl (hCo q9 s2 s1 _ _ aS aS aS) rfl rfl ?_; rintro _ _ _ ⟨rfl, c1, rfl, ha1, hb1, rfl⟩; refine ⟨okF, ?_⟩)
    repeat (refine aI ?_)
    (refine aH rfl (fun _ => bE (vals := [cv c0, cv c1]) (cells := recs eC [c0, c1]) rfl ?hpl rfl ?hz) rfl rfl ?_; (case hpl => exact (by intro v hv; repeat (first | exact absurd hv (List.not_mem_nil) | (rcases List.mem_cons.1 hv with rfl | hv; · rfl)))); (case hz => rfl))
    repeat (refine aI ?_)
    (refine aA rfl (hMe2 c0 c1 _ _ hb0 hb1 aS aS) rfl rfl ?_; rintro _ _ _ ⟨rfl, rfl, rfl⟩; refine ⟨okF, ?_⟩)
    repeat (refine aI ?_)
    refine aQ _ _ _ aO aF aD ⟨b10, rfl, rfl, rfl⟩
  ·rintro G M I ⟨b10, rfl, rfl, rfl⟩
   repeat (refine aI ?_)
   (refine aH rfl (fun _ => dV (pvs := ([]).zipIdx.map (fun p => (p.2, p.1))) (cells := zPc) rfl rfl) rfl rfl ?_)
   (refine aH rfl (fun _ => dV (pvs := ([]).zipIdx.map (fun p => (p.2, p.1))) (cells := zPc) rfl rfl) rfl rfl ?_)
   repeat (refine aI ?_)
   refine kI (rs := [.cell 4 47, .cell 5 47, .tmp 6]) (vs := [zP, zP, .int .i64 13]) (.inl rfl) rfl (.cellN (cs := zPc) inferInstance rfl aC rfl (.cellN (cs := zPc) inferInstance rfl aC rfl (.tmp rfl .nil))) rfl M0 I0 aF (.of (fun φ hp => List.mem_cons_of_mem _ (List.mem_cons_of_mem _ (f9.mem φ hp)))) ⟨rfl, rfl, rfl⟩
end
end Go.Proofs.YtgeagiikkeiioaaGreat
namespace Go.Fx
open Go.ChangeShapes Go.WideShapes Go.RowKit Go.ChangeAt
section
variable {H : Type} {enc : TypeId × Value → H} {P : Program} {W : World}
theorem aFC {sz : Nat} : ∀ (rows : List (List Value)) (k : Nat) (v : Value), (∀ r ∈ rows, r.length = sz) → rows.flatten[k]? = some v → ∃ i row, rows[i]? = some row ∧ i * sz ≤ k ∧ row[k - i * sz]? = some v
 | [], k, v, _, h => by simp at h
 | r :: rows, k, v, hr, h => by
  rw [List.flatten_cons] at h
  have hl := hr r (by simp)
  by_cases hk : k < r.length
  ·rw [List.getElem?_append_left hk] at h
   exact ⟨0, r, by simp, by omega, by simpa using h⟩
  ·rw [List.getElem?_append_right (by omega)] at h
   obtain ⟨i, row, h1, h2, h3⟩ := aFC rows _ v (fun r' hr' => hr r' (by simp [hr'])) h
   refine ⟨i + 1, row, by simpa using h1, by rw [Nat.add_mul]; omega, ?_⟩
   rw [← h3]
   congr 1
   rw [Nat.add_mul]; omega
theorem aOB {t : TypeId} {k : IntKind} {n : Nat} {cs : List Value} {y : DataW H × List MemPlace} (ht : P.underlying t = some (.int k)) (h : DataW.trod enc P W 0 (fun _ => true) true n t cs = some y) : ∃ x : Int, cs = [.int k x] ∧ (Lit.int k x).wf = true := by
 obtain ⟨m, h1, _, h2⟩ := DataW.trod_int ht h
 exact ⟨m, h1, h2⟩
end
end Go.Fx
namespace Go.Proofs.YtgeagiikkeiioaaGreat
open Go Go.Fx
open Go.ChangeShapes Go.WideShapes Go.RowKit Go.ChangeAt
def RW.reach (r : RW) : Prop := r.g1.length ≤ 35184372088832 ∧ r.g2.length ≤ 35184372088832
section
variable {H : Type} {enc : TypeId × Value → H} {P : Program} {W : World}
end
end Go.Proofs.YtgeagiikkeiioaaGreat
namespace Go.Proofs.YtgeagiikkeiioaaGreat
open Go Go.Fx
section
variable {X : List Nat} {w0 : World} {M0 : List Ent} {I0 : List bD}
theorem rQ {x : Int} (hx : -9223372036854775808 ≤ x ∧ x ≤ 9223372036854775807) {k : Nat} (hk : x.natAbs ≤ 2 ^ k) :
  CD Tryz.prog 35 [.int .i64 x] X w0 M0 I0 (RQ (x : Rat) k M0 I0) := by
 refine bJ Tryz.func35 rfl Tryz.ntmps35 rfl ?_
 refine aK ?_
 refine aL ?_
 (refine aB rfl rfl ?_; intro b2; refine ⟨okF, ?_⟩)
 repeat (refine aI ?_)
 (refine aA rfl (zL hx hk) rfl rfl ?_; rintro _ _ _ ⟨rfl, e, rfl, he, rfl⟩; refine ⟨okF, ?_⟩)
 repeat (refine aI ?_)
 refine bK (cs := eR e) (.inl rfl) rfl rfl aC rfl M0 (bP e k :: I0) aF aD ⟨rfl, e, rfl, he, rfl⟩
theorem aPB {a b : RE} {k m : Nat} (hk : k + m ≤ 100000000000) (ha : Hv I0 (bP a k)) (hb : Hv I0 (bP b m)) :
  CD Tryz.prog 82 [rv a, rv b] X w0 M0 I0 (RQ (a.q * b.q) (k + m) M0 I0) := by
 refine bG Tryz.func82 rfl Tryz.ntmps82 rfl ?_
 refine aK ?_
 refine aL ?_
 (refine aR rfl rfl rfl ?_; intro b1; refine ⟨okF, ?_⟩)
 (refine aR rfl rfl rfl ?_; intro b2; refine ⟨okF, ?_⟩)
 (refine aB rfl rfl ?_; intro b3; refine ⟨okF, ?_⟩)
 repeat (refine aI ?_)
 (refine aA rfl (zD (k := k) (m := m) hk ha hb) rfl rfl ?_; rintro _ _ _ ⟨rfl, e, rfl, he, rfl⟩; refine ⟨okF, ?_⟩)
 repeat (refine aI ?_)
 refine bK (cs := eR e) (.inl rfl) rfl rfl aC rfl M0 (bP e (k + m) :: I0) aF aD ⟨rfl, e, rfl, he, rfl⟩
theorem aON {a b : RE} {k m : Nat} (hk : k + m ≤ 100000000000) (hb0 : b.q ≠ 0) (ha : Hv I0 (bP a k)) (hb : Hv I0 (bP b m)) :
  CD Tryz.prog 88 [rv a, rv b] X w0 M0 I0 (RQ (a.q / b.q) (k + m) M0 I0) := by
 refine bG Tryz.func88 rfl Tryz.ntmps88 rfl ?_
 refine aK ?_
 refine aL ?_
 (refine aR rfl rfl rfl ?_; intro b1; refine ⟨okF, ?_⟩)
 (refine aR rfl rfl rfl ?_; intro b2; refine ⟨okF, ?_⟩)
 (refine aB rfl rfl ?_; intro b3; refine ⟨okF, ?_⟩)
 repeat (refine aI ?_)
 (refine aA rfl (xO hk hb0 ha hb) rfl rfl ?_; rintro _ _ _ ⟨rfl, e, rfl, he, rfl⟩; refine ⟨okF, ?_⟩)
 repeat (refine aI ?_)
 (refine aB rfl rfl ?_; intro b5; refine ⟨okF, ?_⟩)
 repeat (refine aI ?_)
 refine bK (cs := eR e) (.inl rfl) rfl rfl aC rfl M0 (bP e (k + m) :: I0) aF aD ⟨rfl, e, rfl, he, rfl⟩
theorem aEW {a : RE} {k : Nat} (hk : k ≤ 100000000000) (ha : Hv I0 (bP a k)) :
  CD Tryz.prog 66 [rv a] X w0 M0 I0 (fun v M I => M0 = M ∧ I0 = I ∧ v = .bool (B (a.q = 0))) := by
 refine bJ Tryz.func66 rfl Tryz.ntmps66 rfl ?_
 refine aK ?_
 refine aL ?_
 (refine aR rfl rfl rfl ?_; intro b1; refine ⟨okF, ?_⟩)
 repeat (refine aI ?_)
 (refine aA rfl (oG hk ha) rfl rfl ?_; rintro _ _ _ ⟨rfl, rfl, rfl⟩; refine ⟨okF, ?_⟩)
 repeat (refine aI ?_)
 refine aN (by first | exact .inl rfl | exact .inr rfl) rfl rfl _ _ aF aD (⟨rfl, rfl, congrArg Value.bool (fM sgn0)⟩)
theorem aJI {x y : Int} (hx : -9223372036854775808 ≤ x ∧ x ≤ 9223372036854775807) (hy : -9223372036854775808 ≤ y ∧ y ≤ 9223372036854775807) {k : Nat} (hk : x.natAbs ≤ 2 ^ k) (hm : y.natAbs ≤ 2 ^ k) :
  CD Tryz.prog 64 [.int .i64 x, .int .i64 y] X w0 M0 I0 (PQ ⟨(x : Rat), (y : Rat)⟩ k M0 I0) := by
 refine bG Tryz.func64 rfl Tryz.ntmps64 rfl ?_
 refine aK ?_
 refine aL ?_
 (refine aB rfl rfl ?_; intro b3; refine ⟨okF, ?_⟩)
 repeat (refine aI ?_)
 (refine aA rfl (rQ hx hk) rfl rfl ?_; rintro _ _ _ ⟨rfl, e1, rfl, he1, rfl⟩; refine ⟨okF, ?_⟩)
 repeat (refine aI ?_)
 (refine aA rfl (rQ hy hm) rfl rfl ?_; rintro _ _ _ ⟨rfl, e2, rfl, he2, rfl⟩; refine ⟨okF, ?_⟩)
 (refine aH rfl (fun _ => kK (vals := [rv e1, rv e2]) (cells := eP ⟨e1, e2⟩) rfl ?hpl rfl ?hz) rfl rfl ?_; (case hpl => repeat (first | exact True.intro | refine ⟨rfl, ?_⟩)); (case hz => rfl))
 repeat (refine aI ?_)
 refine qY (a := e1) (b := e2) (k := k) aS aS ?_
 refine bK (cs := eP ⟨e1, e2⟩) (.inl rfl) rfl rfl aC rfl M0 (dJ ⟨e1, e2⟩ k :: I0) aF aD ⟨rfl, ⟨e1, e2⟩, rfl, by simp only [PE.v, he1, he2], rfl⟩
theorem aKQ {a b : PE} {k m : Nat} (hk : k + m + 1 ≤ 100000000000) (ha : Hv I0 (dJ a k)) (hb : Hv I0 (dJ b m)) :
  CD Tryz.prog 31 [pv a, pv b] X w0 M0 I0 (fun v M I => M0 = M ∧ I0 = I ∧ v = .bool (B (a.v = b.v))) := by
 have h1 := fun M0 I0 => rG (X := X) (w0 := w0) (M0 := M0) (I0 := I0) (a := a.x) (b := b.x) (k := k) (m := m) (by omega)
 have h2 := fun M0 I0 => rG (X := X) (w0 := w0) (M0 := M0) (I0 := I0) (a := a.y) (b := b.y) (k := k) (m := m) (by omega)
 have e3 : a.v = b.v ↔ (aED a.x.q b.x.q = 0 ∧ aED a.y.q b.y.q = 0) := by rw [aCX, aCX]; simp [PE.v]
 rw [fM e3]
 generalize aED a.x.q b.x.q = s1 at *
 generalize aED a.y.q b.y.q = s2 at *
 refine bG Tryz.func31 rfl Tryz.ntmps31 rfl ?_
 refine aK ?_
 refine aL ?_
 (refine aR rfl rfl rfl ?_; intro b1; refine ⟨okF, ?_⟩)
 (refine aR rfl rfl rfl ?_; intro b2; refine ⟨okF, ?_⟩)
 repeat (refine aI ?_)
 (refine aA rfl (h1 _ _ ha.pxH hb.pxH) rfl rfl ?_; rintro _ _ _ ⟨rfl, rfl, rfl⟩; refine ⟨okF, ?_⟩)
 repeat' (first | refine aI ?_ | refine aU rfl (fun h => ?_) (fun h => ?_) | refine aT rfl rfl (fun h => ?_) (fun h => ?_) | fail)
 ·(refine aA rfl (h2 _ _ ha.pyH hb.pyH) rfl rfl ?_; rintro _ _ _ ⟨rfl, rfl, rfl⟩; refine ⟨okF, ?_⟩)
  repeat (refine aI ?_)
  refine aN (by first | exact .inl rfl | exact .inr rfl) rfl rfl _ _ aF aD (⟨rfl, rfl, congrArg Value.bool (fM ⟨fun h2 => ⟨by omega, h2⟩, fun h2 => h2.2⟩)⟩)
 ·refine aN (by first | exact .inl rfl | exact .inr rfl) rfl rfl _ _ aF aD (⟨rfl, rfl, congrArg Value.bool (aY (fun h2 => by omega)).symm⟩)
theorem aFU {r : RW} (h : r.reach) : CD Tryz.prog 83 [wv r] X w0 M0 I0 (fun v M I => M0 = M ∧ I0 = I ∧ v = .int .i64 (r.g1.length + r.g2.length)) := by
 obtain ⟨h1, h2⟩ := h
 refine bJ Tryz.func83 rfl Tryz.ntmps83 rfl ?_
 refine aK ?_
 refine aL ?_
 (refine aR rfl rfl rfl ?_; intro b1; refine ⟨okF, ?_⟩)
 repeat (refine aI ?_)
 refine aN (by first | exact .inl rfl | exact .inr rfl) rfl rfl _ _ aF aD (⟨rfl, rfl, rfl⟩)
end
end Go.Proofs.YtgeagiikkeiioaaGreat
namespace Go.Proofs.YtgeagiikkeiioaaGreat
open Go Go.Fx
def PW.reach (p : PW) : Prop := p.x.reach ∧ p.y.reach
def PW.dig (p : PW) : Nat := p.x.g1.length + p.x.g2.length + (p.y.g1.length + p.y.g2.length)
theorem PW.good_raw {p : PW} (hx : p.x.Fit) (hy : p.y.Fit) (h : p.good) : ∃ e : PE, p = e.raw := by
 obtain ⟨a, ha⟩ := RW.good_raw hx h.1
 obtain ⟨b, hb⟩ := RW.good_raw hy h.2
 exact ⟨⟨a, b⟩, by cases p; simp only at ha hb; subst ha; subst hb; rfl⟩
section
variable {X : List Nat} {w0 : World} {M0 : List Ent} {I0 : List bD}
theorem aIT {q : Option Addr} {c m : Nat} {ps : List PW} (hm : m = ps.length) (hn : ps.length ≤ 1000000000) (hs : ∀ p ∈ ps, p.small) (hq : bH q (recs ePW ps) ∈ I0) (ha : Hv I0 (mE ps)) :
  CD Tryz.prog 30 [.slice q m c] X w0 M0 I0 (fun v M I => M0 = M ∧ I0 = I ∧ v = .bool (B (∀ p ∈ ps, p.good))) := by
 subst hm
 refine bJ Tryz.func30 rfl Tryz.ntmps30 rfl ?_
 repeat (refine aI ?_)
 refine aV [5, 6] rfl (fun k G M I => ∃ i : Nat, i ≤ ps.length ∧ k = ps.length - i ∧ (∀ j : Nat, j < i → (gt ps (j : Int)).good) ∧ G = [(7, .int .i64 i)] ∧ M0 = M ∧ I0 = I) (ps.length) _ _ _ aO aF aD (⟨0, by omega, rfl, fun j hj => by omega, rfl, rfl, rfl⟩) ?_
 rintro k G M I ⟨i, hi, rfl, hg, rfl, rfl, rfl⟩
 by_cases hin : i < ps.length
 ·have hsi := hs _ (bN (ms := ps) (i := (i : Int)) (by omega))
  have hai : Hv I0 (aAP (gt ps (i : Int))) := ha.pwAt (by omega)
  have hV1 := fun M0 => uZ (X := X) (w0 := w0) (M0 := M0) (I0 := I0) (r := (gt ps (i : Int)).x) hsi.1 hai.pwx
  have hV2 := fun M0 => uZ (X := X) (w0 := w0) (M0 := M0) (I0 := I0) (r := (gt ps (i : Int)).y) hsi.2 hai.pwy
  repeat (refine aI ?_)
  (refine aB rfl rfl ?_; intro b; refine ⟨okF, ?_⟩)
  repeat (refine aI ?_)
  (refine aA rfl (hV1 _) rfl rfl ?_; rintro _ _ _ ⟨rfl, rfl, rfl⟩; refine ⟨okF, ?_⟩)
  repeat' (first | refine aI ?_ | refine aU rfl (fun h => ?_) (fun h => ?_) | refine aT rfl rfl (fun h => ?_) (fun h => ?_) | fail)
  ·have hb : ¬ (gt ps (i : Int)).x.good := by assumption
   refine aN (by first | exact .inl rfl | exact .inr rfl) rfl rfl _ _ aF aD (⟨rfl, rfl, congrArg Value.bool (aY (fun e => hb (e _ (bN (by omega))).1)).symm⟩)
  ·(refine aA rfl (hV2 _) rfl rfl ?_; rintro _ _ _ ⟨rfl, rfl, rfl⟩; refine ⟨okF, ?_⟩)
   repeat' (first | refine aI ?_ | refine aU rfl (fun h => ?_) (fun h => ?_) | refine aT rfl rfl (fun h => ?_) (fun h => ?_) | fail)
   ·have hb : ¬ (gt ps (i : Int)).y.good := by assumption
    refine aN (by first | exact .inl rfl | exact .inr rfl) rfl rfl _ _ aF aD (⟨rfl, rfl, congrArg Value.bool (aY (fun e => hb (e _ (bN (by omega))).2)).symm⟩)
   ·have h1 : ¬ ¬ (gt ps (i : Int)).x.good := by assumption
    have h2 : ¬ ¬ (gt ps (i : Int)).y.good := by assumption
    refine aP (ps.length - (i + 1)) _ _ _ (by first | omega | (simp only [List.length_append, List.length_cons, List.length_nil]; omega)) aO aF aD (⟨i + 1, by omega, rfl, fun j hj => ?_, rfl, rfl, rfl⟩)
    by_cases e : j = i
    ·subst e; exact ⟨Decidable.not_not.1 h1, Decidable.not_not.1 h2⟩
    ·exact hg j (by omega)
 ·repeat (refine aI ?_)
  refine aN (by first | exact .inl rfl | exact .inr rfl) rfl rfl _ _ aF aD (⟨rfl, rfl, congrArg Value.bool (bS (oO (fun j hj => hg j (by omega)))).symm⟩)
end
end Go.Proofs.YtgeagiikkeiioaaGreat
namespace Go.Proofs.YtgeagiikkeiioaaGreat
open Go Go.Fx
def dstep (A : Mt) (j x : Nat) : Mt := (swp A j x).mapIdx (fun i row => if i ≤ j then row else if row.getD j 0 = 0 then row else nQ j (row.getD j 0 / at2 (swp A j x) j j) (rowAt (swp A j x) j) row)
def blkF (A : Mt) (j : Nat) : Nat → Nat → Rat := fun i k => at2 A (i + j) (k + j)
end Go.Proofs.YtgeagiikkeiioaaGreat
namespace Go.Proofs.YtgeagiikkeiioaaGreat
open Go Go.Fx
/- regions that draw: some reads see all up to a first effect, others what stays up to a second one -/
section
variable {P : Program} {n : Nat} {Q : Exit → Act → World → Prop} {G : Env} {X : List Nat} {w0 : World} {M M' M1 Ms : List Ent} {I I' I1 Is : List bD}
def CsL (J1 J2 : Nat) (X : List Nat) (w0 : World) (M : List Ent) (I : List bD) (Ms : List Ent) (Is : List bD) : Nat → World → Prop := fun s w => (s ≤ J1 → Mem X w0 M I w) ∧ (s ≤ J2 → Mem X w0 Ms Is w)
end
section
variable {X : List Nat} {w0 : World} {M0 : List Ent} {I0 : List bD}
abbrev zRm : List Value := [.bool false, .slice none 0 0, .bool false, .slice none 0 0]
end
end Go.Proofs.YtgeagiikkeiioaaGreat
namespace Go.Proofs.YtgeagiikkeiioaaGreat
open Go Go.Fx
/- ---------- IndexFunc, ContainsFunc of []fiducial/api.Rat ---------- -/
section
variable {X : List Nat} {w0 : World} {M0 : List Ent} {I0 : List bD}
end
def aDM (l : List Rat) : Prop := ∀ x ∈ l, x = 0
instance (l : List Rat) : Decidable (aDM l) := inferInstanceAs (Decidable (∀ x ∈ l, x = 0))
def symM (A : Mt) (n : Nat) : Prop := ∀ i, i < n → ∀ j, j < i → at2 A i j = at2 A j i
instance (A : Mt) (n : Nat) : Decidable (symM A n) := inferInstanceAs (Decidable (∀ i, i < n → ∀ j, j < i → at2 A i j = at2 A j i))
def symC (A : Mt) (n : Nat) : Int := if symM A n then 0 else 11
section
variable {X : List Nat} {w0 : World} {M0 : List Ent} {I0 : List bD}
end
end Go.Proofs.YtgeagiikkeiioaaGreat
