/- resect.Plane where there is not exactly one position. Arguments, opened: slices of records, structs with slices. Arguments opened: integers, fractions in groups of digits, as they come in. The law's arithmetic with numbers and vectors (chapter 30). The law's guards and slope (chapter 30). The determinant by elimination, one column at a time. matrix.Determinant. matrix: zero, symmetric. The document's product, transposed matrix, product with a list. matrix.Inverse. Equality of lists and matrices; matrices of integers; the chapter's example. Matrices of integers; the chapter's example. The chapter's example. Symmetric elimination, plain: pivots and leading determinants; the quadratic form as a sum of squares; witnesses. -/
import Derived.Test.YtkccjglmnhgabaaGreatZhbf
import Derived.Test.YtkccjglmnhgabaaGreatZhax
import Derived.Test.YtkccjglmnhgabaaGreatZhab
import Derived.Test.YtkccjglmnhgabaaGreatZhae
import Derived.Test.YtkccjglmnhgabaaGreatZhav
import Derived.Test.YtkccjglmnhgabaaGreatZhbc
import Derived.Test.YtkccjglmnhgabaaGreatZhbd
import Derived.Test.YtkccjglmnhgabaaGreatZhbb
set_option linter.unusedSimpArgs false
set_option linter.unusedVariables false
set_option maxRecDepth 100000
set_option maxHeartbeats 4000000
namespace Go.Proofs.YtkccjglmnhgabaaGreat
open Go Go.Fx
section
variable {X : List Nat} {w0 : World} {M0 : List Ent} {I0 : List aZ}
theorem aIH {p0 p1 p2 : PE} {s0 s1 s2 : RE} {k s K : Nat} (hK : K = 136 * s + 96 * k + 200) (hk : 2 * K + s + k ≤ 4000000) (h0 : Hv I0 (cZ p0 k)) (h1 : Hv I0 (cZ p1 k)) (h2 : Hv I0 (cZ p2 k)) (g0 : Hv I0 (bM s0 s)) (g1 : Hv I0 (bM s1 s)) (g2 : Hv I0 (bM s2 s))
  (hd : plD p0.v p1.v p2.v s0.q s1.q s2.q = 0) :
  CD Tryz.prog 36 [.agg (recs eP [p0, p1, p2]).toArray, .agg (recs eR [s0, s1, s2]).toArray] X w0 M0 I0 (fun v M I => M0 = M ∧ I0 = I ∧ v = .tuple #[zP, zP, .int .i64 13]) := by
 refine aBY (φ := (p0.raw.small ∧ p1.raw.small ∧ p2.raw.small) ∧ s0.raw.small ∧ s1.raw.small ∧ s2.raw.small) (fun w hw => ⟨⟨Mem.pureP h0 (by omega) hw, Mem.pureP h1 (by omega) hw, Mem.pureP h2 (by omega) hw⟩, Mem.pureR g0 (by omega) hw, Mem.pureR g1 (by omega) hw, Mem.pureR g2 (by omega) hw⟩) (fun hs => ?_)
 have hV := fun q M0 I0 h1 => wC (X := X) (w0 := w0) (M0 := M0) (I0 := I0) (q := q) (c := 3) (m := 3) (ps := [p0.raw, p1.raw, p2.raw]) rfl (by simp) (aHM hs.1.1 hs.1.2.1 hs.1.2.2) h1
 rw [dG (show ∀ x ∈ [p0.raw, p1.raw, p2.raw], x.good from aHM p0.raw_good p1.raw_good p2.raw_good)] at hV
 have hVc := fun q M0 I0 h1 => qZ (X := X) (w0 := w0) (M0 := M0) (I0 := I0) (q := q) (c := 3) (m := 3) (ps := [s0.raw, s1.raw, s2.raw]) rfl (by simp) (aGQ hs.2.1 hs.2.2.1 hs.2.2.2) h1
 rw [dG (show ∀ x ∈ [s0.raw, s1.raw, s2.raw], x.good from aGQ s0.raw_good s1.raw_good s2.raw_good)] at hVc
 have hMi := fun a b M0 I0 => nE (X := X) (w0 := w0) (M0 := M0) (I0 := I0) (a := a) (b := b) (k := k) (m := k) (by omega)
 have hCo := fun p a b M0 I0 => wB (X := X) (w0 := w0) (M0 := M0) (I0 := I0) (p := p) (own := a) (org := b) (k := k + k + 1) (s := s) (by omega)
 obtain ⟨kb, hkb⟩ : ∃ kb, kb = 4 * s + 2 * (k + k + 1) + 3 := ⟨_, rfl⟩
 rw [← hkb] at hCo
 have hMe := fun c0 c1 M0 I0 => aOI (X := X) (w0 := w0) (M0 := M0) (I0 := I0) (c0 := c0) (c1 := c1) (k := kb) (by omega)
 refine eD (Hv.pw3 (h0.toPW (by omega)) (h1.toPW (by omega)) (h2.toPW (by omega))) (eD (Hv.w3 (g0.toW (by omega)) (g1.toW (by omega)) (g2.toW (by omega))).cons (eD (Hv.p3 h0 h1 h2).cons.cons (eD h0.cons.cons.cons (eD h1.cons.cons.cons.cons (eD h2.cons.cons.cons.cons.cons (eD g0.cons.cons.cons.cons.cons.cons (eD g1.cons.cons.cons.cons.cons.cons.cons (eD g2.cons.cons.cons.cons.cons.cons.cons.cons ?_))))))))
 generalize hI1 : bM s2 s :: bM s1 s :: bM s0 s :: cZ p2 k :: cZ p1 k :: cZ p0 k :: pO [p0, p1, p2] k :: aCY [s0.raw, s1.raw, s2.raw] :: sN [p0.raw, p1.raw, p2.raw] :: I0 = I1
 have f0 : cZ p0 k ∈ I1 := by rw [← hI1]; exact aC
 have f1 : cZ p1 k ∈ I1 := by rw [← hI1]; exact aC
 have f2 : cZ p2 k ∈ I1 := by rw [← hI1]; exact aC
 have f3 : bM s0 s ∈ I1 := by rw [← hI1]; exact aC
 have f4 : bM s1 s ∈ I1 := by rw [← hI1]; exact aC
 have f5 : bM s2 s ∈ I1 := by rw [← hI1]; exact aC
 have f6 : pO [p0, p1, p2] k ∈ I1 := by rw [← hI1]; exact aC
 have f7 : aCY [s0.raw, s1.raw, s2.raw] ∈ I1 := by rw [← hI1]; exact aC
 have f8 : sN [p0.raw, p1.raw, p2.raw] ∈ I1 := by rw [← hI1]; exact aC
 have f9 : Inc I1 I0 := by rw [← hI1]; exact aF
 clear hI1
 have fP0 := fun (ψ : aZ) (I : List aZ) (h : ψ ∈ I1) => h
 refine bE Tryz.func36 rfl Tryz.ntmps36 rfl ?_
 refine aL ?_
 refine aM ?_
 (refine aR rfl rfl rfl ?_; intro b2; refine ⟨okF, ?_⟩)
 (refine aR rfl rfl rfl ?_; intro b3; refine ⟨okF, ?_⟩)
 (refine aB rfl rfl ?_; intro b4; refine ⟨okF, ?_⟩)
 (refine aB rfl rfl ?_; intro b5; refine ⟨okF, ?_⟩)
 refine bF (b := b2) mW ?_
 refine bF (b := b3) mW ?_
 repeat (refine aJ ?_)
 refine aH rfl (fun _ => jJ rfl) rfl rfl ?_
 (refine aA rfl (hV _ _ _ (List.Mem.tail _ (List.Mem.head _)) (Hv.mem (List.Mem.tail _ (List.Mem.tail _ f8)))) rfl rfl ?_; rintro _ _ _ ⟨rfl, rfl, rfl⟩; refine ⟨okF, ?_⟩)
 repeat (refine aJ ?_)
 refine aH rfl (fun _ => jJ rfl) rfl rfl ?_
 (refine aA rfl (hVc _ _ _ (List.Mem.head _) (Hv.mem (List.Mem.tail _ (List.Mem.tail _ f7)))) rfl rfl ?_; rintro _ _ _ ⟨rfl, rfl, rfl⟩; refine ⟨okF, ?_⟩)
 repeat (refine aJ ?_)
 (refine aB rfl rfl ?_; intro b7; refine ⟨okF, ?_⟩)
 repeat (refine aJ ?_)
 refine kU (fun G M I => ∃ (b8 b9 : Nat) (q8 q9 : PE), q8.v = p0.v.sub p1.v ∧ q9.v = p2.v.sub p1.v ∧ G = [(2, .pointer (some ⟨b2, 0, none⟩)), (3, .pointer (some ⟨b3, 0, none⟩)), (4, .pointer (some ⟨b4, 0, none⟩)), (5, .pointer (some ⟨b5, 0, none⟩)), (7, .pointer (some ⟨b7, 0, none⟩)), (8, .pointer (some ⟨b8, 0, none⟩)), (9, .pointer (some ⟨b9, 0, none⟩))] ∧ M = .blk b9 (eP q9) 43 :: .blk b8 (eP q8) 43 :: .blk b7 (eP p1) 43 :: .blk b5 uA 43 :: .blk b4 uA 43 :: M0 ∧ I = cZ q9 (k + k + 1) :: cZ q8 (k + k + 1) :: bI (some ⟨b3, 0, none⟩) (recs eR [s0, s1, s2]) :: bI (some ⟨b2, 0, none⟩) (recs eP [p0, p1, p2]) :: I1) ?_ ?_
 ·((repeat refine aL ?_); refine iL (.blk b7 (eP p1) 43 :: M0) (bI (some ⟨b3, 0, none⟩) (recs eR [s0, s1, s2]) :: bI (some ⟨b2, 0, none⟩) (recs eP [p0, p1, p2]) :: I1) mixed ?_)
  refine bH (fuel := 6) (listed' := #[true, true, true, false, true, true, true, false, false, false, false, false]) [0, 1, 2, 4, 5, 6] [4, 3, 3, 5, 4, 4] aD aF (by kernel_rfl) (by kernel_rfl) rfl rfl ?_
  repeat (refine aJ ?_)
  refine fB (fuel := 5) (i := 3) (j := 8) (m := 9) (by kernel_rfl) ?_ ?_ ?_
  ·(refine aA rfl (hMi p0 p1 _ _ aP aP) rfl rfl ?_; rintro _ _ _ ⟨rfl, q8, rfl, hq8, rfl⟩; refine ⟨okF, ?_⟩)
   refine aI ?_
   repeat (refine aJ ?_)
   refine fB (fuel := 4) (i := 7) (j := 8) (m := 9) (by kernel_rfl) ?_ ?_ ?_
   ·(refine aA rfl (hMi p2 p1 _ _ aP aP) rfl rfl ?_; rintro _ _ _ ⟨rfl, q9, rfl, hq9, rfl⟩; refine ⟨okF, ?_⟩)
    refine aI ?_
    repeat (refine aJ ?_)
    refine aK (fuel := 3) (i := 8) (j := 9) (by kernel_rfl) ?_ ?_
    ·(refine aB rfl rfl ?_; intro b8; refine ⟨okF, ?_⟩)
     refine aI ?_
     refine aG [9, 10, 11] [0, 0, 0] aD aF (by kernel_rfl) (by kernel_rfl) rfl rfl ?_
     repeat (refine aJ ?_)
     (refine aB rfl rfl ?_; intro b9; refine ⟨okF, ?_⟩)
     repeat (refine aJ ?_)
     refine aN _ _ _ aO aD aF ⟨b8, b9, q8, q9, hq8, hq9, rfl, rfl, rfl⟩
    ·(refine aB rfl rfl ?_; intro b9; refine ⟨okF, ?_⟩)
     refine aI ?_
     refine aG [8, 10, 11] [0, 0, 0] aD aF (by kernel_rfl) (by kernel_rfl) rfl rfl ?_
     repeat (refine aJ ?_)
     (refine aB rfl rfl ?_; intro b8; refine ⟨okF, ?_⟩)
     repeat (refine aJ ?_)
     refine aN _ _ _ aO aD aF ⟨b8, b9, q8, q9, hq8, hq9, rfl, rfl, rfl⟩
   ·(refine aB rfl rfl ?_; intro b8; refine ⟨okF, ?_⟩)
    refine aI ?_
    repeat (refine aJ ?_)
    refine aK (fuel := 3) (i := 7) (j := 9) (by kernel_rfl) ?_ ?_
    ·(refine aA rfl (hMi p2 p1 _ _ aP aP) rfl rfl ?_; rintro _ _ _ ⟨rfl, q9, rfl, hq9, rfl⟩; refine ⟨okF, ?_⟩)
     refine aI ?_
     refine aG [9, 10, 11] [0, 0, 0] aD aF (by kernel_rfl) (by kernel_rfl) rfl rfl ?_
     repeat (refine aJ ?_)
     (refine aB rfl rfl ?_; intro b9; refine ⟨okF, ?_⟩)
     repeat (refine aJ ?_)
     refine aN _ _ _ aO aD aF ⟨b8, b9, q8, q9, hq8, hq9, rfl, rfl, rfl⟩
    ·(refine aB rfl rfl ?_; intro b9; refine ⟨okF, ?_⟩)
     refine aI ?_
     refine aG [7, 10, 11] [0, 0, 0] aD aF (by kernel_rfl) (by kernel_rfl) rfl rfl ?_
     repeat (refine aJ ?_)
     (refine aA rfl (hMi p2 p1 _ _ aP aP) rfl rfl ?_; rintro _ _ _ ⟨rfl, q9, rfl, hq9, rfl⟩; refine ⟨okF, ?_⟩)
     repeat (refine aJ ?_)
     refine aN _ _ _ aO aD aF ⟨b8, b9, q8, q9, hq8, hq9, rfl, rfl, rfl⟩
   ·(refine aB rfl rfl ?_; intro b9; refine ⟨okF, ?_⟩)
    refine aI ?_
    repeat (refine aJ ?_)
    refine aK (fuel := 3) (i := 7) (j := 8) (by kernel_rfl) ?_ ?_
    ·(refine aA rfl (hMi p2 p1 _ _ aP aP) rfl rfl ?_; rintro _ _ _ ⟨rfl, q9, rfl, hq9, rfl⟩; refine ⟨okF, ?_⟩)
     refine aI ?_
     refine aG [8, 10, 11] [0, 0, 0] aD aF (by kernel_rfl) (by kernel_rfl) rfl rfl ?_
     repeat (refine aJ ?_)
     (refine aB rfl rfl ?_; intro b8; refine ⟨okF, ?_⟩)
     repeat (refine aJ ?_)
     refine aN _ _ _ aO aD aF ⟨b8, b9, q8, q9, hq8, hq9, rfl, rfl, rfl⟩
    ·(refine aB rfl rfl ?_; intro b8; refine ⟨okF, ?_⟩)
     refine aI ?_
     refine aG [7, 10, 11] [0, 0, 0] aD aF (by kernel_rfl) (by kernel_rfl) rfl rfl ?_
     repeat (refine aJ ?_)
     (refine aA rfl (hMi p2 p1 _ _ aP aP) rfl rfl ?_; rintro _ _ _ ⟨rfl, q9, rfl, hq9, rfl⟩; refine ⟨okF, ?_⟩)
     repeat (refine aJ ?_)
     refine aN _ _ _ aO aD aF ⟨b8, b9, q8, q9, hq8, hq9, rfl, rfl, rfl⟩
  ·(refine aB rfl rfl ?_; intro b8; refine ⟨okF, ?_⟩)
   refine aI ?_
   repeat (refine aJ ?_)
   refine aK (fuel := 4) (i := 3) (j := 9) (by kernel_rfl) ?_ ?_
   ·(refine aA rfl (hMi p0 p1 _ _ aP aP) rfl rfl ?_; rintro _ _ _ ⟨rfl, q8, rfl, hq8, rfl⟩; refine ⟨okF, ?_⟩)
    refine aI ?_
    repeat (refine aJ ?_)
    refine aK (fuel := 3) (i := 7) (j := 9) (by kernel_rfl) ?_ ?_
    ·(refine aA rfl (hMi p2 p1 _ _ aP aP) rfl rfl ?_; rintro _ _ _ ⟨rfl, q9, rfl, hq9, rfl⟩; refine ⟨okF, ?_⟩)
     refine aI ?_
     refine aG [9, 10, 11] [0, 0, 0] aD aF (by kernel_rfl) (by kernel_rfl) rfl rfl ?_
     repeat (refine aJ ?_)
     (refine aB rfl rfl ?_; intro b9; refine ⟨okF, ?_⟩)
     repeat (refine aJ ?_)
     refine aN _ _ _ aO aD aF ⟨b8, b9, q8, q9, hq8, hq9, rfl, rfl, rfl⟩
    ·(refine aB rfl rfl ?_; intro b9; refine ⟨okF, ?_⟩)
     refine aI ?_
     refine aG [7, 10, 11] [0, 0, 0] aD aF (by kernel_rfl) (by kernel_rfl) rfl rfl ?_
     repeat (refine aJ ?_)
     (refine aA rfl (hMi p2 p1 _ _ aP aP) rfl rfl ?_; rintro _ _ _ ⟨rfl, q9, rfl, hq9, rfl⟩; refine ⟨okF, ?_⟩)
     repeat (refine aJ ?_)
     refine aN _ _ _ aO aD aF ⟨b8, b9, q8, q9, hq8, hq9, rfl, rfl, rfl⟩
   ·(refine aB rfl rfl ?_; intro b9; refine ⟨okF, ?_⟩)
    refine aI ?_
    refine aG [3, 7, 10, 11] [0, 0, 0, 0] aD aF (by kernel_rfl) (by kernel_rfl) rfl rfl ?_
    repeat (refine aJ ?_)
    (refine aA rfl (hMi p0 p1 _ _ aP aP) rfl rfl ?_; rintro _ _ _ ⟨rfl, q8, rfl, hq8, rfl⟩; refine ⟨okF, ?_⟩)
    repeat (refine aJ ?_)
    (refine aA rfl (hMi p2 p1 _ _ aP aP) rfl rfl ?_; rintro _ _ _ ⟨rfl, q9, rfl, hq9, rfl⟩; refine ⟨okF, ?_⟩)
    repeat (refine aJ ?_)
    refine aN _ _ _ aO aD aF ⟨b8, b9, q8, q9, hq8, hq9, rfl, rfl, rfl⟩
  ·(refine aB rfl rfl ?_; intro b9; refine ⟨okF, ?_⟩)
   refine aI ?_
   repeat (refine aJ ?_)
   refine aK (fuel := 4) (i := 3) (j := 8) (by kernel_rfl) ?_ ?_
   ·(refine aA rfl (hMi p0 p1 _ _ aP aP) rfl rfl ?_; rintro _ _ _ ⟨rfl, q8, rfl, hq8, rfl⟩; refine ⟨okF, ?_⟩)
    refine aI ?_
    repeat (refine aJ ?_)
    refine aK (fuel := 3) (i := 7) (j := 8) (by kernel_rfl) ?_ ?_
    ·(refine aA rfl (hMi p2 p1 _ _ aP aP) rfl rfl ?_; rintro _ _ _ ⟨rfl, q9, rfl, hq9, rfl⟩; refine ⟨okF, ?_⟩)
     refine aI ?_
     refine aG [8, 10, 11] [0, 0, 0] aD aF (by kernel_rfl) (by kernel_rfl) rfl rfl ?_
     repeat (refine aJ ?_)
     (refine aB rfl rfl ?_; intro b8; refine ⟨okF, ?_⟩)
     repeat (refine aJ ?_)
     refine aN _ _ _ aO aD aF ⟨b8, b9, q8, q9, hq8, hq9, rfl, rfl, rfl⟩
    ·(refine aB rfl rfl ?_; intro b8; refine ⟨okF, ?_⟩)
     refine aI ?_
     refine aG [7, 10, 11] [0, 0, 0] aD aF (by kernel_rfl) (by kernel_rfl) rfl rfl ?_
     repeat (refine aJ ?_)
     (refine aA rfl (hMi p2 p1 _ _ aP aP) rfl rfl ?_; rintro _ _ _ ⟨rfl, q9, rfl, hq9, rfl⟩; refine ⟨okF, ?_⟩)
     repeat (refine aJ ?_)
     refine aN _ _ _ aO aD aF ⟨b8, b9, q8, q9, hq8, hq9, rfl, rfl, rfl⟩
   ·(refine aB rfl rfl ?_; intro b8; refine ⟨okF, ?_⟩)
    refine aI ?_
    refine aG [3, 7, 10, 11] [0, 0, 0, 0] aD aF (by kernel_rfl) (by kernel_rfl) rfl rfl ?_
    repeat (refine aJ ?_)
    (refine aA rfl (hMi p0 p1 _ _ aP aP) rfl rfl ?_; rintro _ _ _ ⟨rfl, q8, rfl, hq8, rfl⟩; refine ⟨okF, ?_⟩)
    repeat (refine aJ ?_)
    (refine aA rfl (hMi p2 p1 _ _ aP aP) rfl rfl ?_; rintro _ _ _ ⟨rfl, q9, rfl, hq9, rfl⟩; refine ⟨okF, ?_⟩)
    repeat (refine aJ ?_)
    refine aN _ _ _ aO aD aF ⟨b8, b9, q8, q9, hq8, hq9, rfl, rfl, rfl⟩
 ·rintro G M I ⟨b8, b9, q8, q9, hq8, hq9, rfl, rfl, rfl⟩
  refine oF (fun G M I => ∃ (b10 : Nat), G = (11, .bool false) :: [(2, .pointer (some ⟨b2, 0, none⟩)), (3, .pointer (some ⟨b3, 0, none⟩)), (4, .pointer (some ⟨b4, 0, none⟩)), (5, .pointer (some ⟨b5, 0, none⟩)), (7, .pointer (some ⟨b7, 0, none⟩)), (8, .pointer (some ⟨b8, 0, none⟩)), (9, .pointer (some ⟨b9, 0, none⟩)), (10, .pointer (some ⟨b10, 0, none⟩))] ∧ M = .blk b10 uA 43 :: .blk b9 (eP q9) 43 :: .blk b8 (eP q8) 43 :: .blk b7 (eP p1) 43 :: .blk b5 uA 43 :: .blk b4 uA 43 :: M0 ∧ I = bI (some ⟨b3, 0, none⟩) (recs eR [s0, s1, s2]) :: bI (some ⟨b2, 0, none⟩) (recs eP [p0, p1, p2]) :: I1) ?_ ?_
  ·have hMe2 : ∀ (c0 c1 : CE) M0 I0, c0.b.v = cnB q8.v s0.q s1.q → c1.b.v = cnB q9.v s2.q s1.q → _ → _ → CD Tryz.prog 87 [.agg (recs eC [c0, c1]).toArray] X w0 M0 I0 (fun v M I => M0 = M ∧ I0 = I ∧ v = .tuple #[zP, .bool false]) := fun c0 c1 M0 I0 e2 e4 a1 a2 => by
    have hh := hMe c0 c1 M0 I0 a1 a2
    rw [e2, e4, hq8, hq9] at hh
    exact hh hd
   ((repeat refine aL ?_); refine iL (.blk b9 (eP q9) 43 :: .blk b8 (eP q8) 43 :: M0) (cZ q9 (k + k + 1) :: cZ q8 (k + k + 1) :: bI (some ⟨b3, 0, none⟩) (recs eR [s0, s1, s2]) :: bI (some ⟨b2, 0, none⟩) (recs eP [p0, p1, p2]) :: I1) mixed ?_)
   refine bH (fuel := 10) (listed' := #[true, true, true, true, true, false, true, true, true, true, true, false, false, false, false, false, false, false, false, false]) [0, 1, 2, 3, 4, 6, 7, 8, 9, 10] [3, 4, 3, 4, 3, 3, 4, 3, 4, 3] aD aF (by kernel_rfl) (by kernel_rfl) rfl rfl ?_
   repeat (refine aJ ?_)
   refine aK (fuel := 9) (i := 5) (j := 17) (by kernel_rfl) ?_ ?_
   ·(refine aA rfl (hCo q8 s0 s1 _ _ aP aP aP) rfl rfl ?_; rintro _ _ _ ⟨rfl, c0, rfl, ha0, hb0, rfl⟩; refine ⟨okF, ?_⟩)
    refine aI ?_
    repeat (refine aJ ?_)
    refine aK (fuel := 8) (i := 11) (j := 17) (by kernel_rfl) ?_ ?_
    ·(refine aA rfl (hCo q9 s2 s1 _ _ aP aP aP) rfl rfl ?_; rintro _ _ _ ⟨rfl, c1, rfl, ha1, hb1, rfl⟩; refine ⟨okF, ?_⟩)
     refine aI ?_
     refine bH (fuel := 7) (listed' := #[true, true, true, true, true, true, true, true, true, true, true, true, true, false, false, false, false, false, false, false]) [12] [1] aD aF (by kernel_rfl) (by kernel_rfl) rfl rfl ?_
     repeat (refine aJ ?_)
     (refine aH rfl (fun _ => aX (vals := [cv c0, cv c1]) (cells := recs eC [c0, c1]) rfl ?hpl rfl ?hz) rfl rfl ?_; (case hpl => exact (by intro v hv; repeat (first | exact absurd hv (List.not_mem_nil) | (rcases List.mem_cons.1 hv with rfl | hv; · rfl)))); (case hz => rfl))
     repeat (refine aJ ?_)
     refine aK (fuel := 6) (i := 13) (j := 17) (by kernel_rfl) ?_ ?_
     ·(refine aA rfl (hMe2 c0 c1 _ _ hb0 hb1 aP aP) rfl rfl ?_; rintro _ _ _ ⟨rfl, rfl, rfl⟩; refine ⟨okF, ?_⟩)
      refine aI ?_
      refine aG [14, 15, 16, 17, 18, 19] [1, 1, 2, 0, 0, 0] aD aF (by kernel_rfl) (by kernel_rfl) rfl rfl ?_
      repeat (refine aJ ?_)
      (refine aB rfl rfl ?_; intro b10; refine ⟨okF, ?_⟩)
      repeat (refine aJ ?_)
      refine aN _ _ _ aO aD aF ⟨b10, rfl, rfl, rfl⟩
     ·(refine aB rfl rfl ?_; intro b10; refine ⟨okF, ?_⟩)
      refine aI ?_
      refine aG [13, 14, 15, 16, 18, 19] [0, 0, 0, 1, 0, 0] aD aF (by kernel_rfl) (by kernel_rfl) rfl rfl ?_
      repeat (refine aJ ?_)
      (refine aA rfl (hMe2 c0 c1 _ _ hb0 hb1 aP aP) rfl rfl ?_; rintro _ _ _ ⟨rfl, rfl, rfl⟩; refine ⟨okF, ?_⟩)
      repeat (refine aJ ?_)
      refine aN _ _ _ aO aD aF ⟨b10, rfl, rfl, rfl⟩
    ·(refine aB rfl rfl ?_; intro b10; refine ⟨okF, ?_⟩)
     refine aI ?_
     refine aG [11, 12, 13, 14, 15, 16, 18, 19] [0, 0, 0, 0, 0, 1, 0, 0] aD aF (by kernel_rfl) (by kernel_rfl) rfl rfl ?_
     repeat (refine aJ ?_)
     (refine aA rfl (hCo q9 s2 s1 _ _ aP aP aP) rfl rfl ?_; rintro _ _ _ ⟨rfl, c1, rfl, ha1, hb1, rfl⟩; refine ⟨okF, ?_⟩)
     repeat (refine aJ ?_)
     (refine aH rfl (fun _ => aX (vals := [cv c0, cv c1]) (cells := recs eC [c0, c1]) rfl ?hpl rfl ?hz) rfl rfl ?_; (case hpl => exact (by intro v hv; repeat (first | exact absurd hv (List.not_mem_nil) | (rcases List.mem_cons.1 hv with rfl | hv; · rfl)))); (case hz => rfl))
     repeat (refine aJ ?_)
     (refine aA rfl (hMe2 c0 c1 _ _ hb0 hb1 aP aP) rfl rfl ?_; rintro _ _ _ ⟨rfl, rfl, rfl⟩; refine ⟨okF, ?_⟩)
     repeat (refine aJ ?_)
     refine aN _ _ _ aO aD aF ⟨b10, rfl, rfl, rfl⟩
   ·(refine aB rfl rfl ?_; intro b10; refine ⟨okF, ?_⟩)
    refine aI ?_
    refine aG [5, 11, 12, 13, 14, 15, 16, 18, 19] [0, 0, 0, 0, 0, 0, 1, 0, 0] aD aF (by kernel_rfl) (by kernel_rfl) rfl rfl ?_
    repeat (refine aJ ?_)
    (refine aA rfl (hCo q8 s0 s1 _ _ aP aP aP) rfl rfl ?_; rintro _ _ _ ⟨rfl, c0, rfl, ha0, hb0, rfl⟩; refine ⟨okF, ?_⟩)
    repeat (refine aJ ?_)
    (refine aA rfl (hCo q9 s2 s1 _ _ aP aP aP) rfl rfl ?_; rintro _ _ _ ⟨rfl, c1, rfl, ha1, hb1, rfl⟩; refine ⟨okF, ?_⟩)
    repeat (refine aJ ?_)
    (refine aH rfl (fun _ => aX (vals := [cv c0, cv c1]) (cells := recs eC [c0, c1]) rfl ?hpl rfl ?hz) rfl rfl ?_; (case hpl => exact (by intro v hv; repeat (first | exact absurd hv (List.not_mem_nil) | (rcases List.mem_cons.1 hv with rfl | hv; · rfl)))); (case hz => rfl))
    repeat (refine aJ ?_)
    (refine aA rfl (hMe2 c0 c1 _ _ hb0 hb1 aP aP) rfl rfl ?_; rintro _ _ _ ⟨rfl, rfl, rfl⟩; refine ⟨okF, ?_⟩)
    repeat (refine aJ ?_)
    refine aN _ _ _ aO aD aF ⟨b10, rfl, rfl, rfl⟩
  ·rintro G M I ⟨b10, rfl, rfl, rfl⟩
   repeat (refine aJ ?_)
   (refine aH rfl (fun _ => dD (pvs := ([]).zipIdx.map (fun p => (p.2, p.1))) (cells := uA) rfl rfl) rfl rfl ?_)
   (refine aH rfl (fun _ => dD (pvs := ([]).zipIdx.map (fun p => (p.2, p.1))) (cells := uA) rfl rfl) rfl rfl ?_)
   repeat (refine aJ ?_)
   refine iW (rs := [.cell 4 43, .cell 5 43, .tmp 6]) (vs := [zP, zP, .int .i64 13]) (.inl rfl) rfl (.cellN (cs := uA) inferInstance rfl aC rfl (.cellN (cs := uA) inferInstance rfl aC rfl (.tmp rfl .nil))) rfl M0 I0 aD (.of (fun φ hp => List.mem_cons_of_mem _ (List.mem_cons_of_mem _ (f9.mem φ hp)))) ⟨rfl, rfl, rfl⟩
end
end Go.Proofs.YtkccjglmnhgabaaGreat
namespace Go.Fx
open Go.ChangeShapes Go.WideShapes Go.RowKit Go.ChangeAt
section
variable {H : Type} {enc : TypeId × Value → H} {P : Program} {W : World}
theorem aED {sz : Nat} : ∀ (rows : List (List Value)) (k : Nat) (v : Value), (∀ r ∈ rows, r.length = sz) → rows.flatten[k]? = some v → ∃ i row, rows[i]? = some row ∧ i * sz ≤ k ∧ row[k - i * sz]? = some v
 | [], k, v, _, h => by simp at h
 | r :: rows, k, v, hr, h => by
  rw [List.flatten_cons] at h
  have hl := hr r (by simp)
  by_cases hk : k < r.length
  ·rw [List.getElem?_append_left hk] at h
   exact ⟨0, r, by simp, by omega, by simpa using h⟩
  ·rw [List.getElem?_append_right (by omega)] at h
   obtain ⟨i, row, h1, h2, h3⟩ := aED rows _ v (fun r' hr' => hr r' (by simp [hr'])) h
   refine ⟨i + 1, row, by simpa using h1, by rw [Nat.add_mul]; omega, ?_⟩
   rw [← h3]
   congr 1
   rw [Nat.add_mul]; omega
theorem aIS {base fuel : Nat} {t e : TypeId} {v : Value} {x : DataW H × List MemPlace} (ht : P.underlying t = some (.slice e)) (hv : Value.okWide P W .any base t v) (h : DataW.trod enc P W 0 (fun _ => true) true fuel t v.cells.toList = some x) :
  ∃ (a : Option Addr) (len c : Nat), v = .slice a len c ∧ (len : Int) ≤ 9223372036854775807 ∧ len ≤ c ∧ (Ok a ∨ (a = none ∧ len = 0 ∧ c = 0)) ∧
   ∃ rows : List (List Value), rows.length = len ∧ (∀ r ∈ rows, r.length = P.cellsOf e ∧ ∃ n y, DataW.trod enc P W 0 (fun _ => true) true n e r = some y) ∧ Sl [] W a rows.flatten := by
 obtain ⟨a, len, c, rfl⟩ := okWide_slice ht hv
 obtain ⟨h1, h2, h3⟩ := aLJ ht hv
 refine ⟨a, len, c, rfl, h1, h2, h3, ?_⟩
 rcases DataW.trod_slice ht h with ⟨hcs, _⟩ | ⟨a', len', cap', elems, rest, n, _, hcs, _, _, _, _, hlen, hel, _, _⟩
 ·simp [Value.cells] at hcs
  obtain ⟨rfl, rfl, rfl⟩ := hcs
  exact ⟨[], rfl, by simp, Sl.nil _ _ _⟩
 ·simp [Value.cells] at hcs
  obtain ⟨rfl, rfl, rfl⟩ := hcs
  have hok : Ok (some a') := h3.resolve_right (by simp)
  have each : ∀ i, i < len → ∃ cs y, W.cells? 0 (a'.add (i * P.cellsOf e)) (P.cellsOf e) = some cs ∧ DataW.trod enc P W 0 (fun _ => true) true n e cs = some y := fun i hi => by
   have := hel i hi
   rw [List.getElem?_eq_getElem (by omega), Option.bind_eq_some_iff] at this
   obtain ⟨cs, h1, h2⟩ := this
   exact ⟨cs, _, h1, h2⟩
  refine ⟨(List.range len).map (fun i => (W.cells? 0 (a'.add (i * P.cellsOf e)) (P.cellsOf e)).getD []), by simp, ?_, ?_⟩
  ·intro r hr
   obtain ⟨i, hi, rfl⟩ := List.mem_map.1 hr
   obtain ⟨cs, y, h4, h5⟩ := each i (by simpa using hi)
   rw [h4]
   exact ⟨(World.cells?_some h4).2.1, n, y, h5⟩
  ·intro j v hj
   have hall : ∀ r ∈ (List.range len).map (fun i => (W.cells? 0 (a'.add (i * P.cellsOf e)) (P.cellsOf e)).getD []), r.length = P.cellsOf e := by
    intro r hr
    obtain ⟨i, hi, rfl⟩ := List.mem_map.1 hr
    obtain ⟨cs, y, h4, h5⟩ := each i (by simpa using hi)
    rw [h4]
    exact (World.cells?_some h4).2.1
   obtain ⟨i, row, h4, h5, h6⟩ := aED _ j v hall hj
   rw [List.getElem?_map] at h4
   obtain ⟨i', hi', rfl⟩ := Option.map_eq_some_iff.1 h4
   have hii : i' = i ∧ i < len := by
    obtain ⟨q1, q2⟩ := List.getElem?_eq_some_iff.1 hi'
    rw [List.getElem_range] at q2
    exact ⟨q2.symm, by simpa using q1⟩
   obtain ⟨rfl, hil⟩ := hii
   obtain ⟨cs, y, h7, h8⟩ := each i' hil
   rw [h7] at h6
   simp only [Option.getD_some] at h6
   obtain ⟨_, hl, hc⟩ := World.cells?_some h7
   have hlt : j - i' * P.cellsOf e < P.cellsOf e := by
    have := (List.getElem?_eq_some_iff.1 h6).1
    omega
   have hcell := hc _ hlt
   rw [h6] at hcell
   refine ⟨hok, by simp, ?_⟩
   obtain ⟨b, o, eq⟩ := hok.cases
   injection eq with eq
   subst eq
   rw [add_lit, add_lit] at hcell
   rw [← hcell]
   simp only [pt, bl, of, Option.getD_some]
   congr 2
   omega
theorem aCW {α : Type} {en : α → List Value} {Pm : α → Prop} {base : Nat} {t e : TypeId} {v : Value} {d : DataW H} {p : List MemPlace} (ht : P.underlying t = some (.slice e)) (hdec : ∀ (r : List Value) n y, r.length = P.cellsOf e → DataW.trod enc P W 0 (fun _ => true) true n e r = some y → ∃ m, r = en m ∧ Pm m)
  (hv : Value.okWide P W .any base t v) (h : DataW.Trod enc P W 0 (fun _ => true) true t v d p) :
  ∃ (a : Option Addr) (ms : List α) (c : Nat), v = .slice a ms.length c ∧ Sl [] W a (recs en ms) ∧ (∀ m ∈ ms, Pm m) ∧ (ms.length : Int) ≤ 9223372036854775807 ∧ ms.length ≤ c ∧ (Ok a ∨ (a = none ∧ ms.length = 0 ∧ c = 0)) := by
 obtain ⟨fuel, hf⟩ := h
 obtain ⟨a, len, c, rfl, h1, h2, h3, rows, hl, hr, hs⟩ := aIS ht hv hf
 have key : ∀ rows : List (List Value), (∀ r ∈ rows, r.length = P.cellsOf e ∧ ∃ n y, DataW.trod enc P W 0 (fun _ => true) true n e r = some y) → ∃ ms : List α, rows = ms.map en ∧ ∀ m ∈ ms, Pm m := by
  intro rows
  induction rows with
  | nil => intro _; exact ⟨[], rfl, by simp⟩
  | cons r rows ih =>
   intro hr
   obtain ⟨hrl, n, y, hy⟩ := hr r (by simp)
   obtain ⟨m, rfl, hm⟩ := hdec r n y hrl hy
   obtain ⟨ms, rfl, hms⟩ := ih (fun r' hr' => hr r' (by simp [hr']))
   exact ⟨m :: ms, rfl, fun m' hm' => by
    rcases List.mem_cons.1 hm' with rfl | hm'
    ·exact hm
    ·exact hms m' hm'⟩
 obtain ⟨ms, rfl, hms⟩ := key rows hr
 have hlen : ms.length = len := by simpa using hl
 subst hlen
 refine ⟨a, ms, c, rfl, ?_, hms, h1, h2, h3⟩
 rw [← List.flatMap_def] at hs
 exact hs
theorem aMI {t : TypeId} {k : IntKind} {n : Nat} {cs : List Value} {y : DataW H × List MemPlace} (ht : P.underlying t = some (.int k)) (h : DataW.trod enc P W 0 (fun _ => true) true n t cs = some y) : ∃ x : Int, cs = [.int k x] ∧ (Lit.int k x).wf = true := by
 obtain ⟨m, h1, _, h2⟩ := DataW.trod_int ht h
 exact ⟨m, h1, h2⟩
theorem Mem.startS {W : World} {I : List aZ} {a : Option Addr} {cs : List Value} (h : Mem [] W [] I W) (hs : Sl [] W a cs) : Mem [] W [] (bI a cs :: I) W := h.add (φ := bI a cs) ⟨hs⟩
end
end Go.Fx
namespace Go.Proofs.YtkccjglmnhgabaaGreat
open Go Go.Fx
open Go.ChangeShapes Go.WideShapes Go.RowKit Go.ChangeAt
def RW.reach (r : RW) : Prop := r.g1.length ≤ 35184372088832 ∧ r.g2.length ≤ 35184372088832
section
variable {H : Type} {enc : TypeId × Value → H} {P : Program} {W : World}
end
end Go.Proofs.YtkccjglmnhgabaaGreat
namespace Go.Proofs.YtkccjglmnhgabaaGreat
open Go Go.Fx
section
variable {X : List Nat} {w0 : World} {M0 : List Ent} {I0 : List aZ}
theorem qV {x : Int} (hx : -9223372036854775808 ≤ x ∧ x ≤ 9223372036854775807) {k : Nat} (hk : x.natAbs ≤ 2 ^ k) :
  CD Tryz.prog 12 [.int .i64 x] X w0 M0 I0 (RQ (x : Rat) k M0 I0) := by
 refine cO Tryz.func12 rfl Tryz.ntmps12 rfl ?_
 refine aL ?_
 refine aM ?_
 (refine aB rfl rfl ?_; intro b2; refine ⟨okF, ?_⟩)
 repeat (refine aJ ?_)
 (refine aA rfl (aFB hx hk) rfl rfl ?_; rintro _ _ _ ⟨rfl, e, rfl, he, rfl⟩; refine ⟨okF, ?_⟩)
 repeat (refine aJ ?_)
 refine bK (cs := eR e) (.inl rfl) rfl rfl aC rfl M0 (bM e k :: I0) aD aF ⟨rfl, e, rfl, he, rfl⟩
theorem aMT {a b : RE} {k m : Nat} (hk : k + m ≤ 100000000000) (hb0 : b.q ≠ 0) (ha : Hv I0 (bM a k)) (hb : Hv I0 (bM b m)) :
  CD Tryz.prog 56 [rv a, rv b] X w0 M0 I0 (RQ (a.q / b.q) (k + m) M0 I0) := by
 refine bE Tryz.func56 rfl Tryz.ntmps56 rfl ?_
 refine aL ?_
 refine aM ?_
 (refine aR rfl rfl rfl ?_; intro b1; refine ⟨okF, ?_⟩)
 (refine aR rfl rfl rfl ?_; intro b2; refine ⟨okF, ?_⟩)
 (refine aB rfl rfl ?_; intro b3; refine ⟨okF, ?_⟩)
 repeat (refine aJ ?_)
 (refine aA rfl (aEA hk hb0 ha hb) rfl rfl ?_; rintro _ _ _ ⟨rfl, e, rfl, he, rfl⟩; refine ⟨okF, ?_⟩)
 repeat (refine aJ ?_)
 (refine aB rfl rfl ?_; intro b5; refine ⟨okF, ?_⟩)
 repeat (refine aJ ?_)
 refine bK (cs := eR e) (.inl rfl) rfl rfl aC rfl M0 (bM e (k + m) :: I0) aD aF ⟨rfl, e, rfl, he, rfl⟩
theorem aCE {a : RE} {k : Nat} (hk : k ≤ 100000000000) (ha : Hv I0 (bM a k)) :
  CD Tryz.prog 40 [rv a] X w0 M0 I0 (fun v M I => M0 = M ∧ I0 = I ∧ v = .bool (B (a.q = 0))) := by
 refine cO Tryz.func40 rfl Tryz.ntmps40 rfl ?_
 refine aL ?_
 refine aM ?_
 (refine aR rfl rfl rfl ?_; intro b1; refine ⟨okF, ?_⟩)
 repeat (refine aJ ?_)
 (refine aA rfl (wH hk ha) rfl rfl ?_; rintro _ _ _ ⟨rfl, rfl, rfl⟩; refine ⟨okF, ?_⟩)
 repeat (refine aJ ?_)
 refine aQ (by first | exact .inl rfl | exact .inr rfl) rfl rfl _ _ aD aF (⟨rfl, rfl, congrArg Value.bool (gD sgn0)⟩)
theorem aIG {x y : Int} (hx : -9223372036854775808 ≤ x ∧ x ≤ 9223372036854775807) (hy : -9223372036854775808 ≤ y ∧ y ≤ 9223372036854775807) {k : Nat} (hk : x.natAbs ≤ 2 ^ k) (hm : y.natAbs ≤ 2 ^ k) :
  CD Tryz.prog 37 [.int .i64 x, .int .i64 y] X w0 M0 I0 (PQ ⟨(x : Rat), (y : Rat)⟩ k M0 I0) := by
 refine bE Tryz.func37 rfl Tryz.ntmps37 rfl ?_
 refine aL ?_
 refine aM ?_
 (refine aB rfl rfl ?_; intro b3; refine ⟨okF, ?_⟩)
 repeat (refine aJ ?_)
 (refine aA rfl (qV hx hk) rfl rfl ?_; rintro _ _ _ ⟨rfl, e1, rfl, he1, rfl⟩; refine ⟨okF, ?_⟩)
 repeat (refine aJ ?_)
 (refine aA rfl (qV hy hm) rfl rfl ?_; rintro _ _ _ ⟨rfl, e2, rfl, he2, rfl⟩; refine ⟨okF, ?_⟩)
 (refine aH rfl (fun _ => jP (vals := [rv e1, rv e2]) (cells := eP ⟨e1, e2⟩) rfl ?hpl rfl ?hz) rfl rfl ?_; (case hpl => repeat (first | exact True.intro | refine ⟨rfl, ?_⟩)); (case hz => rfl))
 repeat (refine aJ ?_)
 refine qG (a := e1) (b := e2) (k := k) aP aP ?_
 refine bK (cs := eP ⟨e1, e2⟩) (.inl rfl) rfl rfl aC rfl M0 (cZ ⟨e1, e2⟩ k :: I0) aD aF ⟨rfl, ⟨e1, e2⟩, rfl, by simp only [PE.v, he1, he2], rfl⟩
theorem aKK {a b : PE} {k m : Nat} (hk : k + m + 1 ≤ 100000000000) (ha : Hv I0 (cZ a k)) (hb : Hv I0 (cZ b m)) :
  CD Tryz.prog 39 [pv a, pv b] X w0 M0 I0 (fun v M I => M0 = M ∧ I0 = I ∧ v = .bool (B (a.v = b.v))) := by
 have h1 := fun M0 I0 => qX (X := X) (w0 := w0) (M0 := M0) (I0 := I0) (a := a.x) (b := b.x) (k := k) (m := m) (by omega)
 have h2 := fun M0 I0 => qX (X := X) (w0 := w0) (M0 := M0) (I0 := I0) (a := a.y) (b := b.y) (k := k) (m := m) (by omega)
 have e3 : a.v = b.v ↔ (aDT a.x.q b.x.q = 0 ∧ aDT a.y.q b.y.q = 0) := by rw [aBW, aBW]; simp [PE.v]
 rw [gD e3]
 generalize aDT a.x.q b.x.q = s1 at *
 generalize aDT a.y.q b.y.q = s2 at *
 refine bE Tryz.func39 rfl Tryz.ntmps39 rfl ?_
 refine aL ?_
 refine aM ?_
 (refine aR rfl rfl rfl ?_; intro b1; refine ⟨okF, ?_⟩)
 (refine aR rfl rfl rfl ?_; intro b2; refine ⟨okF, ?_⟩)
 repeat (refine aJ ?_)
 (refine aA rfl (h1 _ _ ha.pxH hb.pxH) rfl rfl ?_; rintro _ _ _ ⟨rfl, rfl, rfl⟩; refine ⟨okF, ?_⟩)
 repeat' (first | refine aJ ?_ | refine aU rfl (fun h => ?_) (fun h => ?_) | refine aT rfl rfl (fun h => ?_) (fun h => ?_) | fail)
 ·(refine aA rfl (h2 _ _ ha.pyH hb.pyH) rfl rfl ?_; rintro _ _ _ ⟨rfl, rfl, rfl⟩; refine ⟨okF, ?_⟩)
  repeat (refine aJ ?_)
  refine aQ (by first | exact .inl rfl | exact .inr rfl) rfl rfl _ _ aD aF (⟨rfl, rfl, congrArg Value.bool (gD ⟨fun h2 => ⟨by omega, h2⟩, fun h2 => h2.2⟩)⟩)
 ·refine aQ (by first | exact .inl rfl | exact .inr rfl) rfl rfl _ _ aD aF (⟨rfl, rfl, congrArg Value.bool (bN (fun h2 => by omega)).symm⟩)
end
end Go.Proofs.YtkccjglmnhgabaaGreat
namespace Go.Proofs.YtkccjglmnhgabaaGreat
open Go Go.Fx
def PW.reach (p : PW) : Prop := p.x.reach ∧ p.y.reach
def PW.dig (p : PW) : Nat := p.x.g1.length + p.x.g2.length + (p.y.g1.length + p.y.g2.length)
section
variable {X : List Nat} {w0 : World} {M0 : List Ent} {I0 : List aZ}
end
end Go.Proofs.YtkccjglmnhgabaaGreat
namespace Go.Proofs.YtkccjglmnhgabaaGreat
open Go Go.Fx
def dstep (A : Mt) (j x : Nat) : Mt := (swp A j x).mapIdx (fun i row => if i ≤ j then row else if row.getD j 0 = 0 then row else nQ j (row.getD j 0 / at2 (swp A j x) j j) (rowAt (swp A j x) j) row)
def blkF (A : Mt) (j : Nat) : Nat → Nat → Rat := fun i k => at2 A (i + j) (k + j)
end Go.Proofs.YtkccjglmnhgabaaGreat
namespace Go.Proofs.YtkccjglmnhgabaaGreat
open Go Go.Fx
/- regions that draw: some reads see all up to a first effect, others what stays up to a second one -/
section
variable {P : Program} {n : Nat} {Q : Exit → Act → World → Prop} {G : Env} {X : List Nat} {w0 : World} {M M' M1 Ms : List Ent} {I I' I1 Is : List aZ}
def CsL (J1 J2 : Nat) (X : List Nat) (w0 : World) (M : List Ent) (I : List aZ) (Ms : List Ent) (Is : List aZ) : Nat → World → Prop := fun s w => (s ≤ J1 → Mem X w0 M I w) ∧ (s ≤ J2 → Mem X w0 Ms Is w)
end
section
variable {X : List Nat} {w0 : World} {M0 : List Ent} {I0 : List aZ}
abbrev zRm : List Value := [.bool false, .slice none 0 0, .bool false, .slice none 0 0]
end
end Go.Proofs.YtkccjglmnhgabaaGreat
namespace Go.Proofs.YtkccjglmnhgabaaGreat
open Go Go.Fx
/- ---------- IndexFunc, ContainsFunc of []fiducial/api.Rat ---------- -/
section
variable {X : List Nat} {w0 : World} {M0 : List Ent} {I0 : List aZ}
end
def zeroL (l : List Rat) : Prop := ∀ x ∈ l, x = 0
instance (l : List Rat) : Decidable (zeroL l) := inferInstanceAs (Decidable (∀ x ∈ l, x = 0))
def symM (A : Mt) (n : Nat) : Prop := ∀ i, i < n → ∀ j, j < i → at2 A i j = at2 A j i
instance (A : Mt) (n : Nat) : Decidable (symM A n) := inferInstanceAs (Decidable (∀ i, i < n → ∀ j, j < i → at2 A i j = at2 A j i))
def symC (A : Mt) (n : Nat) : Int := if symM A n then 0 else 11
section
variable {X : List Nat} {w0 : World} {M0 : List Ent} {I0 : List aZ}
end
end Go.Proofs.YtkccjglmnhgabaaGreat
namespace Go.Proofs.YtkccjglmnhgabaaGreat
open Go Go.Fx
section
variable {X : List Nat} {w0 : World} {M0 : List Ent} {I0 : List aZ}
end
end Go.Proofs.YtkccjglmnhgabaaGreat
namespace Go.Proofs.YtkccjglmnhgabaaGreat
open Go Go.Fx
def besI (n : Nat) (A : Mt) : Mt := mkM n (n + n) (fun i j => if j < n then at2 A i j else dlt i (j - n))
def invM (n : Nat) (A : Mt) : Mt := mkM n n (fun i j => at2 (kM (besI n A) n).1 i (n + j))
section
variable {X : List Nat} {w0 : World} {M0 : List Ent} {I0 : List aZ}
end
end Go.Proofs.YtkccjglmnhgabaaGreat
namespace Go.Proofs.YtkccjglmnhgabaaGreat
open Go Go.Fx
structure IL where
 p : Option Addr
 c : Nat
 xs : List Int
instance : Inhabited IL := ⟨⟨none, 0, []⟩⟩
abbrev eIL (r : IL) : List Value := [.slice r.p r.xs.length r.c]
abbrev ivL (r : IL) : Value := .slice r.p r.xs.length r.c
instance : Sized eIL 1 := ⟨fun _ => rfl⟩
instance : Ones eIL := ⟨fun m u hu => by simp only [eIL, List.mem_cons, List.not_mem_nil, or_false] at hu; subst hu; rfl⟩
/- ---------- IndexFunc, ContainsFunc of [][]int ---------- -/
section
variable {X : List Nat} {w0 : World} {M0 : List Ent} {I0 : List aZ}
end
theorem q_ext {x y : RL} (hl : x.es.length = y.es.length) (h : ∀ j : Nat, j < x.es.length → (gt x.es (j : Int)).q = (gt y.es (j : Int)).q) : x.q = y.q := by
 apply tC
 ·simp [hl]
 ·intro t ht
  have ht' : t < x.es.length := by simpa using ht
  rw [kH ht', kH (by omega)]
  exact h t ht'
theorem q_at {x y : RL} (h : x.q = y.q) {j : Nat} (hj : j < x.es.length) : (gt x.es (j : Int)).q = (gt y.es (j : Int)).q := by
 have hl : x.es.length = y.es.length := by have := congrArg List.length h; simpa using this
 rw [← kH hj, ← kH (by omega)]
 exact congrArg (fun l => List.getD l j 0) h
section
variable {X : List Nat} {w0 : World} {M0 : List Ent} {I0 : List aZ}
theorem aPC {a b : MX} (hl : a.rows.length = b.rows.length) (h : ∀ j : Nat, j < a.rows.length → (gt a.rows (j : Int)).q = (gt b.rows (j : Int)).q) : a.q = b.q := by
 apply List.ext_getElem
 ·simp [hl]
 ·intro j h1 h2
  have hj : j < a.rows.length := by simpa using h1
  have := h j hj
  rw [fH hj, fH (by omega)] at this
  simpa using this
theorem aPB {a b : MX} (h : a.q = b.q) {j : Nat} (hj : j < a.rows.length) : (gt a.rows (j : Int)).q = (gt b.rows (j : Int)).q := by
 have hl : a.rows.length = b.rows.length := by have := congrArg List.length h; simpa using this
 rw [← xR hj, ← xR (by omega), h]
end
end Go.Proofs.YtkccjglmnhgabaaGreat
namespace Go.Proofs.YtkccjglmnhgabaaGreat
open Go Go.Fx
structure AllIL (rows : List IL) (X : List Nat) (w : World) : Prop where
 go : ∀ r ∈ rows, Sl X w r.p (recs (eI .i64) r.xs)
abbrev allIL (rows : List IL) : aZ := AllIL rows
instance (rows : List IL) : Fx.Good (AllIL rows) := ⟨fun X Y w w' h he hY => ⟨fun r hm => Sl.carry (h.go r hm) he hY⟩⟩
abbrev bxI (b : Nat) (q : Option Addr) (n c : Nat) : aZ := bI (some ⟨b, 0, none⟩) [.slice q n c]
section
variable {X : List Nat} {w0 : World} {M0 : List Ent} {I0 : List aZ}
end
end Go.Proofs.YtkccjglmnhgabaaGreat
namespace Go.Proofs.YtkccjglmnhgabaaGreat
open Go Go.Fx
def kA : Mt := [[((2 : Int) : Rat), ((1 : Int) : Rat)], [((1 : Int) : Rat), ((1 : Int) : Rat)]]
def kC : Mt := [[((1 : Int) : Rat), ((-1 : Int) : Rat)], [((-1 : Int) : Rat), ((2 : Int) : Rat)]]
section
variable {X : List Nat} {w0 : World} {M0 : List Ent} {I0 : List aZ}
end
end Go.Proofs.YtkccjglmnhgabaaGreat
namespace Go.Proofs.YtkccjglmnhgabaaGreat
def rsF (f : Nat → Nat → Rat) : Nat → Nat → Nat → Rat
 | 0 => f
 | k + 1 => fun i j => if k < i ∧ k ≤ j then rsF f k i j - rsF f k i k / rsF f k k k * rsF f k k j else rsF f k i j
def bk (f : Nat → Nat → Rat) (k : Nat) : Nat → Nat → Rat := fun a b => rsF f k (a + k) (b + k)
def pvs (f : Nat → Nat → Rat) : Nat → Rat
 | 0 => 1
 | k + 1 => pvs f k * bk f k 0 0
def qf (f : Nat → Nat → Rat) (v : Nat → Rat) (n k : Nat) : Rat := sm (n - k) (fun a => sm (n - k) (fun b => bk f k a b * v (a + k) * v (b + k)))
def yk (f : Nat → Nat → Rat) (v : Nat → Rat) (n k : Nat) : Rat := v k + sm (n - (k + 1)) (fun a => bk f k (a + 1) 0 / bk f k 0 0 * v (a + (k + 1)))
end Go.Proofs.YtkccjglmnhgabaaGreat
