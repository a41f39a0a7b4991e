/- resect: meet. resect.Slope. resect.Project. -/
import Derived.Test.YtkccjglmnhgabaaGreatZhbd
import Derived.Test.YtkccjglmnhgabaaGreatZhax
set_option linter.unusedSimpArgs false
set_option linter.unusedVariables false
set_option maxRecDepth 100000
set_option maxHeartbeats 4000000
namespace Go.Proofs.YtkccjglmnhgabaaGreat
open Go Go.Fx
abbrev zP : Value := .agg #[.bool false, .slice none 0 0, .bool false, .slice none 0 0, .bool false, .slice none 0 0, .bool false, .slice none 0 0]
abbrev uA : List Value := [.bool false, .slice none 0 0, .bool false, .slice none 0 0, .bool false, .slice none 0 0, .bool false, .slice none 0 0]
section
variable {X : List Nat} {w0 : World} {M0 : List Ent} {I0 : List aZ}
theorem aOI {c0 c1 : CE} {k : Nat} (hk : 4 * k + 1 ≤ 400000000000) (h0 : Hv I0 (cZ c0.b k)) (h1 : Hv I0 (cZ c1.b k)) (hd : c0.b.v.crs c1.b.v = 0) :
  CD Tryz.prog 87 [.agg (recs eC [c0, c1]).toArray] X w0 M0 I0 (fun v M I => M0 = M ∧ I0 = I ∧ v = .tuple #[zP, .bool false]) := by
 have hC := fun M0 I0 => aAG (X := X) (w0 := w0) (M0 := M0) (I0 := I0) (a := c0.b) (b := c1.b) (k := k) (m := k) (by omega)
 have hS := fun e M0 I0 => kE (X := X) (w0 := w0) (M0 := M0) (I0 := I0) (e := e) (k := (k + k) + (k + k) + 1) (by omega)
 refine eD h0 (eD h1.cons ?_)
 refine cO Tryz.func87 rfl Tryz.ntmps87 rfl ?_
 refine aL ?_
 refine aM ?_
 (refine aR rfl rfl rfl ?_; intro b1; refine ⟨okF, ?_⟩)
 (refine aB rfl rfl ?_; intro b2; refine ⟨okF, ?_⟩)
 repeat (refine aJ ?_)
 (refine aA rfl (hC _ _ fK fK) rfl rfl ?_; rintro _ _ _ ⟨rfl, e4, rfl, he4, rfl⟩; refine ⟨okF, ?_⟩)
 (refine aB rfl rfl ?_; intro b4; refine ⟨okF, ?_⟩)
 have e0 : e4.q.num.sign = 0 := by rw [he4, hd]; rfl
 have hS2 := fun M0 I0 => hS e4 M0 I0
 rw [e0] at hS2
 repeat (refine aJ ?_)
 (refine aA rfl (hS2 _ _ fK) rfl rfl ?_; rintro _ _ _ ⟨rfl, rfl, rfl⟩; refine ⟨okF, ?_⟩)
 repeat (refine aJ ?_)
 (refine aH rfl (fun _ => dD (pvs := ([]).zipIdx.map (fun p => (p.2, p.1))) (cells := uA) rfl rfl) rfl rfl ?_)
 repeat (refine aJ ?_)
 refine iW (rs := [.cell 2 43, .tmp 3]) (vs := [zP, .bool false]) (.inl rfl) rfl (.cellN (cs := uA) inferInstance rfl aC rfl (.tmp rfl .nil)) rfl M0 I0 aD aF ⟨rfl, rfl, rfl⟩
theorem aML {c0 c1 : CE} {j k : Nat} (hk : 4 * k + 40 * (j + k) + 100 ≤ 400000000000) (h0 : Hv I0 (cZ c0.b k)) (h1 : Hv I0 (cZ c1.b k)) (g0 : Hv I0 (bM c0.a j)) (g1 : Hv I0 (bM c1.a j)) (hd : c0.b.v.crs c1.b.v ≠ 0) (hz : ¬ (mtZ c0.a.q c1.a.q c0.b.v c1.b.v).z0) :
  CD Tryz.prog 87 [.agg (recs eC [c0, c1]).toArray] X w0 M0 I0 (fun v M I => M0 = M ∧ ∃ p : PE, v = .tuple #[pv p, .bool true] ∧ p.v = mtC c0.a.q c1.a.q c0.b.v c1.b.v ∧ I = cZ p (4 * k + 20 * (j + k) + 20) :: I0) := by
 have hC := fun M0 I0 => aAG (X := X) (w0 := w0) (M0 := M0) (I0 := I0) (a := c0.b) (b := c1.b) (k := k) (m := k) (by omega)
 have hS := fun e M0 I0 => kE (X := X) (w0 := w0) (M0 := M0) (I0 := I0) (e := e) (k := (k + k) + (k + k) + 1) (by omega)
 have hSd0 := fun M0 I0 => sG (X := X) (w0 := w0) (M0 := M0) (I0 := I0) (a := c0.b) (k := k) (by omega)
 have hSd1 := fun M0 I0 => sG (X := X) (w0 := w0) (M0 := M0) (I0 := I0) (a := c1.b) (k := k) (by omega)
 have hSc := fun p1 e9 M0 I0 => nJ (X := X) (w0 := w0) (M0 := M0) (I0 := I0) (a := p1) (b := e9) (k := k) (m := j) (by omega)
 have hMi := fun p2 p3 M0 I0 => nE (X := X) (w0 := w0) (M0 := M0) (I0 := I0) (a := p2) (b := p3) (k := j + k) (m := j + k) (by omega)
 have hZ := fun p5 M0 I0 => yS (X := X) (w0 := w0) (M0 := M0) (I0 := I0) (a := p5) (k := j + k + (j + k) + 1) (by omega)
 obtain ⟨z, hz'⟩ : ∃ z, z = j + k + (j + k) + 1 := ⟨_, rfl⟩
 rw [← hz'] at hMi hZ
 have hDo := fun p5 M0 I0 => aFW (X := X) (w0 := w0) (M0 := M0) (I0 := I0) (a := p5) (b := p5) (k := z) (m := z) (by omega)
 have hDv := fun e4 e5 M0 I0 (hb0 : e5.q ≠ 0) => oC (X := X) (w0 := w0) (M0 := M0) (I0 := I0) (a := e4) (b := e5) (k := (k + k) + (k + k) + 1) (m := (z + z) + (z + z) + 1) (by omega) hb0
 have hSe := fun p5 e6 M0 I0 => nJ (X := X) (w0 := w0) (M0 := M0) (I0 := I0) (a := p5) (b := e6) (k := z) (m := (k + k) + (k + k) + 1 + ((z + z) + (z + z) + 1)) (by omega)
 refine eD h0 (eD h1.cons (eD g0.cons.cons (eD g1.cons.cons.cons ?_)))
 refine cO Tryz.func87 rfl Tryz.ntmps87 rfl ?_
 refine aL ?_
 refine aM ?_
 (refine aR rfl rfl rfl ?_; intro b1; refine ⟨okF, ?_⟩)
 (refine aB rfl rfl ?_; intro b2; refine ⟨okF, ?_⟩)
 repeat (refine aJ ?_)
 (refine aA rfl (hC _ _ fK fK) rfl rfl ?_; rintro _ _ _ ⟨rfl, e4, rfl, he4, rfl⟩; refine ⟨okF, ?_⟩)
 (refine aB rfl rfl ?_; intro b4; refine ⟨okF, ?_⟩)
 have e0 : ¬ e4.q.num.sign = 0 := by rw [sgn0, he4]; exact hd
 have hS2 := fun M0 I0 => hS e4 M0 I0
 generalize e4.q.num.sign = s4 at *
 repeat (refine aJ ?_)
 (refine aA rfl (hS2 _ _ fK) rfl rfl ?_; rintro _ _ _ ⟨rfl, rfl, rfl⟩; refine ⟨okF, ?_⟩)
 repeat (refine aJ ?_)
 refine kU (fun G M I => ∃ (b5 : Nat) (p5 : PE), p5.v = mtZ c0.a.q c1.a.q c0.b.v c1.b.v ∧ G = [(2, .pointer (some ⟨b2, 0, none⟩)), (4, .pointer (some ⟨b4, 0, none⟩)), (5, .pointer (some ⟨b5, 0, none⟩))] ∧ M = .blk b5 (eP p5) 43 :: .blk b4 (eR e4) 37 :: .blk b2 uA 43 :: M0 ∧ I = cZ p5 z :: bM e4 ((k + k) + (k + k) + 1) :: I0) ?_ ?_
 ·((repeat refine aL ?_); refine iL (.blk b1 (recs eC [c0, c1]) 141 :: M0) (bM e4 ((k + k) + (k + k) + 1) :: bM c1.a j :: bM c0.a j :: cZ c1.b k :: cZ c0.b k :: I0) mixed ?_)
  refine bH (fuel := 7) (listed' := #[true, true, true, false, true, true, true, false, true, true, true, false, true, true, true, false, false, false, false]) [0, 1, 2, 4, 5, 6, 8, 9, 10, 12, 13, 14] [6, 6, 5, 6, 6, 5, 6, 6, 5, 6, 6, 5] aD aF (by kernel_rfl) (by kernel_rfl) rfl rfl ?_
  repeat (refine aJ ?_)
  refine aK (fuel := 6) (i := 3) (j := 17) (by kernel_rfl) ?_ ?_
  ·(refine aA rfl (hSd0 _ _ fK) rfl rfl ?_; rintro _ _ _ ⟨rfl, p1, rfl, hp1, rfl⟩; refine ⟨okF, ?_⟩)
   refine aI ?_
   repeat (refine aJ ?_)
   refine aK (fuel := 5) (i := 7) (j := 17) (by kernel_rfl) ?_ ?_
   ·(refine aA rfl (hSc p1 c1.a _ _ fK fK) rfl rfl ?_; rintro _ _ _ ⟨rfl, p2, rfl, hp2, rfl⟩; refine ⟨okF, ?_⟩)
    refine aI ?_
    repeat (refine aJ ?_)
    refine aK (fuel := 4) (i := 11) (j := 17) (by kernel_rfl) ?_ ?_
    ·(refine aA rfl (hSd1 _ _ fK) rfl rfl ?_; rintro _ _ _ ⟨rfl, p3, rfl, hp3, rfl⟩; refine ⟨okF, ?_⟩)
     refine aI ?_
     repeat (refine aJ ?_)
     refine aK (fuel := 3) (i := 15) (j := 17) (by kernel_rfl) ?_ ?_
     ·(refine aA rfl (hSc p3 c0.a _ _ fK fK) rfl rfl ?_; rintro _ _ _ ⟨rfl, p4, rfl, hp4, rfl⟩; refine ⟨okF, ?_⟩)
      refine aI ?_
      repeat (refine aJ ?_)
      refine aK (fuel := 2) (i := 16) (j := 17) (by kernel_rfl) ?_ ?_
      ·(refine aA rfl (hMi p2 p4 _ _ fK fK) rfl rfl ?_; rintro _ _ _ ⟨rfl, p5, rfl, hp5, rfl⟩; refine ⟨okF, ?_⟩)
       refine aI ?_
       refine aG [17, 18] [0, 0] aD aF (by kernel_rfl) (by kernel_rfl) rfl rfl ?_
       repeat (refine aJ ?_)
       (refine aB rfl rfl ?_; intro b5; refine ⟨okF, ?_⟩)
       repeat (refine aJ ?_)
       refine aN _ _ _ aO aD aF ⟨b5, p5, by rw [hp5, hp2, hp4, hp1, hp3]; rfl, rfl, rfl, rfl⟩
      ·(refine aB rfl rfl ?_; intro b5; refine ⟨okF, ?_⟩)
       refine aI ?_
       refine aG [16, 18] [0, 0] aD aF (by kernel_rfl) (by kernel_rfl) rfl rfl ?_
       repeat (refine aJ ?_)
       (refine aA rfl (hMi p2 p4 _ _ fK fK) rfl rfl ?_; rintro _ _ _ ⟨rfl, p5, rfl, hp5, rfl⟩; refine ⟨okF, ?_⟩)
       repeat (refine aJ ?_)
       refine aN _ _ _ aO aD aF ⟨b5, p5, by rw [hp5, hp2, hp4, hp1, hp3]; rfl, rfl, rfl, rfl⟩
     ·(refine aB rfl rfl ?_; intro b5; refine ⟨okF, ?_⟩)
      refine aI ?_
      refine aG [15, 16, 18] [0, 0, 0] aD aF (by kernel_rfl) (by kernel_rfl) rfl rfl ?_
      repeat (refine aJ ?_)
      (refine aA rfl (hSc p3 c0.a _ _ fK fK) rfl rfl ?_; rintro _ _ _ ⟨rfl, p4, rfl, hp4, rfl⟩; refine ⟨okF, ?_⟩)
      repeat (refine aJ ?_)
      (refine aA rfl (hMi p2 p4 _ _ fK fK) rfl rfl ?_; rintro _ _ _ ⟨rfl, p5, rfl, hp5, rfl⟩; refine ⟨okF, ?_⟩)
      repeat (refine aJ ?_)
      refine aN _ _ _ aO aD aF ⟨b5, p5, by rw [hp5, hp2, hp4, hp1, hp3]; rfl, rfl, rfl, rfl⟩
    ·(refine aB rfl rfl ?_; intro b5; refine ⟨okF, ?_⟩)
     refine aI ?_
     refine aG [11, 15, 16, 18] [0, 0, 0, 0] aD aF (by kernel_rfl) (by kernel_rfl) rfl rfl ?_
     repeat (refine aJ ?_)
     (refine aA rfl (hSd1 _ _ fK) rfl rfl ?_; rintro _ _ _ ⟨rfl, p3, rfl, hp3, rfl⟩; refine ⟨okF, ?_⟩)
     repeat (refine aJ ?_)
     (refine aA rfl (hSc p3 c0.a _ _ fK fK) rfl rfl ?_; rintro _ _ _ ⟨rfl, p4, rfl, hp4, rfl⟩; refine ⟨okF, ?_⟩)
     repeat (refine aJ ?_)
     (refine aA rfl (hMi p2 p4 _ _ fK fK) rfl rfl ?_; rintro _ _ _ ⟨rfl, p5, rfl, hp5, rfl⟩; refine ⟨okF, ?_⟩)
     repeat (refine aJ ?_)
     refine aN _ _ _ aO aD aF ⟨b5, p5, by rw [hp5, hp2, hp4, hp1, hp3]; rfl, rfl, rfl, rfl⟩
   ·(refine aB rfl rfl ?_; intro b5; refine ⟨okF, ?_⟩)
    refine aI ?_
    refine aG [7, 11, 15, 16, 18] [0, 0, 0, 0, 0] aD aF (by kernel_rfl) (by kernel_rfl) rfl rfl ?_
    repeat (refine aJ ?_)
    (refine aA rfl (hSc p1 c1.a _ _ fK fK) rfl rfl ?_; rintro _ _ _ ⟨rfl, p2, rfl, hp2, rfl⟩; refine ⟨okF, ?_⟩)
    repeat (refine aJ ?_)
    (refine aA rfl (hSd1 _ _ fK) rfl rfl ?_; rintro _ _ _ ⟨rfl, p3, rfl, hp3, rfl⟩; refine ⟨okF, ?_⟩)
    repeat (refine aJ ?_)
    (refine aA rfl (hSc p3 c0.a _ _ fK fK) rfl rfl ?_; rintro _ _ _ ⟨rfl, p4, rfl, hp4, rfl⟩; refine ⟨okF, ?_⟩)
    repeat (refine aJ ?_)
    (refine aA rfl (hMi p2 p4 _ _ fK fK) rfl rfl ?_; rintro _ _ _ ⟨rfl, p5, rfl, hp5, rfl⟩; refine ⟨okF, ?_⟩)
    repeat (refine aJ ?_)
    refine aN _ _ _ aO aD aF ⟨b5, p5, by rw [hp5, hp2, hp4, hp1, hp3]; rfl, rfl, rfl, rfl⟩
  ·(refine aB rfl rfl ?_; intro b5; refine ⟨okF, ?_⟩)
   refine aI ?_
   refine aG [3, 7, 11, 15, 16, 18] [0, 0, 0, 0, 0, 0] aD aF (by kernel_rfl) (by kernel_rfl) rfl rfl ?_
   repeat (refine aJ ?_)
   (refine aA rfl (hSd0 _ _ fK) rfl rfl ?_; rintro _ _ _ ⟨rfl, p1, rfl, hp1, rfl⟩; refine ⟨okF, ?_⟩)
   repeat (refine aJ ?_)
   (refine aA rfl (hSc p1 c1.a _ _ fK fK) rfl rfl ?_; rintro _ _ _ ⟨rfl, p2, rfl, hp2, rfl⟩; refine ⟨okF, ?_⟩)
   repeat (refine aJ ?_)
   (refine aA rfl (hSd1 _ _ fK) rfl rfl ?_; rintro _ _ _ ⟨rfl, p3, rfl, hp3, rfl⟩; refine ⟨okF, ?_⟩)
   repeat (refine aJ ?_)
   (refine aA rfl (hSc p3 c0.a _ _ fK fK) rfl rfl ?_; rintro _ _ _ ⟨rfl, p4, rfl, hp4, rfl⟩; refine ⟨okF, ?_⟩)
   repeat (refine aJ ?_)
   (refine aA rfl (hMi p2 p4 _ _ fK fK) rfl rfl ?_; rintro _ _ _ ⟨rfl, p5, rfl, hp5, rfl⟩; refine ⟨okF, ?_⟩)
   repeat (refine aJ ?_)
   refine aN _ _ _ aO aD aF ⟨b5, p5, by rw [hp5, hp2, hp4, hp1, hp3]; rfl, rfl, rfl, rfl⟩
 ·rintro G M I ⟨b5, p5, hp5, rfl, rfl, rfl⟩
  have hZ2 := fun M0 I0 => hZ p5 M0 I0
  have hzz : ¬ p5.v.z0 := by rw [hp5]; exact hz
  rw [bN hzz] at hZ2
  repeat (refine aJ ?_)
  (refine aA rfl (hZ2 _ _ fK) rfl rfl ?_; rintro _ _ _ ⟨rfl, rfl, rfl⟩; refine ⟨okF, ?_⟩)
  repeat (refine aJ ?_)
  refine kU (fun G M I => ∃ (b6 : Nat) (e6 : RE), e6.q = c0.b.v.crs c1.b.v / p5.v.dot p5.v ∧ G = [(2, .pointer (some ⟨b2, 0, none⟩)), (5, .pointer (some ⟨b5, 0, none⟩)), (6, .pointer (some ⟨b6, 0, none⟩))] ∧ M = .blk b6 (eR e6) 37 :: .blk b5 (eP p5) 43 :: .blk b2 uA 43 :: M0 ∧ I = bM e6 ((k + k) + (k + k) + 1 + ((z + z) + (z + z) + 1)) :: cZ p5 z :: I0) ?_ ?_
  ·have hne : ∀ e5 : RE, e5.q = p5.v.dot p5.v → e5.q ≠ 0 := fun e5 h => by
    have := aPP hzz
    rw [h]
    simp only [V2.dot]
    intro e; rw [e] at this; exact absurd this (by decide)
   ((repeat refine aL ?_); refine iL (.blk b5 (eP p5) 43 :: .blk b4 (eR e4) 37 :: M0) (cZ p5 z :: bM e4 ((k + k) + (k + k) + 1) :: I0) mixed ?_)
   refine bH (fuel := 8) (listed' := #[true, true, true, false, false, false, false, false, false, false, false]) [0, 1, 2] [2, 2, 2] aD aF (by kernel_rfl) (by kernel_rfl) rfl rfl ?_
   repeat (refine aJ ?_)
   refine aK (fuel := 7) (i := 3) (j := 8) (by kernel_rfl) ?_ ?_
   ·(refine aA rfl (hDo p5 _ _ fK fK) rfl rfl ?_; rintro _ _ _ ⟨rfl, e5, rfl, he5, rfl⟩; refine ⟨okF, ?_⟩)
    refine aI ?_
    repeat (refine aJ ?_)
    refine aK (fuel := 6) (i := 4) (j := 8) (by kernel_rfl) ?_ ?_
    ·(refine aA rfl (hDv e4 e5 _ _ (hne e5 he5) fK fK) rfl rfl ?_; rintro _ _ _ ⟨rfl, e6, rfl, he6, rfl⟩; refine ⟨okF, ?_⟩)
     refine aI ?_
     refine aG [5, 6, 7, 8, 9, 10] [1, 1, 2, 0, 0, 0] aD aF (by kernel_rfl) (by kernel_rfl) rfl rfl ?_
     repeat (refine aJ ?_)
     (refine aB rfl rfl ?_; intro b6; refine ⟨okF, ?_⟩)
     repeat (refine aJ ?_)
     refine aN _ _ _ aO aD aF ⟨b6, e6, by rw [he6, he5, he4], rfl, rfl, rfl⟩
    ·(refine aB rfl rfl ?_; intro b6; refine ⟨okF, ?_⟩)
     refine aI ?_
     refine aG [4, 5, 6, 7, 9, 10] [0, 0, 0, 1, 0, 0] aD aF (by kernel_rfl) (by kernel_rfl) rfl rfl ?_
     repeat (refine aJ ?_)
     (refine aA rfl (hDv e4 e5 _ _ (hne e5 he5) fK fK) rfl rfl ?_; rintro _ _ _ ⟨rfl, e6, rfl, he6, rfl⟩; refine ⟨okF, ?_⟩)
     repeat (refine aJ ?_)
     refine aN _ _ _ aO aD aF ⟨b6, e6, by rw [he6, he5, he4], rfl, rfl, rfl⟩
   ·(refine aB rfl rfl ?_; intro b6; refine ⟨okF, ?_⟩)
    refine aI ?_
    refine aG [3, 4, 5, 6, 7, 9, 10] [0, 0, 0, 0, 1, 0, 0] aD aF (by kernel_rfl) (by kernel_rfl) rfl rfl ?_
    repeat (refine aJ ?_)
    (refine aA rfl (hDo p5 _ _ fK fK) rfl rfl ?_; rintro _ _ _ ⟨rfl, e5, rfl, he5, rfl⟩; refine ⟨okF, ?_⟩)
    repeat (refine aJ ?_)
    (refine aA rfl (hDv e4 e5 _ _ (hne e5 he5) fK fK) rfl rfl ?_; rintro _ _ _ ⟨rfl, e6, rfl, he6, rfl⟩; refine ⟨okF, ?_⟩)
    repeat (refine aJ ?_)
    refine aN _ _ _ aO aD aF ⟨b6, e6, by rw [he6, he5, he4], rfl, rfl, rfl⟩
  ·rintro G M I ⟨b6, e6, he6, rfl, rfl, rfl⟩
   refine aL ?_
   refine aM ?_
   repeat (refine aJ ?_)
   (refine aA rfl (hSe p5 e6 _ _ fK fK) rfl rfl ?_; rintro _ _ _ ⟨rfl, p6, rfl, hp6, rfl⟩; refine ⟨okF, ?_⟩)
   repeat (refine aJ ?_)
   refine bJ (φ := cZ p6 (4 * k + 20 * (j + k) + 20)) fK ?_
   refine iW (rs := [.cell 2 43, .tmp 3]) (vs := [pv p6, .bool true]) (.inl rfl) rfl (.cellN (cs := eP p6) inferInstance rfl aC rfl (.tmp rfl .nil)) rfl M0 (cZ p6 (4 * k + 20 * (j + k) + 20) :: I0) aD aF ⟨rfl, p6, rfl, by rw [hp6, he6, hp5]; rfl, rfl⟩
end
end Go.Proofs.YtkccjglmnhgabaaGreat
namespace Go.Proofs.YtkccjglmnhgabaaGreat
open Go Go.Fx
abbrev zRc : List Value := [.bool false, .slice none 0 0, .bool false, .slice none 0 0]
theorem aHM {p : PW → Prop} {a b c : PW} (h1 : p a) (h2 : p b) (h3 : p c) : ∀ x ∈ [a, b, c], p x := fun x hx => by
 simp only [List.mem_cons, List.not_mem_nil, or_false] at hx
 rcases hx with rfl | rfl | rfl
 ·exact h1
 ·exact h2
 ·exact h3
theorem sgnP {q : Rat} : 0 < q.num.sign ↔ 0 < q := by
 rw [Int.sign_pos_iff, aPQ]
 simp
section
variable {X : List Nat} {w0 : World} {M0 : List Ent} {I0 : List aZ}
theorem aEF {c f p : PE} {k : Nat} (hk : k ≤ 20000000000) (hc : Hv I0 (cZ c k)) (hf : Hv I0 (cZ f k)) (hp : Hv I0 (cZ p k)) (hb : ¬ f.v.z0) (h0 : ahd c.v f.v p.v ≠ 0) :
  CD Tryz.prog 38 [pv c, pv f, pv p] X w0 M0 I0 (fun v M I => M0 = M ∧ ∃ e : RE, v = .tuple #[rv e, .bool (B (0 < ahd c.v f.v p.v)), .int .i64 0] ∧ e.q = slp c.v f.v p.v ∧ I = bM e (12 * k + 6) :: I0) := by
 refine aBY (φ := c.raw.small ∧ f.raw.small ∧ p.raw.small) (fun w hw => ⟨Mem.pureP hc hk hw, Mem.pureP hf hk hw, Mem.pureP hp hk hw⟩) (fun hs => ?_)
 have hV := fun q M0 I0 h1 => wC (X := X) (w0 := w0) (M0 := M0) (I0 := I0) (q := q) (c := 3) (m := 3) (ps := [c.raw, f.raw, p.raw]) rfl (by simp) (aHM hs.1 hs.2.1 hs.2.2) h1
 rw [dG (show ∀ x ∈ [c.raw, f.raw, p.raw], x.good from aHM c.raw_good f.raw_good p.raw_good)] at hV
 have hZ := fun M0 I0 => yS (X := X) (w0 := w0) (M0 := M0) (I0 := I0) (a := f) (k := k) (by omega)
 rw [bN hb] at hZ
 have hMi := fun M0 I0 => nE (X := X) (w0 := w0) (M0 := M0) (I0 := I0) (a := p) (b := c) (k := k) (m := k) (by omega)
 have hDo := fun p9 g M0 I0 => aFW (X := X) (w0 := w0) (M0 := M0) (I0 := I0) (a := p9) (b := g) (k := k + k + 1) (m := k) (by omega)
 have hSd := fun M0 I0 => sG (X := X) (w0 := w0) (M0 := M0) (I0 := I0) (a := f) (k := k) (by omega)
 obtain ⟨z, hz⟩ : ∃ z, z = (k + k + 1 + k) + (k + k + 1 + k) + 1 := ⟨_, rfl⟩
 rw [← hz] at hDo
 have hDv := fun e4 e5 M0 I0 (hb0 : e5.q ≠ 0) => oC (X := X) (w0 := w0) (M0 := M0) (I0 := I0) (a := e4) (b := e5) (k := z) (m := z) (by omega) hb0
 have hSg := fun e4 M0 I0 => kE (X := X) (w0 := w0) (M0 := M0) (I0 := I0) (e := e4) (k := z) (by omega)
 refine eD (Hv.pw3 (hc.toPW (by omega)) (hf.toPW (by omega)) (hp.toPW (by omega))) (eD hc.cons (eD hf.cons.cons (eD hp.cons.cons.cons ?_)))
 refine oL Tryz.func38 rfl Tryz.ntmps38 rfl ?_
 refine aL ?_
 refine aM ?_
 (refine aR rfl rfl rfl ?_; intro b3; refine ⟨okF, ?_⟩)
 (refine aR rfl rfl rfl ?_; intro b4; refine ⟨okF, ?_⟩)
 (refine aR rfl rfl rfl ?_; intro b5; refine ⟨okF, ?_⟩)
 (refine aB rfl rfl ?_; intro b6; refine ⟨okF, ?_⟩)
 repeat (refine aJ ?_)
 (refine bO (cs := recs ePW [c.raw, f.raw, p.raw]) ([pv c, pv f, pv p]) rfl rfl (by intro v hv; repeat (first | exact absurd hv (List.not_mem_nil) | (rcases List.mem_cons.1 hv with rfl | hv; · rfl))) (by omega) rfl rfl rfl ?_; intro bs; refine ⟨okF, ?_⟩)
 refine bF mW ?_
 (refine aA rfl (hV _ _ _ aC fK) rfl rfl ?_; rintro _ _ _ ⟨rfl, rfl, rfl⟩; refine ⟨okF, ?_⟩)
 repeat (refine aJ ?_)
 (refine aA rfl (hZ _ _ fK) rfl rfl ?_; rintro _ _ _ ⟨rfl, rfl, rfl⟩; refine ⟨okF, ?_⟩)
 repeat (refine aJ ?_)
 (refine aA rfl (hMi _ _ fK fK) rfl rfl ?_; rintro _ _ _ ⟨rfl, p9, rfl, hp9, rfl⟩; refine ⟨okF, ?_⟩)
 (refine aB rfl rfl ?_; intro b9; refine ⟨okF, ?_⟩)
 repeat (refine aJ ?_)
 (refine aA rfl (hDo p9 f _ _ fK fK) rfl rfl ?_; rintro _ _ _ ⟨rfl, e10, rfl, he10, rfl⟩; refine ⟨okF, ?_⟩)
 (refine aB rfl rfl ?_; intro b10; refine ⟨okF, ?_⟩)
 repeat (refine aJ ?_)
 have ea : e10.q = ahd c.v f.v p.v := by rw [he10, hp9]; rfl
 have e0 : e10.q ≠ 0 := by rw [ea]; exact h0
 (repeat refine aL ?_); refine dJ (.blk b10 (eR e10) 37 :: .blk b9 (eP p9) 43 :: .blk b4 (eP f) 43 :: M0) (bM e10 z :: cZ p9 (k + k + 1) :: cZ p k :: cZ f k :: cZ c k :: sN [c.raw, f.raw, p.raw] :: I0) [0, 1, 4, 2, 3, 5, 6, 7, 8, 9, 10] [2, 2, 2, 0, 0, 0, 0, 0, 1, 0, 0] aD aF mixed (by kernel_rfl) ?_
 repeat (refine aJ ?_)
 (refine aA rfl (hSd _ _ fK) rfl rfl ?_; rintro _ _ _ ⟨rfl, p11, rfl, hp11, rfl⟩; refine ⟨okF, ?_⟩)
 repeat (refine aJ ?_)
 (refine aA rfl (hDo p9 p11 _ _ fK fK) rfl rfl ?_; rintro _ _ _ ⟨rfl, e12, rfl, he12, rfl⟩; refine ⟨okF, ?_⟩)
 repeat (refine aJ ?_)
 (refine aA rfl (hDv e12 e10 _ _ e0 fK fK) rfl rfl ?_; rintro _ _ _ ⟨rfl, e13, rfl, he13, rfl⟩; refine ⟨okF, ?_⟩)
 repeat (refine aJ ?_)
 (repeat refine aL ?_); refine dJ (.blk b10 (eR e10) 37 :: .blk b6 (eR e13) 37 :: M0) (bM e13 (z + z) :: bM e10 z :: I0) [0, 1, 2, 3, 4, 5, 6] [1, 1, 0, 1, 0, 0, 0] aD aF mixed (by kernel_rfl) ?_
 repeat (refine aJ ?_)
 (refine aA rfl (hSg e10 _ _ fK) rfl rfl ?_; rintro _ _ _ ⟨rfl, rfl, rfl⟩; refine ⟨okF, ?_⟩)
 repeat (refine aJ ?_)
 refine bJ (φ := bM e13 (12 * k + 6)) fK ?_
 refine iW (rs := [.cell 6 37, .tmp 7, .tmp 8]) (vs := [rv e13, .bool (B (0 < e10.q.num.sign)), .int .i64 0]) (.inl rfl) rfl (.cellN (cs := eR e13) inferInstance rfl aC rfl (.tmp rfl (.tmp rfl .nil))) rfl M0 (bM e13 (12 * k + 6) :: I0) aD aF ⟨rfl, e13, ?_, ?_, rfl⟩
 ·rw [gD sgnP, ea]
 ·rw [he13, he12, hp9, hp11, ea]; rfl
end
end Go.Proofs.YtkccjglmnhgabaaGreat
namespace Go.Proofs.YtkccjglmnhgabaaGreat
open Go Go.Fx
def qP (A : Mt) (a b c : Rat) (i : Nat) : Rat := sm 4 (fun t => at2 A i t * [a, b, c, 1].getD t 0)
theorem Hv.wl3 {I : List aZ} {p : Option Addr} {a b c : RW} (h1 : bI p (recs eW [a, b, c]) ∈ I) (hp : Ok p) (ha : isW a ∈ I) (hb : isW b ∈ I) (hc : isW c ∈ I) : Hv I (rJ ⟨p, 3, [a, b, c]⟩) := ⟨fun X w hw => ⟨(hw _ h1 : SlI _ _ X w).go, fun e he => by
 simp only [List.mem_cons, List.not_mem_nil, or_false] at he
 rcases he with rfl | rfl | rfl
 ·exact hw _ ha
 ·exact hw _ hb
 ·exact hw _ hc, ⟨Nat.le_refl _, .inl hp⟩⟩⟩
theorem Hv.l3 {I : List aZ} {p : Option Addr} {a b c : RE} {k : Nat} (h1 : bI p (recs eR [a, b, c]) ∈ I) (hp : Ok p) (ha : bM a k ∈ I) (hb : bM b k ∈ I) (hc : bM c k ∈ I) : Hv I (iY ⟨p, 3, [a, b, c]⟩ k) := ⟨fun X w hw => ⟨(hw _ h1 : SlI _ _ X w).go, fun e he => by
 simp only [List.mem_cons, List.not_mem_nil, or_false] at he
 rcases he with rfl | rfl | rfl
 ·exact hw _ ha
 ·exact hw _ hb
 ·exact hw _ hc, ⟨Nat.le_refl _, .inl hp⟩⟩⟩
theorem Hv.l1 {I : List aZ} {b : Nat} {e : RE} {k : Nat} (h1 : bI (some ⟨b, 0, none⟩) (recs eR [e]) ∈ I) (h2 : bM e k ∈ I) : Hv I (iY ⟨some ⟨b, 0, none⟩, 1, [e]⟩ k) := ⟨fun X w hw => ⟨(hw _ h1 : SlI _ _ X w).go, fun x hx => by rw [List.mem_singleton.1 hx]; exact hw _ h2, ⟨Nat.le_refl _, .inl (Ok.mk _ _)⟩⟩⟩
theorem Hv.allL2 {I : List aZ} {a b : RL} {k : Nat} (h1 : iY a k ∈ I) (h2 : iY b k ∈ I) : Hv I (kG [a, b] k) := ⟨fun X w hw => ⟨fun r hr => by
 simp only [List.mem_cons, List.not_mem_nil, or_false] at hr
 rcases hr with rfl | rfl
 ·exact hw _ h1
 ·exact hw _ h2⟩⟩
section
variable {X : List Nat} {w0 : World} {M0 : List Ent} {I0 : List aZ}
theorem aFE {m : MX} {a b c : RE} {k : Nat} (hk : k ≤ 10000000) (dm : m.fit 3 4) (hm : nU m k ∈ I0) (ha : bM a k ∈ I0) (hb : bM b k ∈ I0) (hc : bM c k ∈ I0) :
  CD Tryz.prog 13 [mv m, .agg (recs eR [a, b, c]).toArray] X w0 M0 I0 (fun v M I => if qP m.q a.q b.q c.q 2 = 0 then (M0 = M ∧ I0 = I ∧ v = .tuple #[zP, .int .i64 13]) else
   (M0 = M ∧ ∃ p : PE, v = .tuple #[pv p, .int .i64 0] ∧ p.v = ⟨qP m.q a.q b.q c.q 0 / qP m.q a.q b.q c.q 2, qP m.q a.q b.q c.q 1 / qP m.q a.q b.q c.q 2⟩ ∧ I = cZ p (16 * k + 8) :: I0)) := by
 refine pW (φ := m.raw.sml ∧ a.raw.sml ∧ b.raw.sml ∧ c.raw.sml) (fun w hw => ⟨Mem.xsml hm dm (by omega) hw, IsR.sml (by omega) (hw.imm _ ha).2, IsR.sml (by omega) (hw.imm _ hb).2, IsR.sml (by omega) (hw.imm _ hc).2⟩) (fun hsm => ?_)
 have hS := fun p M0 I0 h1 h2 => aIE (X := X) (w0 := w0) (M0 := M0) (I0 := I0) (m := m.raw) (x := ⟨p, 3, [a.raw, b.raw, c.raw]⟩) hsm.1 ⟨by show 3 ≤ _; omega, fun e he => by
  simp only [List.mem_cons, List.not_mem_nil, or_false] at he
  rcases he with rfl | rfl | rfl
  ·exact hsm.2.1
  ·exact hsm.2.2.1
  ·exact hsm.2.2.2⟩ h1 h2
 have e0 : ∀ p, shpC m.raw ⟨p, 3, [a.raw, b.raw, c.raw]⟩ = 0 := fun p => by
  unfold shpC
  rw [if_pos, if_pos]
  ·refine ⟨by rw [m.raw_rows]; exact dm.1.1, fun r hr => ?_⟩
   obtain ⟨s, hs, rfl⟩ := List.mem_map.1 hr
   show (s.es.map RE.raw).length = 4
   rw [List.length_map]; exact dm.1.2 s hs
  ·refine ⟨fun e he => ?_, fun r hr => ?_⟩
   ·simp only [List.mem_cons, List.not_mem_nil, or_false] at he
    rcases he with rfl | rfl | rfl <;> exact RE.raw_good _
   ·obtain ⟨s, hs, rfl⟩ := List.mem_map.1 hr
    exact s.raw_good
 simp only [e0, aFL] at hS
 clear e0
 have hW := fun M0 I0 => mV (X := X) (w0 := w0) (M0 := M0) (I0 := I0) (x := 1) (by decide) (k := 0) (by decide)
 have hRw := fun q ls M0 I0 h1 h2 h3 h4 => aBP (X := X) (w0 := w0) (M0 := M0) (I0 := I0) (q0 := q) (c0 := 2) (u := k) (n := 2) (ls := ls) h1 (by omega) h2 h3 h4
 refine eD (φ := wR m.raw) (Hv.xraw hm (by omega)) ?_
 refine eD (φ := isW a.raw) ⟨fun X w hw => RE.fit (by omega) (hw _ (List.Mem.tail _ ha) : IsR a k X w)⟩ ?_
 refine eD (φ := isW b.raw) ⟨fun X w hw => RE.fit (by omega) (hw _ (List.Mem.tail _ (List.Mem.tail _ hb)) : IsR b k X w)⟩ ?_
 refine eD (φ := isW c.raw) ⟨fun X w hw => RE.fit (by omega) (hw _ (List.Mem.tail _ (List.Mem.tail _ (List.Mem.tail _ hc))) : IsR c k X w)⟩ ?_
 refine bE Tryz.func13 rfl Tryz.ntmps13 rfl ?_
 refine aL ?_
 refine aM ?_
 (refine aR rfl rfl rfl ?_; intro b3; refine ⟨okF, ?_⟩)
 refine bF (cs := recs eR [a, b, c]) .here ?_
 (refine aB rfl rfl ?_; intro b4; refine ⟨okF, ?_⟩)
 repeat (refine aJ ?_)
 refine aH rfl (fun _ => jJ rfl) rfl rfl ?_
 refine fI (φ := rJ ⟨some ⟨b3, 0, none⟩, 3, [a.raw, b.raw, c.raw]⟩) (Hv.wl3 aC (Ok.mk _ _) aC aC aC) ?_
 (refine aA rfl (hS (some ⟨b3, 0, none⟩) _ _ aC aC) rfl rfl ?_; rintro _ _ _ ⟨rfl, rfl, rfl⟩; refine ⟨okF, ?_⟩)
 refine fI (φ := iY ⟨some ⟨b3, 0, none⟩, 3, [a, b, c]⟩ k) (Hv.l3 aC (Ok.mk _ _) aC aC aC) ?_
 repeat (refine aJ ?_)
 refine kU (fun G M I => ∃ (y : RL), y.q = (List.range 3).map (qP m.q a.q b.q c.q) ∧ G = [(4, .pointer (some ⟨b4, 0, none⟩)), (7, lv y)] ∧ M = .blk b4 uA 43 :: M0 ∧ I = iY y (8 * k + 4) :: I0) ?_ ?_
 ·(repeat refine aL ?_); refine fV [0, 1, 2, 3, 4, 5, 6, 7, 8, 9, 10, 11] [4, 4, 0, 0, 0, 0, 0, 0, 0, 0, 0, 0] mixed (by kernel_rfl) ?_
  repeat (refine aJ ?_)
  refine aH rfl (fun _ => jJ rfl) rfl rfl ?_
  repeat (refine aJ ?_)
  (refine aA rfl (hW _ _) rfl rfl ?_; rintro _ _ _ ⟨rfl, e1, rfl, he1, rfl⟩; refine ⟨okF, ?_⟩)
  (refine bO (cs := recs eR [e1]) ([rv e1]) rfl rfl (by intro v hv; repeat (first | exact absurd hv (List.not_mem_nil) | (rcases List.mem_cons.1 hv with rfl | hv; · rfl))) (by omega) rfl rfl rfl ?_; intro bl; refine ⟨okF, ?_⟩)
  refine bF .here ?_
  refine fI (φ := bM e1 k) (Hv.q (k := 0) aC (by omega)) ?_
  refine fI (φ := iY ⟨some ⟨bl, 0, none⟩, 1, [e1]⟩ k) (Hv.l1 aC aC) ?_
  repeat (refine aJ ?_)
  (refine bO (cs := recs eL [(⟨some ⟨b3, 0, none⟩, 3, [a, b, c]⟩ : RL), ⟨some ⟨bl, 0, none⟩, 1, [e1]⟩]) ([lv ⟨some ⟨b3, 0, none⟩, 3, [a, b, c]⟩, lv ⟨some ⟨bl, 0, none⟩, 1, [e1]⟩]) rfl rfl (by intro v hv; repeat (first | exact absurd hv (List.not_mem_nil) | (rcases List.mem_cons.1 hv with rfl | hv; · rfl))) (by omega) rfl rfl rfl ?_; intro bs; refine ⟨okF, ?_⟩)
  refine bF .here ?_
  refine fI (φ := kG [(⟨some ⟨b3, 0, none⟩, 3, [a, b, c]⟩ : RL), ⟨some ⟨bl, 0, none⟩, 1, [e1]⟩] k) (Hv.allL2 aC aC) ?_
  repeat (refine aJ ?_)
  (refine aA rfl (hRw (some ⟨bs, 0, none⟩) [(⟨some ⟨b3, 0, none⟩, 3, [a, b, c]⟩ : RL), ⟨some ⟨bl, 0, none⟩, 1, [e1]⟩] _ _ rfl (fun r hr => by simp only [List.mem_cons, List.not_mem_nil, or_false] at hr; rcases hr with rfl | rfl <;> (show _ ≤ 100; simp)) aC aC) rfl rfl ?_; rintro _ _ _ ⟨rfl, r, rfl, hr, rfl⟩; refine ⟨okF, ?_⟩)
  have hr4 : r.q = [a.q, b.q, c.q, 1] := by rw [hr]; show [a.q, b.q, c.q, e1.q] = _; rw [he1]; rfl
  have hrl : r.es.length = 4 := by have := congrArg List.length hr4; simpa using this
  repeat (refine aJ ?_)
  have hA := fun M0 I0 h1 h2 => aIF (X := X) (w0 := w0) (M0 := M0) (I0 := I0) (a := m) (x := r) (k := k) (m := k) (by omega) (by omega) dm hrl h1 h2
  (refine aA rfl (hA _ _ aC aC) rfl rfl ?_; rintro _ _ _ ⟨rfl, y, rfl, hy, rfl⟩; refine ⟨okF, ?_⟩)
  repeat (refine aJ ?_)
  rw [show 4 * (k + k + 1) = 8 * k + 4 by omega]
  refine aN _ _ _ aO aD aF ⟨y, by rw [hy, hr4]; rfl, rfl, rfl, rfl⟩
 ·rintro G M I ⟨y, hy, rfl, rfl, rfl⟩
  have hyl : y.es.length = 3 := by have := congrArg List.length hy; simpa using this
  have hyi : ∀ i : Nat, i < 3 → (gt y.es (i : Int)).q = qP m.q a.q b.q c.q i := fun i hi => by
   have := kH (es := y.es) (j := i) (by omega)
   rw [← this]
   show y.q.getD i 0 = _
   rw [hy]; simp [List.getD, hi]
  have y0 : (gt y.es 0).q = qP m.q a.q b.q c.q 0 := hyi 0 (by omega)
  have y1 : (gt y.es 1).q = qP m.q a.q b.q c.q 1 := hyi 1 (by omega)
  have y2 : (gt y.es 2).q = qP m.q a.q b.q c.q 2 := hyi 2 (by omega)
  refine fD (φ := bI (y).p (recs eR (y).es)) (Hv.lsl aC) ?_
  refine fD (φ := bM (gt y.es 0) (8 * k + 4)) (Hv.lel aC (by omega)) ?_
  refine fD (φ := bM (gt y.es 1) (8 * k + 4)) (Hv.lel aC (by omega)) ?_
  refine fD (φ := bM (gt y.es 2) (8 * k + 4)) (Hv.lel aC (by omega)) ?_
  rw [← y0, ← y1, ← y2]
  by_cases hz : (gt y.es 2).q = 0
  ·simp only [if_pos hz]
   have hD := fun (x : RE) M0 I0 h1 h2 => aCX (X := X) (w0 := w0) (M0 := M0) (I0 := I0) (a := x) (b := gt y.es 2) (k := 8 * k + 4) (m := 8 * k + 4) (by omega) hz h1 h2
   refine oF (fun G M I => ∃ b9 : Nat, G = [(4, .pointer (some ⟨b4, 0, none⟩)), (7, lv y), (9, .pointer (some ⟨b9, 0, none⟩)), (10, .int .i64 14)] ∧ M = .blk b9 zRc 37 :: .blk b4 uA 43 :: M0 ∧ I = bM (gt y.es 2) (8 * k + 4) :: bM (gt y.es 1) (8 * k + 4) :: bM (gt y.es 0) (8 * k + 4) :: bI y.p (recs eR y.es) :: iY y (8 * k + 4) :: I0) ?_ ?_
   ·((repeat refine aL ?_); refine iL (.blk b4 uA 43 :: M0) (bM (gt y.es 2) (8 * k + 4) :: bM (gt y.es 1) (8 * k + 4) :: bM (gt y.es 0) (8 * k + 4) :: bI y.p (recs eR y.es) :: iY y (8 * k + 4) :: I0) mixed ?_)
    refine bH (fuel := 7) (listed' := #[true, true, true, true, true, true, false, false, false, false, false, false, false]) [0, 1, 2, 3, 4, 5] [2, 2, 1, 2, 2, 1] aD aF (by kernel_rfl) (by kernel_rfl) rfl rfl ?_
    repeat (refine aJ ?_)
    refine aK (fuel := 6) (i := 6) (j := 10) (by kernel_rfl) ?_ ?_
    ·(refine aA rfl (hD (gt y.es 0) _ _ (Hv.mem aC) (Hv.mem aC)) rfl rfl ?_; rintro _ _ _ ⟨rfl, rfl, rfl⟩; refine ⟨okF, ?_⟩)
     refine aI ?_
     refine aG [7, 8, 9, 10, 11, 12] [1, 1, 2, 0, 0, 0] aD aF (by kernel_rfl) (by kernel_rfl) rfl rfl ?_
     repeat (refine aJ ?_)
     (refine aB rfl rfl ?_; intro b9; refine ⟨okF, ?_⟩)
     repeat (refine aJ ?_)
     refine aN _ _ _ aO aD aF ⟨b9, rfl, rfl, rfl⟩
    ·(refine aB rfl rfl ?_; intro b9; refine ⟨okF, ?_⟩)
     refine aI ?_
     refine aG [6, 7, 8, 9, 11, 12] [0, 0, 0, 1, 0, 0] aD aF (by kernel_rfl) (by kernel_rfl) rfl rfl ?_
     repeat (refine aJ ?_)
     (refine aA rfl (hD (gt y.es 0) _ _ (Hv.mem aC) (Hv.mem aC)) rfl rfl ?_; rintro _ _ _ ⟨rfl, rfl, rfl⟩; refine ⟨okF, ?_⟩)
     repeat (refine aJ ?_)
     refine aN _ _ _ aO aD aF ⟨b9, rfl, rfl, rfl⟩
   ·rintro G M I ⟨b9, rfl, rfl, rfl⟩
    refine oF (fun G M I => ∃ b11 : Nat, G = [(4, .pointer (some ⟨b4, 0, none⟩)), (7, lv y), (9, .pointer (some ⟨b9, 0, none⟩)), (10, .int .i64 14), (11, .pointer (some ⟨b11, 0, none⟩)), (12, .int .i64 14)] ∧ M = .blk b11 zRc 37 :: .blk b9 zRc 37 :: .blk b4 uA 43 :: M0 ∧ I0 = I) ?_ ?_
    ·((repeat refine aL ?_); refine iL (.blk b9 zRc 37 :: .blk b4 uA 43 :: M0) (bM (gt y.es 2) (8 * k + 4) :: bM (gt y.es 1) (8 * k + 4) :: bM (gt y.es 0) (8 * k + 4) :: bI y.p (recs eR y.es) :: iY y (8 * k + 4) :: I0) mixed ?_)
     refine bH (fuel := 7) (listed' := #[true, true, true, true, true, true, false, false, false, false, false, false, false]) [0, 1, 2, 3, 4, 5] [2, 2, 1, 2, 2, 1] aD aF (by kernel_rfl) (by kernel_rfl) rfl rfl ?_
     repeat (refine aJ ?_)
     refine aK (fuel := 6) (i := 6) (j := 10) (by kernel_rfl) ?_ ?_
     ·(refine aA rfl (hD (gt y.es 1) _ _ (Hv.mem aC) (Hv.mem aC)) rfl rfl ?_; rintro _ _ _ ⟨rfl, rfl, rfl⟩; refine ⟨okF, ?_⟩)
      refine aI ?_
      refine aG [7, 8, 9, 10, 11, 12] [1, 1, 2, 0, 0, 0] aD aF (by kernel_rfl) (by kernel_rfl) rfl rfl ?_
      repeat (refine aJ ?_)
      (refine aB rfl rfl ?_; intro b11; refine ⟨okF, ?_⟩)
      repeat (refine aJ ?_)
      refine aN _ _ _ aO aD aF ⟨b11, rfl, rfl, rfl⟩
     ·(refine aB rfl rfl ?_; intro b11; refine ⟨okF, ?_⟩)
      refine aI ?_
      refine aG [6, 7, 8, 9, 11, 12] [0, 0, 0, 1, 0, 0] aD aF (by kernel_rfl) (by kernel_rfl) rfl rfl ?_
      repeat (refine aJ ?_)
      (refine aA rfl (hD (gt y.es 1) _ _ (Hv.mem aC) (Hv.mem aC)) rfl rfl ?_; rintro _ _ _ ⟨rfl, rfl, rfl⟩; refine ⟨okF, ?_⟩)
      repeat (refine aJ ?_)
      refine aN _ _ _ aO aD aF ⟨b11, rfl, rfl, rfl⟩
    ·rintro G M I ⟨b11, rfl, rfl, rfl⟩
     repeat (refine aJ ?_)
     (refine aH rfl (fun _ => dD (pvs := ([]).zipIdx.map (fun p => (p.2, p.1))) (cells := uA) rfl rfl) rfl rfl ?_)
     repeat (refine aJ ?_)
     refine iW (rs := [.cell 4 43, .tmp 5]) (vs := [zP, .int .i64 13]) (.inl rfl) rfl (.cellN (cs := uA) inferInstance rfl aC rfl (.tmp rfl .nil)) rfl M0 I0 aD aF ⟨rfl, rfl, rfl⟩
  ·simp only [if_neg hz]
   have hD := fun (x : RE) M0 I0 h1 h2 => oC (X := X) (w0 := w0) (M0 := M0) (I0 := I0) (a := x) (b := gt y.es 2) (k := 8 * k + 4) (m := 8 * k + 4) (by omega) hz h1 h2
   rw [show 8 * k + 4 + (8 * k + 4) = 16 * k + 8 by omega] at hD
   refine oF (fun G M I => ∃ (b9 : Nat) (e9 : RE), e9.q = (gt y.es 0).q / (gt y.es 2).q ∧ G = [(4, .pointer (some ⟨b4, 0, none⟩)), (7, lv y), (9, .pointer (some ⟨b9, 0, none⟩)), (10, .int .i64 0)] ∧ M = .blk b9 (eR e9) 37 :: .blk b4 uA 43 :: M0 ∧ I = bM e9 (16 * k + 8) :: bM (gt y.es 2) (8 * k + 4) :: bM (gt y.es 1) (8 * k + 4) :: bM (gt y.es 0) (8 * k + 4) :: bI y.p (recs eR y.es) :: iY y (8 * k + 4) :: I0) ?_ ?_
   ·((repeat refine aL ?_); refine iL (.blk b4 uA 43 :: M0) (bM (gt y.es 2) (8 * k + 4) :: bM (gt y.es 1) (8 * k + 4) :: bM (gt y.es 0) (8 * k + 4) :: bI y.p (recs eR y.es) :: iY y (8 * k + 4) :: I0) mixed ?_)
    refine bH (fuel := 7) (listed' := #[true, true, true, true, true, true, false, false, false, false, false, false, false]) [0, 1, 2, 3, 4, 5] [2, 2, 1, 2, 2, 1] aD aF (by kernel_rfl) (by kernel_rfl) rfl rfl ?_
    repeat (refine aJ ?_)
    refine aK (fuel := 6) (i := 6) (j := 10) (by kernel_rfl) ?_ ?_
    ·(refine aA rfl (hD (gt y.es 0) _ _ (Hv.mem aC) (Hv.mem aC)) rfl rfl ?_; rintro _ _ _ ⟨rfl, e9, rfl, he9, rfl⟩; refine ⟨okF, ?_⟩)
     refine aI ?_
     refine aG [7, 8, 9, 10, 11, 12] [1, 1, 2, 0, 0, 0] aD aF (by kernel_rfl) (by kernel_rfl) rfl rfl ?_
     repeat (refine aJ ?_)
     (refine aB rfl rfl ?_; intro b9; refine ⟨okF, ?_⟩)
     repeat (refine aJ ?_)
     refine aN _ _ _ aO aD aF ⟨b9, e9, he9, rfl, rfl, rfl⟩
    ·(refine aB rfl rfl ?_; intro b9; refine ⟨okF, ?_⟩)
     refine aI ?_
     refine aG [6, 7, 8, 9, 11, 12] [0, 0, 0, 1, 0, 0] aD aF (by kernel_rfl) (by kernel_rfl) rfl rfl ?_
     repeat (refine aJ ?_)
     (refine aA rfl (hD (gt y.es 0) _ _ (Hv.mem aC) (Hv.mem aC)) rfl rfl ?_; rintro _ _ _ ⟨rfl, e9, rfl, he9, rfl⟩; refine ⟨okF, ?_⟩)
     repeat (refine aJ ?_)
     refine aN _ _ _ aO aD aF ⟨b9, e9, he9, rfl, rfl, rfl⟩
   ·rintro G M I ⟨b9, e9, he9, rfl, rfl, rfl⟩
    refine oF (fun G M I => ∃ (b11 : Nat) (e11 : RE), e11.q = (gt y.es 1).q / (gt y.es 2).q ∧ G = [(4, .pointer (some ⟨b4, 0, none⟩)), (7, lv y), (9, .pointer (some ⟨b9, 0, none⟩)), (10, .int .i64 0), (11, .pointer (some ⟨b11, 0, none⟩)), (12, .int .i64 0)] ∧ M = .blk b11 (eR e11) 37 :: .blk b9 (eR e9) 37 :: .blk b4 uA 43 :: M0 ∧ I = bM e11 (16 * k + 8) :: bM e9 (16 * k + 8) :: I0) ?_ ?_
    ·((repeat refine aL ?_); refine iL (.blk b9 (eR e9) 37 :: .blk b4 uA 43 :: M0) (bM e9 (16 * k + 8) :: bM (gt y.es 2) (8 * k + 4) :: bM (gt y.es 1) (8 * k + 4) :: bM (gt y.es 0) (8 * k + 4) :: bI y.p (recs eR y.es) :: iY y (8 * k + 4) :: I0) mixed ?_)
     refine bH (fuel := 7) (listed' := #[true, true, true, true, true, true, false, false, false, false, false, false, false]) [0, 1, 2, 3, 4, 5] [2, 2, 1, 2, 2, 1] aD aF (by kernel_rfl) (by kernel_rfl) rfl rfl ?_
     repeat (refine aJ ?_)
     refine aK (fuel := 6) (i := 6) (j := 10) (by kernel_rfl) ?_ ?_
     ·(refine aA rfl (hD (gt y.es 1) _ _ (Hv.mem aC) (Hv.mem aC)) rfl rfl ?_; rintro _ _ _ ⟨rfl, e11, rfl, he11, rfl⟩; refine ⟨okF, ?_⟩)
      refine aI ?_
      refine aG [7, 8, 9, 10, 11, 12] [1, 1, 2, 0, 0, 0] aD aF (by kernel_rfl) (by kernel_rfl) rfl rfl ?_
      repeat (refine aJ ?_)
      (refine aB rfl rfl ?_; intro b11; refine ⟨okF, ?_⟩)
      repeat (refine aJ ?_)
      refine aN _ _ _ aO aD aF ⟨b11, e11, he11, rfl, rfl, rfl⟩
     ·(refine aB rfl rfl ?_; intro b11; refine ⟨okF, ?_⟩)
      refine aI ?_
      refine aG [6, 7, 8, 9, 11, 12] [0, 0, 0, 1, 0, 0] aD aF (by kernel_rfl) (by kernel_rfl) rfl rfl ?_
      repeat (refine aJ ?_)
      (refine aA rfl (hD (gt y.es 1) _ _ (Hv.mem aC) (Hv.mem aC)) rfl rfl ?_; rintro _ _ _ ⟨rfl, e11, rfl, he11, rfl⟩; refine ⟨okF, ?_⟩)
      repeat (refine aJ ?_)
      refine aN _ _ _ aO aD aF ⟨b11, e11, he11, rfl, rfl, rfl⟩
    ·rintro G M I ⟨b11, e11, he11, rfl, rfl, rfl⟩
     repeat (refine aJ ?_)
     (refine aH rfl (fun _ => jP (vals := [rv e9, rv e11]) (cells := eP ⟨e9, e11⟩) rfl ?hpl rfl ?hz) rfl rfl ?_; (case hpl => repeat (first | exact True.intro | refine ⟨rfl, ?_⟩)); (case hz => rfl))
     repeat (refine aJ ?_)
     refine bJ (φ := cZ ⟨e9, e11⟩ (16 * k + 8)) ⟨fun X w hw => ⟨hw _ (by exact List.Mem.tail _ (List.Mem.head _)), hw _ (by exact List.Mem.head _)⟩⟩ ?_
     refine iW (rs := [.cell 4 43, .tmp 5]) (vs := [pv ⟨e9, e11⟩, .int .i64 0]) (.inl rfl) rfl (.cellN (cs := eP ⟨e9, e11⟩) inferInstance rfl aC rfl (.tmp rfl .nil)) rfl M0 (cZ ⟨e9, e11⟩ (16 * k + 8) :: I0) aD aF ⟨rfl, ⟨e9, e11⟩, rfl, by simp only [PE.v, he9, he11], rfl⟩
end
end Go.Proofs.YtkccjglmnhgabaaGreat
