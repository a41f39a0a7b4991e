/- resect: meet. resect.Slope. resect.Project. Drawn regions: what stays is chosen anew in the middle. resect.Center. -/
import Derived.Test.YtgeagiikkeiioaaGreatZdbf
import Derived.Test.YtgeagiikkeiioaaGreatZdax
import Derived.Test.YtgeagiikkeiioaaGreatZdaw
set_option linter.unusedSimpArgs false
set_option linter.unusedVariables false
set_option maxRecDepth 100000
set_option maxHeartbeats 4000000
namespace Go.Proofs.YtgeagiikkeiioaaGreat
open Go Go.Fx
abbrev zP : Value := .agg #[.bool false, .slice none 0 0, .bool false, .slice none 0 0, .bool false, .slice none 0 0, .bool false, .slice none 0 0]
abbrev zPc : List Value := [.bool false, .slice none 0 0, .bool false, .slice none 0 0, .bool false, .slice none 0 0, .bool false, .slice none 0 0]
section
variable {X : List Nat} {w0 : World} {M0 : List Ent} {I0 : List bD}
theorem aNS {c0 c1 : CE} {k : Nat} (hk : 4 * k + 1 ≤ 400000000000) (h0 : Hv I0 (dJ c0.b k)) (h1 : Hv I0 (dJ c1.b k)) (hd : c0.b.v.crs c1.b.v = 0) :
  CD Tryz.prog 122 [.agg (recs eC [c0, c1]).toArray] X w0 M0 I0 (fun v M I => M0 = M ∧ I0 = I ∧ v = .tuple #[zP, .bool false]) := by
 have hC := fun M0 I0 => aBH (X := X) (w0 := w0) (M0 := M0) (I0 := I0) (a := c0.b) (b := c1.b) (k := k) (m := k) (by omega)
 have hS := fun e M0 I0 => lN (X := X) (w0 := w0) (M0 := M0) (I0 := I0) (e := e) (k := (k + k) + (k + k) + 1) (by omega)
 refine eX h0 (eX h1.cons ?_)
 refine bJ Tryz.func122 rfl Tryz.ntmps122 rfl ?_
 refine aK ?_
 refine aL ?_
 (refine aR rfl rfl rfl ?_; intro b1; refine ⟨okF, ?_⟩)
 (refine aB rfl rfl ?_; intro b2; refine ⟨okF, ?_⟩)
 repeat (refine aI ?_)
 (refine aA rfl (hC _ _ fP fP) rfl rfl ?_; rintro _ _ _ ⟨rfl, e4, rfl, he4, rfl⟩; refine ⟨okF, ?_⟩)
 (refine aB rfl rfl ?_; intro b4; refine ⟨okF, ?_⟩)
 have e0 : e4.q.num.sign = 0 := by rw [he4, hd]; rfl
 have hS2 := fun M0 I0 => hS e4 M0 I0
 rw [e0] at hS2
 repeat (refine aI ?_)
 (refine aA rfl (hS2 _ _ fP) rfl rfl ?_; rintro _ _ _ ⟨rfl, rfl, rfl⟩; refine ⟨okF, ?_⟩)
 repeat (refine aI ?_)
 (refine aH rfl (fun _ => dV (pvs := ([]).zipIdx.map (fun p => (p.2, p.1))) (cells := zPc) rfl rfl) rfl rfl ?_)
 repeat (refine aI ?_)
 refine kI (rs := [.cell 2 47, .tmp 3]) (vs := [zP, .bool false]) (.inl rfl) rfl (.cellN (cs := zPc) inferInstance rfl aC rfl (.tmp rfl .nil)) rfl M0 I0 aF aD ⟨rfl, rfl, rfl⟩
theorem aNU {c0 c1 : CE} {j k : Nat} (hk : 4 * k + 40 * (j + k) + 100 ≤ 400000000000) (h0 : Hv I0 (dJ c0.b k)) (h1 : Hv I0 (dJ c1.b k)) (g0 : Hv I0 (bP c0.a j)) (g1 : Hv I0 (bP c1.a j)) (hd : c0.b.v.crs c1.b.v ≠ 0) (hz : ¬ (mtZ c0.a.q c1.a.q c0.b.v c1.b.v).z0) :
  CD Tryz.prog 122 [.agg (recs eC [c0, c1]).toArray] X w0 M0 I0 (fun v M I => M0 = M ∧ ∃ p : PE, v = .tuple #[pv p, .bool true] ∧ p.v = mtC c0.a.q c1.a.q c0.b.v c1.b.v ∧ I = dJ p (4 * k + 20 * (j + k) + 20) :: I0) := by
 have hC := fun M0 I0 => aBH (X := X) (w0 := w0) (M0 := M0) (I0 := I0) (a := c0.b) (b := c1.b) (k := k) (m := k) (by omega)
 have hS := fun e M0 I0 => lN (X := X) (w0 := w0) (M0 := M0) (I0 := I0) (e := e) (k := (k + k) + (k + k) + 1) (by omega)
 have hSd0 := fun M0 I0 => rZ (X := X) (w0 := w0) (M0 := M0) (I0 := I0) (a := c0.b) (k := k) (by omega)
 have hSd1 := fun M0 I0 => rZ (X := X) (w0 := w0) (M0 := M0) (I0 := I0) (a := c1.b) (k := k) (by omega)
 have hSc := fun p1 e9 M0 I0 => nA (X := X) (w0 := w0) (M0 := M0) (I0 := I0) (a := p1) (b := e9) (k := k) (m := j) (by omega)
 have hMi := fun p2 p3 M0 I0 => nK (X := X) (w0 := w0) (M0 := M0) (I0 := I0) (a := p2) (b := p3) (k := j + k) (m := j + k) (by omega)
 have hZ := fun p5 M0 I0 => yQ (X := X) (w0 := w0) (M0 := M0) (I0 := I0) (a := p5) (k := j + k + (j + k) + 1) (by omega)
 obtain ⟨z, hz'⟩ : ∃ z, z = j + k + (j + k) + 1 := ⟨_, rfl⟩
 rw [← hz'] at hMi hZ
 have hDo := fun p5 M0 I0 => aHZ (X := X) (w0 := w0) (M0 := M0) (I0 := I0) (a := p5) (b := p5) (k := z) (m := z) (by omega)
 have hDv := fun e4 e5 M0 I0 (hb0 : e5.q ≠ 0) => rE (X := X) (w0 := w0) (M0 := M0) (I0 := I0) (a := e4) (b := e5) (k := (k + k) + (k + k) + 1) (m := (z + z) + (z + z) + 1) (by omega) hb0
 have hSe := fun p5 e6 M0 I0 => nA (X := X) (w0 := w0) (M0 := M0) (I0 := I0) (a := p5) (b := e6) (k := z) (m := (k + k) + (k + k) + 1 + ((z + z) + (z + z) + 1)) (by omega)
 refine eX h0 (eX h1.cons (eX g0.cons.cons (eX g1.cons.cons.cons ?_)))
 refine bJ Tryz.func122 rfl Tryz.ntmps122 rfl ?_
 refine aK ?_
 refine aL ?_
 (refine aR rfl rfl rfl ?_; intro b1; refine ⟨okF, ?_⟩)
 (refine aB rfl rfl ?_; intro b2; refine ⟨okF, ?_⟩)
 repeat (refine aI ?_)
 (refine aA rfl (hC _ _ fP fP) rfl rfl ?_; rintro _ _ _ ⟨rfl, e4, rfl, he4, rfl⟩; refine ⟨okF, ?_⟩)
 (refine aB rfl rfl ?_; intro b4; refine ⟨okF, ?_⟩)
 have e0 : ¬ e4.q.num.sign = 0 := by rw [sgn0, he4]; exact hd
 have hS2 := fun M0 I0 => hS e4 M0 I0
 generalize e4.q.num.sign = s4 at *
 repeat (refine aI ?_)
 (refine aA rfl (hS2 _ _ fP) rfl rfl ?_; rintro _ _ _ ⟨rfl, rfl, rfl⟩; refine ⟨okF, ?_⟩)
 repeat (refine aI ?_)
 refine lU (fun G M I => ∃ (b5 : Nat) (p5 : PE), p5.v = mtZ c0.a.q c1.a.q c0.b.v c1.b.v ∧ G = [(2, .pointer (some ⟨b2, 0, none⟩)), (4, .pointer (some ⟨b4, 0, none⟩)), (5, .pointer (some ⟨b5, 0, none⟩))] ∧ M = .blk b5 (eP p5) 47 :: .blk b4 (eR e4) 42 :: .blk b2 zPc 47 :: M0 ∧ I = dJ p5 z :: bP e4 ((k + k) + (k + k) + 1) :: I0) ?_ ?_
 ·((repeat refine aK ?_); refine kD (.blk b1 (recs eC [c0, c1]) 151 :: M0) (bP e4 ((k + k) + (k + k) + 1) :: bP c1.a j :: bP c0.a j :: dJ c1.b k :: dJ c0.b k :: I0) mixed ?_)
  refine bR (fuel := 7) (listed' := #[true, true, true, false, true, true, true, false, true, true, true, false, true, true, true, false, false, false, false]) [0, 1, 2, 4, 5, 6, 8, 9, 10, 12, 13, 14] [6, 6, 5, 6, 6, 5, 6, 6, 5, 6, 6, 5] aF aD (by kernel_rfl) (by kernel_rfl) rfl rfl ?_
  repeat (refine aI ?_)
  refine aM (fuel := 6) (i := 3) (j := 17) (by kernel_rfl) ?_ ?_
  ·(refine aA rfl (hSd0 _ _ fP) rfl rfl ?_; rintro _ _ _ ⟨rfl, p1, rfl, hp1, rfl⟩; refine ⟨okF, ?_⟩)
   refine aJ ?_
   repeat (refine aI ?_)
   refine aM (fuel := 5) (i := 7) (j := 17) (by kernel_rfl) ?_ ?_
   ·(refine aA rfl (hSc p1 c1.a _ _ fP fP) rfl rfl ?_; rintro _ _ _ ⟨rfl, p2, rfl, hp2, rfl⟩; refine ⟨okF, ?_⟩)
    refine aJ ?_
    repeat (refine aI ?_)
    refine aM (fuel := 4) (i := 11) (j := 17) (by kernel_rfl) ?_ ?_
    ·(refine aA rfl (hSd1 _ _ fP) rfl rfl ?_; rintro _ _ _ ⟨rfl, p3, rfl, hp3, rfl⟩; refine ⟨okF, ?_⟩)
     refine aJ ?_
     repeat (refine aI ?_)
     refine aM (fuel := 3) (i := 15) (j := 17) (by kernel_rfl) ?_ ?_
     ·(refine aA rfl (hSc p3 c0.a _ _ fP fP) rfl rfl ?_; rintro _ _ _ ⟨rfl, p4, rfl, hp4, rfl⟩; refine ⟨okF, ?_⟩)
      refine aJ ?_
      repeat (refine aI ?_)
      refine aM (fuel := 2) (i := 16) (j := 17) (by kernel_rfl) ?_ ?_
      ·(refine aA rfl (hMi p2 p4 _ _ fP fP) rfl rfl ?_; rintro _ _ _ ⟨rfl, p5, rfl, hp5, rfl⟩; refine ⟨okF, ?_⟩)
       refine aJ ?_
       refine aG [17, 18] [0, 0] aF aD (by kernel_rfl) (by kernel_rfl) rfl rfl ?_
       repeat (refine aI ?_)
       (refine aB rfl rfl ?_; intro b5; refine ⟨okF, ?_⟩)
       repeat (refine aI ?_)
       refine aQ _ _ _ aO aF aD ⟨b5, p5, by rw [hp5, hp2, hp4, hp1, hp3]; rfl, rfl, rfl, rfl⟩
      ·(refine aB rfl rfl ?_; intro b5; refine ⟨okF, ?_⟩)
       refine aJ ?_
       refine aG [16, 18] [0, 0] aF aD (by kernel_rfl) (by kernel_rfl) rfl rfl ?_
       repeat (refine aI ?_)
       (refine aA rfl (hMi p2 p4 _ _ fP fP) rfl rfl ?_; rintro _ _ _ ⟨rfl, p5, rfl, hp5, rfl⟩; refine ⟨okF, ?_⟩)
       repeat (refine aI ?_)
       refine aQ _ _ _ aO aF aD ⟨b5, p5, by rw [hp5, hp2, hp4, hp1, hp3]; rfl, rfl, rfl, rfl⟩
     ·(refine aB rfl rfl ?_; intro b5; refine ⟨okF, ?_⟩)
      refine aJ ?_
      refine aG [15, 16, 18] [0, 0, 0] aF aD (by kernel_rfl) (by kernel_rfl) rfl rfl ?_
      repeat (refine aI ?_)
      (refine aA rfl (hSc p3 c0.a _ _ fP fP) rfl rfl ?_; rintro _ _ _ ⟨rfl, p4, rfl, hp4, rfl⟩; refine ⟨okF, ?_⟩)
      repeat (refine aI ?_)
      (refine aA rfl (hMi p2 p4 _ _ fP fP) rfl rfl ?_; rintro _ _ _ ⟨rfl, p5, rfl, hp5, rfl⟩; refine ⟨okF, ?_⟩)
      repeat (refine aI ?_)
      refine aQ _ _ _ aO aF aD ⟨b5, p5, by rw [hp5, hp2, hp4, hp1, hp3]; rfl, rfl, rfl, rfl⟩
    ·(refine aB rfl rfl ?_; intro b5; refine ⟨okF, ?_⟩)
     refine aJ ?_
     refine aG [11, 15, 16, 18] [0, 0, 0, 0] aF aD (by kernel_rfl) (by kernel_rfl) rfl rfl ?_
     repeat (refine aI ?_)
     (refine aA rfl (hSd1 _ _ fP) rfl rfl ?_; rintro _ _ _ ⟨rfl, p3, rfl, hp3, rfl⟩; refine ⟨okF, ?_⟩)
     repeat (refine aI ?_)
     (refine aA rfl (hSc p3 c0.a _ _ fP fP) rfl rfl ?_; rintro _ _ _ ⟨rfl, p4, rfl, hp4, rfl⟩; refine ⟨okF, ?_⟩)
     repeat (refine aI ?_)
     (refine aA rfl (hMi p2 p4 _ _ fP fP) rfl rfl ?_; rintro _ _ _ ⟨rfl, p5, rfl, hp5, rfl⟩; refine ⟨okF, ?_⟩)
     repeat (refine aI ?_)
     refine aQ _ _ _ aO aF aD ⟨b5, p5, by rw [hp5, hp2, hp4, hp1, hp3]; rfl, rfl, rfl, rfl⟩
   ·(refine aB rfl rfl ?_; intro b5; refine ⟨okF, ?_⟩)
    refine aJ ?_
    refine aG [7, 11, 15, 16, 18] [0, 0, 0, 0, 0] aF aD (by kernel_rfl) (by kernel_rfl) rfl rfl ?_
    repeat (refine aI ?_)
    (refine aA rfl (hSc p1 c1.a _ _ fP fP) rfl rfl ?_; rintro _ _ _ ⟨rfl, p2, rfl, hp2, rfl⟩; refine ⟨okF, ?_⟩)
    repeat (refine aI ?_)
    (refine aA rfl (hSd1 _ _ fP) rfl rfl ?_; rintro _ _ _ ⟨rfl, p3, rfl, hp3, rfl⟩; refine ⟨okF, ?_⟩)
    repeat (refine aI ?_)
    (refine aA rfl (hSc p3 c0.a _ _ fP fP) rfl rfl ?_; rintro _ _ _ ⟨rfl, p4, rfl, hp4, rfl⟩; refine ⟨okF, ?_⟩)
    repeat (refine aI ?_)
    (refine aA rfl (hMi p2 p4 _ _ fP fP) rfl rfl ?_; rintro _ _ _ ⟨rfl, p5, rfl, hp5, rfl⟩; refine ⟨okF, ?_⟩)
    repeat (refine aI ?_)
    refine aQ _ _ _ aO aF aD ⟨b5, p5, by rw [hp5, hp2, hp4, hp1, hp3]; rfl, rfl, rfl, rfl⟩
  ·(refine aB rfl rfl ?_; intro b5; refine ⟨okF, ?_⟩)
   refine aJ ?_
   refine aG [3, 7, 11, 15, 16, 18] [0, 0, 0, 0, 0, 0] aF aD (by kernel_rfl) (by kernel_rfl) rfl rfl ?_
   repeat (refine aI ?_)
   (refine aA rfl (hSd0 _ _ fP) rfl rfl ?_; rintro _ _ _ ⟨rfl, p1, rfl, hp1, rfl⟩; refine ⟨okF, ?_⟩)
   repeat (refine aI ?_)
   (refine aA rfl (hSc p1 c1.a _ _ fP fP) rfl rfl ?_; rintro _ _ _ ⟨rfl, p2, rfl, hp2, rfl⟩; refine ⟨okF, ?_⟩)
   repeat (refine aI ?_)
   (refine aA rfl (hSd1 _ _ fP) rfl rfl ?_; rintro _ _ _ ⟨rfl, p3, rfl, hp3, rfl⟩; refine ⟨okF, ?_⟩)
   repeat (refine aI ?_)
   (refine aA rfl (hSc p3 c0.a _ _ fP fP) rfl rfl ?_; rintro _ _ _ ⟨rfl, p4, rfl, hp4, rfl⟩; refine ⟨okF, ?_⟩)
   repeat (refine aI ?_)
   (refine aA rfl (hMi p2 p4 _ _ fP fP) rfl rfl ?_; rintro _ _ _ ⟨rfl, p5, rfl, hp5, rfl⟩; refine ⟨okF, ?_⟩)
   repeat (refine aI ?_)
   refine aQ _ _ _ aO aF aD ⟨b5, p5, by rw [hp5, hp2, hp4, hp1, hp3]; rfl, rfl, rfl, rfl⟩
 ·rintro G M I ⟨b5, p5, hp5, rfl, rfl, rfl⟩
  have hZ2 := fun M0 I0 => hZ p5 M0 I0
  have hzz : ¬ p5.v.z0 := by rw [hp5]; exact hz
  rw [aY hzz] at hZ2
  repeat (refine aI ?_)
  (refine aA rfl (hZ2 _ _ fP) rfl rfl ?_; rintro _ _ _ ⟨rfl, rfl, rfl⟩; refine ⟨okF, ?_⟩)
  repeat (refine aI ?_)
  refine lU (fun G M I => ∃ (b6 : Nat) (e6 : RE), e6.q = c0.b.v.crs c1.b.v / p5.v.dot p5.v ∧ G = [(2, .pointer (some ⟨b2, 0, none⟩)), (5, .pointer (some ⟨b5, 0, none⟩)), (6, .pointer (some ⟨b6, 0, none⟩))] ∧ M = .blk b6 (eR e6) 42 :: .blk b5 (eP p5) 47 :: .blk b2 zPc 47 :: M0 ∧ I = bP e6 ((k + k) + (k + k) + 1 + ((z + z) + (z + z) + 1)) :: dJ p5 z :: I0) ?_ ?_
  ·have hne : ∀ e5 : RE, e5.q = p5.v.dot p5.v → e5.q ≠ 0 := fun e5 h => by
    have := aRH hzz
    rw [h]
    simp only [V2.dot]
    intro e; rw [e] at this; exact absurd this (by decide)
   ((repeat refine aK ?_); refine kD (.blk b5 (eP p5) 47 :: .blk b4 (eR e4) 42 :: M0) (dJ p5 z :: bP e4 ((k + k) + (k + k) + 1) :: I0) mixed ?_)
   refine bR (fuel := 8) (listed' := #[true, true, true, false, false, false, false, false, false, false, false]) [0, 1, 2] [2, 2, 2] aF aD (by kernel_rfl) (by kernel_rfl) rfl rfl ?_
   repeat (refine aI ?_)
   refine aM (fuel := 7) (i := 3) (j := 8) (by kernel_rfl) ?_ ?_
   ·(refine aA rfl (hDo p5 _ _ fP fP) rfl rfl ?_; rintro _ _ _ ⟨rfl, e5, rfl, he5, rfl⟩; refine ⟨okF, ?_⟩)
    refine aJ ?_
    repeat (refine aI ?_)
    refine aM (fuel := 6) (i := 4) (j := 8) (by kernel_rfl) ?_ ?_
    ·(refine aA rfl (hDv e4 e5 _ _ (hne e5 he5) fP fP) rfl rfl ?_; rintro _ _ _ ⟨rfl, e6, rfl, he6, rfl⟩; refine ⟨okF, ?_⟩)
     refine aJ ?_
     refine aG [5, 6, 7, 8, 9, 10] [1, 1, 2, 0, 0, 0] aF aD (by kernel_rfl) (by kernel_rfl) rfl rfl ?_
     repeat (refine aI ?_)
     (refine aB rfl rfl ?_; intro b6; refine ⟨okF, ?_⟩)
     repeat (refine aI ?_)
     refine aQ _ _ _ aO aF aD ⟨b6, e6, by rw [he6, he5, he4], rfl, rfl, rfl⟩
    ·(refine aB rfl rfl ?_; intro b6; refine ⟨okF, ?_⟩)
     refine aJ ?_
     refine aG [4, 5, 6, 7, 9, 10] [0, 0, 0, 1, 0, 0] aF aD (by kernel_rfl) (by kernel_rfl) rfl rfl ?_
     repeat (refine aI ?_)
     (refine aA rfl (hDv e4 e5 _ _ (hne e5 he5) fP fP) rfl rfl ?_; rintro _ _ _ ⟨rfl, e6, rfl, he6, rfl⟩; refine ⟨okF, ?_⟩)
     repeat (refine aI ?_)
     refine aQ _ _ _ aO aF aD ⟨b6, e6, by rw [he6, he5, he4], rfl, rfl, rfl⟩
   ·(refine aB rfl rfl ?_; intro b6; refine ⟨okF, ?_⟩)
    refine aJ ?_
    refine aG [3, 4, 5, 6, 7, 9, 10] [0, 0, 0, 0, 1, 0, 0] aF aD (by kernel_rfl) (by kernel_rfl) rfl rfl ?_
    repeat (refine aI ?_)
    (refine aA rfl (hDo p5 _ _ fP fP) rfl rfl ?_; rintro _ _ _ ⟨rfl, e5, rfl, he5, rfl⟩; refine ⟨okF, ?_⟩)
    repeat (refine aI ?_)
    (refine aA rfl (hDv e4 e5 _ _ (hne e5 he5) fP fP) rfl rfl ?_; rintro _ _ _ ⟨rfl, e6, rfl, he6, rfl⟩; refine ⟨okF, ?_⟩)
    repeat (refine aI ?_)
    refine aQ _ _ _ aO aF aD ⟨b6, e6, by rw [he6, he5, he4], rfl, rfl, rfl⟩
  ·rintro G M I ⟨b6, e6, he6, rfl, rfl, rfl⟩
   refine aK ?_
   refine aL ?_
   repeat (refine aI ?_)
   (refine aA rfl (hSe p5 e6 _ _ fP fP) rfl rfl ?_; rintro _ _ _ ⟨rfl, p6, rfl, hp6, rfl⟩; refine ⟨okF, ?_⟩)
   repeat (refine aI ?_)
   refine bI (φ := dJ p6 (4 * k + 20 * (j + k) + 20)) fP ?_
   refine kI (rs := [.cell 2 47, .tmp 3]) (vs := [pv p6, .bool true]) (.inl rfl) rfl (.cellN (cs := eP p6) inferInstance rfl aC rfl (.tmp rfl .nil)) rfl M0 (dJ p6 (4 * k + 20 * (j + k) + 20) :: I0) aF aD ⟨rfl, p6, rfl, by rw [hp6, he6, hp5]; rfl, rfl⟩
end
end Go.Proofs.YtgeagiikkeiioaaGreat
namespace Go.Proofs.YtgeagiikkeiioaaGreat
open Go Go.Fx
abbrev zRc : List Value := [.bool false, .slice none 0 0, .bool false, .slice none 0 0]
theorem aKE {p : PW → Prop} {a b c : PW} (h1 : p a) (h2 : p b) (h3 : p c) : ∀ x ∈ [a, b, c], p x := fun x hx => by
 simp only [List.mem_cons, List.not_mem_nil, or_false] at hx
 rcases hx with rfl | rfl | rfl
 ·exact h1
 ·exact h2
 ·exact h3
theorem sgnP {q : Rat} : 0 < q.num.sign ↔ 0 < q := by
 rw [Int.sign_pos_iff, aPX]
 simp
section
variable {X : List Nat} {w0 : World} {M0 : List Ent} {I0 : List bD}
theorem aEU {c f p : PE} {k : Nat} (hk : k ≤ 20000000000) (hc : Hv I0 (dJ c k)) (hf : Hv I0 (dJ f k)) (hp : Hv I0 (dJ p k)) (hb : ¬ f.v.z0) (h0 : ahd c.v f.v p.v ≠ 0) :
  CD Tryz.prog 65 [pv c, pv f, pv p] X w0 M0 I0 (fun v M I => M0 = M ∧ ∃ e : RE, v = .tuple #[rv e, .bool (B (0 < ahd c.v f.v p.v)), .int .i64 0] ∧ e.q = slp c.v f.v p.v ∧ I = bP e (12 * k + 6) :: I0) := by
 refine yI (φ := c.raw.small ∧ f.raw.small ∧ p.raw.small) (fun w hw => ⟨Mem.pureP hc hk hw, Mem.pureP hf hk hw, Mem.pureP hp hk hw⟩) (fun hs => ?_)
 have hV := fun q M0 I0 h1 => sW (X := X) (w0 := w0) (M0 := M0) (I0 := I0) (q := q) (c := 3) (m := 3) (ps := [c.raw, f.raw, p.raw]) rfl (by simp) (aKE hs.1 hs.2.1 hs.2.2) h1
 rw [bS (show ∀ x ∈ [c.raw, f.raw, p.raw], x.good from aKE c.raw_good f.raw_good p.raw_good)] at hV
 have hZ := fun M0 I0 => yQ (X := X) (w0 := w0) (M0 := M0) (I0 := I0) (a := f) (k := k) (by omega)
 rw [aY hb] at hZ
 have hMi := fun M0 I0 => nK (X := X) (w0 := w0) (M0 := M0) (I0 := I0) (a := p) (b := c) (k := k) (m := k) (by omega)
 have hDo := fun p9 g M0 I0 => aHZ (X := X) (w0 := w0) (M0 := M0) (I0 := I0) (a := p9) (b := g) (k := k + k + 1) (m := k) (by omega)
 have hSd := fun M0 I0 => rZ (X := X) (w0 := w0) (M0 := M0) (I0 := I0) (a := f) (k := k) (by omega)
 obtain ⟨z, hz⟩ : ∃ z, z = (k + k + 1 + k) + (k + k + 1 + k) + 1 := ⟨_, rfl⟩
 rw [← hz] at hDo
 have hDv := fun e4 e5 M0 I0 (hb0 : e5.q ≠ 0) => rE (X := X) (w0 := w0) (M0 := M0) (I0 := I0) (a := e4) (b := e5) (k := z) (m := z) (by omega) hb0
 have hSg := fun e4 M0 I0 => lN (X := X) (w0 := w0) (M0 := M0) (I0 := I0) (e := e4) (k := z) (by omega)
 refine eX (Hv.pw3 (hc.toPW (by omega)) (hf.toPW (by omega)) (hp.toPW (by omega))) (eX hc.cons (eX hf.cons.cons (eX hp.cons.cons.cons ?_)))
 refine vZ Tryz.func65 rfl Tryz.ntmps65 rfl ?_
 refine aK ?_
 refine aL ?_
 (refine aR rfl rfl rfl ?_; intro b3; refine ⟨okF, ?_⟩)
 (refine aR rfl rfl rfl ?_; intro b4; refine ⟨okF, ?_⟩)
 (refine aR rfl rfl rfl ?_; intro b5; refine ⟨okF, ?_⟩)
 (refine aB rfl rfl ?_; intro b6; refine ⟨okF, ?_⟩)
 repeat (refine aI ?_)
 (refine bL (cs := recs ePW [c.raw, f.raw, p.raw]) ([pv c, pv f, pv p]) rfl rfl (by intro v hv; repeat (first | exact absurd hv (List.not_mem_nil) | (rcases List.mem_cons.1 hv with rfl | hv; · rfl))) (by omega) rfl rfl rfl ?_; intro bs; refine ⟨okF, ?_⟩)
 refine bT mG ?_
 (refine aA rfl (hV _ _ _ aC fP) rfl rfl ?_; rintro _ _ _ ⟨rfl, rfl, rfl⟩; refine ⟨okF, ?_⟩)
 repeat (refine aI ?_)
 (refine aA rfl (hZ _ _ fP) rfl rfl ?_; rintro _ _ _ ⟨rfl, rfl, rfl⟩; refine ⟨okF, ?_⟩)
 repeat (refine aI ?_)
 (refine aA rfl (hMi _ _ fP fP) rfl rfl ?_; rintro _ _ _ ⟨rfl, p9, rfl, hp9, rfl⟩; refine ⟨okF, ?_⟩)
 (refine aB rfl rfl ?_; intro b9; refine ⟨okF, ?_⟩)
 repeat (refine aI ?_)
 (refine aA rfl (hDo p9 f _ _ fP fP) rfl rfl ?_; rintro _ _ _ ⟨rfl, e10, rfl, he10, rfl⟩; refine ⟨okF, ?_⟩)
 (refine aB rfl rfl ?_; intro b10; refine ⟨okF, ?_⟩)
 repeat (refine aI ?_)
 have ea : e10.q = ahd c.v f.v p.v := by rw [he10, hp9]; rfl
 have e0 : e10.q ≠ 0 := by rw [ea]; exact h0
 (repeat refine aK ?_); refine dI (.blk b10 (eR e10) 42 :: .blk b9 (eP p9) 47 :: .blk b4 (eP f) 47 :: M0) (bP e10 z :: dJ p9 (k + k + 1) :: dJ p k :: dJ f k :: dJ c k :: mE [c.raw, f.raw, p.raw] :: I0) [0, 1, 4, 2, 3, 5, 6, 7, 8, 9, 10] [2, 2, 2, 0, 0, 0, 0, 0, 1, 0, 0] aF aD mixed (by kernel_rfl) ?_
 repeat (refine aI ?_)
 (refine aA rfl (hSd _ _ fP) rfl rfl ?_; rintro _ _ _ ⟨rfl, p11, rfl, hp11, rfl⟩; refine ⟨okF, ?_⟩)
 repeat (refine aI ?_)
 (refine aA rfl (hDo p9 p11 _ _ fP fP) rfl rfl ?_; rintro _ _ _ ⟨rfl, e12, rfl, he12, rfl⟩; refine ⟨okF, ?_⟩)
 repeat (refine aI ?_)
 (refine aA rfl (hDv e12 e10 _ _ e0 fP fP) rfl rfl ?_; rintro _ _ _ ⟨rfl, e13, rfl, he13, rfl⟩; refine ⟨okF, ?_⟩)
 repeat (refine aI ?_)
 (repeat refine aK ?_); refine dI (.blk b10 (eR e10) 42 :: .blk b6 (eR e13) 42 :: M0) (bP e13 (z + z) :: bP e10 z :: I0) [0, 1, 2, 3, 4, 5, 6] [1, 1, 0, 1, 0, 0, 0] aF aD mixed (by kernel_rfl) ?_
 repeat (refine aI ?_)
 (refine aA rfl (hSg e10 _ _ fP) rfl rfl ?_; rintro _ _ _ ⟨rfl, rfl, rfl⟩; refine ⟨okF, ?_⟩)
 repeat (refine aI ?_)
 refine bI (φ := bP e13 (12 * k + 6)) fP ?_
 refine kI (rs := [.cell 6 42, .tmp 7, .tmp 8]) (vs := [rv e13, .bool (B (0 < e10.q.num.sign)), .int .i64 0]) (.inl rfl) rfl (.cellN (cs := eR e13) inferInstance rfl aC rfl (.tmp rfl (.tmp rfl .nil))) rfl M0 (bP e13 (12 * k + 6) :: I0) aF aD ⟨rfl, e13, ?_, ?_, rfl⟩
 ·rw [fM sgnP, ea]
 ·rw [he13, he12, hp9, hp11, ea]; rfl
end
end Go.Proofs.YtgeagiikkeiioaaGreat
namespace Go.Proofs.YtgeagiikkeiioaaGreat
open Go Go.Fx
def prV (A : Mt) (a b c : Rat) (i : Nat) : Rat := sm 4 (fun t => at2 A i t * [a, b, c, 1].getD t 0)
theorem Hv.l1 {I : List bD} {b : Nat} {e : RE} {k : Nat} (h1 : bH (some ⟨b, 0, none⟩) (recs eR [e]) ∈ I) (h2 : bP e k ∈ I) : Hv I (iW ⟨some ⟨b, 0, none⟩, 1, [e]⟩ k) := ⟨fun X w hw => ⟨(hw _ h1 : SlI _ _ X w).go, fun x hx => by rw [List.mem_singleton.1 hx]; exact hw _ h2, ⟨Nat.le_refl _, .inl (Ok.mk _ _)⟩⟩⟩
theorem Hv.allL2 {I : List bD} {a b : RL} {k : Nat} (h1 : iW a k ∈ I) (h2 : iW b k ∈ I) : Hv I (iR [a, b] k) := ⟨fun X w hw => ⟨fun r hr => by
 simp only [List.mem_cons, List.not_mem_nil, or_false] at hr
 rcases hr with rfl | rfl
 ·exact hw _ h1
 ·exact hw _ h2⟩⟩
section
variable {X : List Nat} {w0 : World} {M0 : List Ent} {I0 : List bD}
end
end Go.Proofs.YtgeagiikkeiioaaGreat
namespace Go.Fx
section
variable {P : Program} {ops : Array Oper} {Q : Exit → Act → World → Prop} {Cs Cs' : Nat → World → Prop}
end
section
variable {P : Program} {n : Nat} {Q : Exit → Act → World → Prop} {G : Env} {X : List Nat} {w0 : World} {M M1 M2 : List Ent} {I I1 I2 : List bD} {l : List Oper}
end
section
variable {P : Program} {n : Nat} {ops l : List Oper} {Q : Exit → Act → World → Prop} {m : Mode} {G : Env} {ty : TypeId} {pos : String} {af : Array Edge} {g : Option (Nat × Bool)} {X : List Nat} {w0 : World} {M M' : List Ent} {I : List bD}
theorem aOF {w : World} {b mm c sz : Nat} {cs : List Value} {e : TypeId} (ho : w.ownsRow 0 e sz (.slice (some ⟨b, 0, none⟩) mm c) mm cs) : ∃ tl, Blk w b (cs ++ tl) e ∧ cs.length = mm * sz ∧ mm ≤ c ∧ c ≤ 9223372036854775807 ∧ (cs ++ tl).length = c * sz := by
 rcases ho.2 with ⟨h1, h2⟩ | ⟨g, cap, cur, hv, _, hg, hmc, hc, hsz, htake⟩
 ·injection h1 with e1; cases e1
 ·injection hv with e1 e2 e3
  injection e1 with e1
  injection e1 with e1
  subst e1; subst e3
  have hcs : cs ++ cur.toList.drop (mm * sz) = cur.toList := by rw [← htake, List.take_append_drop]
  exact ⟨cur.toList.drop (mm * sz), by rw [hcs]; simpa [Blk] using hg, ho.1, hmc, by first | exact hc | omega, by rw [hcs]; simpa using hsz⟩
theorem aOX {w : World} {b mm c sz : Nat} {cs tl : List Value} {e : TypeId} (hB : Blk w b (cs ++ tl) e) (h1 : cs.length = mm * sz) (h2 : mm ≤ c) (h3 : c ≤ 9223372036854775807) (h4 : (cs ++ tl).length = c * sz) : w.ownsRow 0 e sz (.slice (some ⟨b, 0, none⟩) mm c) mm cs :=
 ⟨h1, .inr ⟨b, c, (cs ++ tl).toArray, rfl, Nat.zero_le _, by simpa [Blk] using hB, h2, by first | exact h3 | (show c ≤ 9223372036854775807; exact h3), by simpa using h4, by rw [← h1]; simp⟩⟩
/- a store into a row that may still grow -/
theorem aFF {d : Option Nat} {t : TypeId} {x y : Operand} {b o mm c sz : Nat} {v : Value} {cs cs' : List Value} {e : TypeId} [ScalarTy P t] (hx : ev G x = some (.pointer (some ⟨b, o, none⟩))) (hy : ev G y = some v) (h1 : v.oneCell' = true)
  (hr : Rep (.row (some ⟨b, 0, none⟩) mm c cs e sz) (.row (some ⟨b, 0, none⟩) mm c cs' e sz) M M') (hs : StAt cs o v cs') (hl : cs'.length = cs.length) (hg : nX ops G g = some true) (hd : fits d n = true)
  (k : OkD m X w0 M' I ∧ RD P n ops Q m.nextE l (put G d undef) X w0 M' I) : RD P n ops Q m (⟨d, .store t x y, ty, pos, af, g⟩ :: l) G X w0 M I :=
 yF (K := fun v' M2 I2 => v' = undef ∧ M2 = M' ∧ I2 = I) hg
  (fun w hw => by
   obtain ⟨tl, hB, q1, q2, q3, q4⟩ := aOF (hw.ent _ hr.mem : w.ownsRow 0 e sz (.slice (some ⟨b, 0, none⟩) mm c) mm cs)
   have hs2 := hs.app (tl := tl)
   refine (zT hx hy h1 hB hs2.out.2).mono (fun _ w' ⟨hu, hB', hE⟩ => ⟨_, _, ⟨hu, rfl, rfl⟩, hw.upd hr hE (fun b hb => .inl hb) (by simp [Ent.blocks]) ?_⟩)
   rw [hs2.out.1] at hB'
   exact aOX hB' (by omega) q2 q3 (by simp only [List.length_append] at q4 ⊢; omega)) rfl hd
  (fun _ _ _ ⟨hu, hM, hI⟩ => by subst hu; subst hM; subst hI; exact k)
end
theorem tV {P : Program} {ops : Array Oper} {Q1 Q2 : Exit → Act → World → Prop} (h : ∀ a w, Q1 .normal a w → Q2 .normal a w) : ∀ (r : List Oper) (m : Mode) (a : Act) (w : World), wpM P ops Q1 m r a w → wpM P ops Q2 m r a w
 | [], _, a, w, hh => h a w hh
 | o :: r, m, a, w, hh => ⟨fun hw => (hh.1 hw).imp (fun ⟨h1, v, h2, h3⟩ => ⟨h1, v, h2, tV h r _ _ _ h3⟩) (fun ⟨h1, h2⟩ => ⟨h1, Oper.wp_mono (fun a w ⟨x, y⟩ => ⟨x, tV h r _ _ _ y⟩) h2⟩), fun hw => ⟨(hh.2 hw).1, tV h r _ _ _ (hh.2 hw).2⟩⟩
section
variable {P : Program} {n : Nat} {ops l : List Oper} {Q Q' Q1 Q2 : Exit → Act → World → Prop} {m : Mode} {G : Env} {X : List Nat} {w0 : World} {M M' : List Ent} {I : List bD}
/- a cut from within a region that a test follows -/
theorem aNW {c y : Code} (J : Env → List Ent → List bD → Prop) (h : RD P n ops (Then (c.wp P (Then (CutD n J X w0) Q1)) Q2) m l G X w0 M I) (k : ∀ G' M' I', J G' M' I' → TD P n y Q' G' X w0 M' I') : RD P n ops (Then (c.wp P (Then (y.wp P Q') Q1)) Q2) m l G X w0 M I :=
 ⟨fun w hw => ⟨fun a ha => tV (fun a w q => by
  unfold Then at q ⊢
  refine Code.wp_mono (fun e a w q => ?_) q
  cases e <;> first | exact q | (obtain ⟨G', ⟨M', I', hJ, hm⟩, hh⟩ := q; exact ((k G' M' I' hJ).go w hm).go a hh)) l m a w ((h.go w hw).go a ha)⟩⟩
end
end Go.Fx
namespace Go.Proofs.YtgeagiikkeiioaaGreat
open Go Go.Fx
abbrev zT3 : List Value := [.bool false, .slice none 0 0, .bool false, .slice none 0 0, .bool false, .slice none 0 0, .bool false, .slice none 0 0, .bool false, .slice none 0 0, .bool false, .slice none 0 0]
def ctrOk (N : Mt) : Prop := N.length = 1 ∧ at2 N 0 3 ≠ 0
instance ctrOk.dec (N : Mt) : Decidable (ctrOk N) := by unfold ctrOk; exact inferInstance
section
variable {X : List Nat} {w0 : World} {M0 : List Ent} {I0 : List bD}
end
end Go.Proofs.YtgeagiikkeiioaaGreat
