/- The examples of chapter 30. -/
import Derived.Test.YtkccjglmnhgabaaGreatZhbg
import Derived.Test.YtkccjglmnhgabaaGreatZhax
set_option linter.unusedSimpArgs false
set_option linter.unusedVariables false
set_option maxRecDepth 100000
set_option maxHeartbeats 4000000
namespace Go.Proofs.YtkccjglmnhgabaaGreat
open Go Go.Fx
def ex0 : V2 := ⟨((-1 : Int) : Rat), ((1 : Int) : Rat)⟩
def ex1 : V2 := ⟨((0 : Int) : Rat), ((2 : Int) : Rat)⟩
def ex2 : V2 := ⟨((2 : Int) : Rat), ((2 : Int) : Rat)⟩
def ey0 : V2 := ⟨((-1 : Int) : Rat), ((0 : Int) : Rat)⟩
def ey1 : V2 := ⟨((0 : Int) : Rat), ((1 : Int) : Rat)⟩
def ey2 : V2 := ⟨((1 : Int) : Rat), ((0 : Int) : Rat)⟩
def es0 : Rat := ((-1 : Int) : Rat)
def es1 : Rat := ((0 : Int) : Rat)
def es2 : Rat := ((1 : Int) : Rat)
instance (a b : V2) : Decidable (a = b) := inferInstance
theorem exD : plD ex0 ex1 ex2 es0 es1 es2 ≠ 0 := by decide +kernel
theorem exZ : ¬ (plZ ex0 ex1 ex2 es0 es1 es2).z0 := by decide +kernel
theorem exN0 : ¬ ((plC ex0 ex1 ex2 es0 es1 es2).sub (ex0.sub ex1)).z0 := by decide +kernel
theorem exN2 : ¬ ((plC ex0 ex1 ex2 es0 es1 es2).sub (ex2.sub ex1)).z0 := by decide +kernel
theorem exF0 : ¬ (plF ex0 ex1 ex2 es0 es1 es2).z0 := by decide +kernel
theorem exA0 : 0 < ahd (plA ex0 ex1 ex2 es0 es1 es2) (plF ex0 ex1 ex2 es0 es1 es2) ex0 := by decide +kernel
theorem exA1 : 0 < ahd (plA ex0 ex1 ex2 es0 es1 es2) (plF ex0 ex1 ex2 es0 es1 es2) ex1 := by decide +kernel
theorem exA2 : 0 < ahd (plA ex0 ex1 ex2 es0 es1 es2) (plF ex0 ex1 ex2 es0 es1 es2) ex2 := by decide +kernel
theorem uR : plA ex0 ex1 ex2 es0 es1 es2 = ⟨((0 : Int) : Rat), ((0 : Int) : Rat)⟩ := by decide +kernel
theorem exFx : (plF ex0 ex1 ex2 es0 es1 es2).x = 0 := by decide +kernel
theorem exFy : 0 < (plF ex0 ex1 ex2 es0 es1 es2).y := by decide +kernel
theorem eyD : plD ey0 ey1 ey2 es0 es1 es2 = 0 := by decide +kernel
def eO : V2 := ⟨((0 : Int) : Rat), ((0 : Int) : Rat)⟩
theorem ezF : ¬ ey1.z0 := by decide +kernel
theorem ezA : ahd eO ey1 ex2 ≠ 0 := by decide +kernel
theorem ezP : 0 < ahd eO ey1 ex2 := by decide +kernel
theorem ezS : slp eO ey1 ex2 = ((1 : Int) : Rat) := by decide +kernel
section
variable {X : List Nat} {w0 : World} {M0 : List Ent} {I0 : List aZ}
theorem zA : CD Tryz.prog 11 [] X w0 M0 I0 (fun v M I => M0 = M ∧ I0 = I ∧ v = .bool true) := by
 have hR0 := fun M0 I0 => qV (X := X) (w0 := w0) (M0 := M0) (I0 := I0) (x := -1) (by decide) (k := 0) (by decide)
 have hR1 := fun M0 I0 => qV (X := X) (w0 := w0) (M0 := M0) (I0 := I0) (x := 0) (by decide) (k := 0) (by decide)
 have hR2 := fun M0 I0 => qV (X := X) (w0 := w0) (M0 := M0) (I0 := I0) (x := 1) (by decide) (k := 0) (by decide)
 have hp := fun (x y : Int) (hx : x.natAbs ≤ 2) (hy : y.natAbs ≤ 2) M0 I0 => aIG (X := X) (w0 := w0) (M0 := M0) (I0 := I0) (x := x) (y := y) (by omega) (by omega) (k := 1) (by omega) (by omega)
 have hPl := fun (p0 p1 p2 : PE) (s0 s1 s2 : RE) (M0 : List Ent) (I0 : List aZ) (e0 : p0.v = ex0) (e1 : p1.v = ex1) (e2 : p2.v = ex2) (f0 : s0.q = es0) (f1 : s1.q = es1) (f2 : s2.q = es2) (h0 : Hv I0 (cZ p0 1)) (h1 : Hv I0 (cZ p1 1)) (h2 : Hv I0 (cZ p2 1)) (g0 : Hv I0 (bM s0 0)) (g1 : Hv I0 (bM s1 0)) (g2 : Hv I0 (bM s2 0)) => by
  have hh := aLV (X := X) (w0 := w0) (M0 := M0) (I0 := I0) (p0 := p0) (p1 := p1) (p2 := p2) (s0 := s0) (s1 := s1) (s2 := s2) (k := 1) (s := 0) (K := 296) rfl (by decide) h0 h1 h2 g0 g1 g2 (by rw [e0, e1, e2, f0, f1, f2]; exact exD) (by rw [e0, e1, e2, f0, f1, f2]; exact exZ) (by rw [e0, e1, e2, f0, f1, f2]; exact exN0) (by rw [e0, e1, e2, f0, f1, f2]; exact exN2) (by rw [e0, e1, e2, f0, f1, f2]; exact exF0) (fun p hp => by
   simp only [List.mem_cons, List.not_mem_nil, or_false] at hp
   rcases hp with rfl | rfl | rfl
   ·rw [e0, e1, e2, f0, f1, f2]; exact exA0
   ·rw [e0, e1, e2, f0, f1, f2]; exact exA1
   ·rw [e0, e1, e2, f0, f1, f2]; exact exA2)
  rw [e0, e1, e2, f0, f1, f2] at hh
  exact hh
 have hPd := fun (p0 p1 p2 : PE) (s0 s1 s2 : RE) (M0 : List Ent) (I0 : List aZ) (e0 : p0.v = ey0) (e1 : p1.v = ey1) (e2 : p2.v = ey2) (f0 : s0.q = es0) (f1 : s1.q = es1) (f2 : s2.q = es2) (h0 : Hv I0 (cZ p0 1)) (h1 : Hv I0 (cZ p1 1)) (h2 : Hv I0 (cZ p2 1)) (g0 : Hv I0 (bM s0 0)) (g1 : Hv I0 (bM s1 0)) (g2 : Hv I0 (bM s2 0)) => aIH (X := X) (w0 := w0) (M0 := M0) (I0 := I0) (p0 := p0) (p1 := p1) (p2 := p2) (s0 := s0) (s1 := s1) (s2 := s2) (k := 1) (s := 0) (K := 296) rfl (by decide) h0 h1 h2 g0 g1 g2 (by rw [e0, e1, e2, f0, f1, f2]; exact eyD)
 have hSl := fun (c f p : PE) (M0 : List Ent) (I0 : List aZ) (e0 : c.v = eO) (e1 : f.v = ey1) (e2 : p.v = ex2) (h1 : Hv I0 (cZ c 1)) (h2 : Hv I0 (cZ f 1)) (h3 : Hv I0 (cZ p 1)) => by
  have hh := aEF (X := X) (w0 := w0) (M0 := M0) (I0 := I0) (c := c) (f := f) (p := p) (k := 1) (by decide) h1 h2 h3 (by rw [e1]; exact ezF) (by rw [e0, e1, e2]; exact ezA)
  rw [e0, e1, e2, dG ezP, ezS] at hh
  exact hh
 have hSm := fun (a b : PE) (e : a.v = b.v) (M0 : List Ent) (I0 : List aZ) (h1 : Hv I0 (cZ a 298)) (h2 : Hv I0 (cZ b 1)) => by
  have hh := aKK (X := X) (w0 := w0) (M0 := M0) (I0 := I0) (a := a) (b := b) (k := 298) (m := 1) (by decide) h1 h2
  rw [dG e] at hh
  exact hh
 have hZe := fun (a : RE) (e : a.q = 0) (M0 : List Ent) (I0 : List aZ) (h1 : Hv I0 (bM a 593)) => by
  have hh := aCE (X := X) (w0 := w0) (M0 := M0) (I0 := I0) (a := a) (k := 593) (by decide) h1
  rw [dG e] at hh
  exact hh
 have hSg := fun (a : RE) M0 I0 => wH (X := X) (w0 := w0) (M0 := M0) (I0 := I0) (e := a) (k := 593) (by decide)
 have hSa := fun (a b : RE) (e : a.q = b.q) (M0 : List Ent) (I0 : List aZ) (h1 : Hv I0 (bM a 18)) (h2 : Hv I0 (bM b 0)) => by
  have hh := aDN (X := X) (w0 := w0) (M0 := M0) (I0 := I0) (a := a) (b := b) (k := 18) (m := 0) (by decide) h1 h2
  rw [dG e] at hh
  exact hh
 refine aOA Tryz.func11 rfl Tryz.ntmps11 rfl ?_
 refine aL ?_
 refine aM ?_
 repeat (refine aJ ?_)
 (refine aA rfl (hR0 _ _) rfl rfl ?_; rintro _ _ _ ⟨rfl, s0, rfl, hs0, rfl⟩; refine ⟨okF, ?_⟩)
 (refine aA rfl (hR1 _ _) rfl rfl ?_; rintro _ _ _ ⟨rfl, s1, rfl, hs1, rfl⟩; refine ⟨okF, ?_⟩)
 (refine aA rfl (hR2 _ _) rfl rfl ?_; rintro _ _ _ ⟨rfl, s2, rfl, hs2, rfl⟩; refine ⟨okF, ?_⟩)
 (refine aH rfl (fun _ => aX (vals := [rv s0, rv s1, rv s2]) (cells := recs eR [s0, s1, s2]) rfl ?hpl rfl ?hz) rfl rfl ?_; (case hpl => exact (by intro v hv; repeat (first | exact absurd hv (List.not_mem_nil) | (rcases List.mem_cons.1 hv with rfl | hv; · rfl)))); (case hz => rfl))
 (refine aB rfl rfl ?_; intro b1; refine ⟨okF, ?_⟩)
 repeat (refine aJ ?_)
 refine kU (fun G M I => ∃ (b2 b3 : Nat) (a f : PE), a.v = eO ∧ f.v = plF ex0 ex1 ex2 es0 es1 es2 ∧ G = (4, .int .i64 0) :: [(1, .pointer (some ⟨b1, 0, none⟩)), (2, .pointer (some ⟨b2, 0, none⟩)), (3, .pointer (some ⟨b3, 0, none⟩))] ∧ M = .blk b3 (eP f) 43 :: .blk b2 (eP a) 43 :: .blk b1 (recs eR [s0, s1, s2]) 41 :: M0 ∧ I = cZ f 593 :: cZ a 298 :: bM s2 0 :: bM s1 0 :: bM s0 0 :: I0) ?_ ?_
 ·((repeat refine aL ?_); refine iL (.blk b1 (recs eR [s0, s1, s2]) 41 :: M0) (bM s2 0 :: bM s1 0 :: bM s0 0 :: I0) mixed ?_)
  refine bH (fuel := 14) (listed' := #[false, false, false, false, true, false, false, false, false, false, false, false, false, false, false]) [4] [5] aD aF (by kernel_rfl) (by kernel_rfl) rfl rfl ?_
  repeat (refine aJ ?_)
  refine fB (fuel := 13) (i := 0) (j := 10) (m := 11) (by kernel_rfl) ?_ ?_ ?_
  ·(refine aA rfl (hp (-1) 1 (by decide) (by decide) _ _) rfl rfl ?_; rintro _ _ _ ⟨rfl, p0, rfl, hp0, rfl⟩; refine ⟨okF, ?_⟩)
   refine aI ?_
   repeat (refine aJ ?_)
   refine fB (fuel := 12) (i := 1) (j := 10) (m := 11) (by kernel_rfl) ?_ ?_ ?_
   ·(refine aA rfl (hp 0 2 (by decide) (by decide) _ _) rfl rfl ?_; rintro _ _ _ ⟨rfl, p1, rfl, hp1, rfl⟩; refine ⟨okF, ?_⟩)
    refine aI ?_
    repeat (refine aJ ?_)
    refine fB (fuel := 11) (i := 2) (j := 10) (m := 11) (by kernel_rfl) ?_ ?_ ?_
    ·(refine aA rfl (hp 2 2 (by decide) (by decide) _ _) rfl rfl ?_; rintro _ _ _ ⟨rfl, p2, rfl, hp2, rfl⟩; refine ⟨okF, ?_⟩)
     refine aI ?_
     refine bH (fuel := 10) (listed' := #[true, true, true, true, true, false, false, false, false, false, false, false, false, false, false]) [3] [2] aD aF (by kernel_rfl) (by kernel_rfl) rfl rfl ?_
     repeat (refine aJ ?_)
     (refine aH rfl (fun _ => aX (vals := [pv p0, pv p1, pv p2]) (cells := recs eP [p0, p1, p2]) rfl ?hpl rfl ?hz) rfl rfl ?_; (case hpl => exact (by intro v hv; repeat (first | exact absurd hv (List.not_mem_nil) | (rcases List.mem_cons.1 hv with rfl | hv; · rfl)))); (case hz => rfl))
     repeat (refine aJ ?_)
     refine fB (fuel := 9) (i := 5) (j := 10) (m := 11) (by kernel_rfl) ?_ ?_ ?_
     ·(refine aA rfl (hPl p0 p1 p2 s0 s1 s2 _ _ hp0 hp1 hp2 hs0 hs1 hs2 aP aP aP aP aP aP) rfl rfl ?_; rintro _ _ _ ⟨rfl, a, f, rfl, ha, hf, rfl⟩; refine ⟨okF, ?_⟩)
      refine aI ?_
      refine bH (fuel := 5) (listed' := #[true, true, true, true, true, true, true, true, true, true, false, false, false, false, false]) [6, 7, 8, 9] [2, 2, 3, 4] aD aF (by kernel_rfl) (by kernel_rfl) rfl rfl ?_
      repeat (refine aJ ?_)
      refine aK (fuel := 4) (i := 10) (j := 11) (by kernel_rfl) ?_ ?_
      ·(refine aB rfl rfl ?_; intro b2; refine ⟨okF, ?_⟩)
       refine aI ?_
       refine aG [11, 12, 13, 14] [0, 0, 0, 0] aD aF (by kernel_rfl) (by kernel_rfl) rfl rfl ?_
       repeat (refine aJ ?_)
       (refine aB rfl rfl ?_; intro b3; refine ⟨okF, ?_⟩)
       repeat (refine aJ ?_)
       refine bJ (φ := cZ a 298) aP (bJ (φ := cZ f 593) aP (aN _ _ _ aO aD aF ⟨b2, b3, a, f, ha.trans uR, hf, rfl, rfl, rfl⟩))
      ·(refine aB rfl rfl ?_; intro b3; refine ⟨okF, ?_⟩)
       refine aI ?_
       refine aG [10, 12, 13, 14] [0, 0, 0, 0] aD aF (by kernel_rfl) (by kernel_rfl) rfl rfl ?_
       repeat (refine aJ ?_)
       (refine aB rfl rfl ?_; intro b2; refine ⟨okF, ?_⟩)
       repeat (refine aJ ?_)
       refine bJ (φ := cZ a 298) aP (bJ (φ := cZ f 593) aP (aN _ _ _ aO aD aF ⟨b2, b3, a, f, ha.trans uR, hf, rfl, rfl, rfl⟩))
     ·(refine aB rfl rfl ?_; intro b2; refine ⟨okF, ?_⟩)
      refine aI ?_
      repeat (refine aJ ?_)
      refine aK (fuel := 8) (i := 5) (j := 11) (by kernel_rfl) ?_ ?_
      ·(refine aA rfl (hPl p0 p1 p2 s0 s1 s2 _ _ hp0 hp1 hp2 hs0 hs1 hs2 aP aP aP aP aP aP) rfl rfl ?_; rintro _ _ _ ⟨rfl, a, f, rfl, ha, hf, rfl⟩; refine ⟨okF, ?_⟩)
       refine aI ?_
       refine aG [6, 7, 8, 9, 11, 12, 13, 14] [1, 1, 2, 3, 0, 0, 0, 0] aD aF (by kernel_rfl) (by kernel_rfl) rfl rfl ?_
       repeat (refine aJ ?_)
       (refine aB rfl rfl ?_; intro b3; refine ⟨okF, ?_⟩)
       repeat (refine aJ ?_)
       refine bJ (φ := cZ a 298) aP (bJ (φ := cZ f 593) aP (aN _ _ _ aO aD aF ⟨b2, b3, a, f, ha.trans uR, hf, rfl, rfl, rfl⟩))
      ·(refine aB rfl rfl ?_; intro b3; refine ⟨okF, ?_⟩)
       refine aI ?_
       refine aG [5, 6, 7, 8, 9, 12, 13, 14] [0, 0, 0, 1, 2, 0, 0, 0] aD aF (by kernel_rfl) (by kernel_rfl) rfl rfl ?_
       repeat (refine aJ ?_)
       (refine aA rfl (hPl p0 p1 p2 s0 s1 s2 _ _ hp0 hp1 hp2 hs0 hs1 hs2 aP aP aP aP aP aP) rfl rfl ?_; rintro _ _ _ ⟨rfl, a, f, rfl, ha, hf, rfl⟩; refine ⟨okF, ?_⟩)
       repeat (refine aJ ?_)
       refine bJ (φ := cZ a 298) aP (bJ (φ := cZ f 593) aP (aN _ _ _ aO aD aF ⟨b2, b3, a, f, ha.trans uR, hf, rfl, rfl, rfl⟩))
     ·(refine aB rfl rfl ?_; intro b3; refine ⟨okF, ?_⟩)
      refine aI ?_
      repeat (refine aJ ?_)
      refine aK (fuel := 8) (i := 5) (j := 10) (by kernel_rfl) ?_ ?_
      ·(refine aA rfl (hPl p0 p1 p2 s0 s1 s2 _ _ hp0 hp1 hp2 hs0 hs1 hs2 aP aP aP aP aP aP) rfl rfl ?_; rintro _ _ _ ⟨rfl, a, f, rfl, ha, hf, rfl⟩; refine ⟨okF, ?_⟩)
       refine aI ?_
       refine aG [6, 7, 8, 9, 10, 12, 13, 14] [1, 1, 2, 3, 0, 0, 0, 0] aD aF (by kernel_rfl) (by kernel_rfl) rfl rfl ?_
       repeat (refine aJ ?_)
       (refine aB rfl rfl ?_; intro b2; refine ⟨okF, ?_⟩)
       repeat (refine aJ ?_)
       refine bJ (φ := cZ a 298) aP (bJ (φ := cZ f 593) aP (aN _ _ _ aO aD aF ⟨b2, b3, a, f, ha.trans uR, hf, rfl, rfl, rfl⟩))
      ·(refine aB rfl rfl ?_; intro b2; refine ⟨okF, ?_⟩)
       refine aI ?_
       refine aG [5, 6, 7, 8, 9, 12, 13, 14] [0, 0, 0, 1, 2, 0, 0, 0] aD aF (by kernel_rfl) (by kernel_rfl) rfl rfl ?_
       repeat (refine aJ ?_)
       (refine aA rfl (hPl p0 p1 p2 s0 s1 s2 _ _ hp0 hp1 hp2 hs0 hs1 hs2 aP aP aP aP aP aP) rfl rfl ?_; rintro _ _ _ ⟨rfl, a, f, rfl, ha, hf, rfl⟩; refine ⟨okF, ?_⟩)
       repeat (refine aJ ?_)
       refine bJ (φ := cZ a 298) aP (bJ (φ := cZ f 593) aP (aN _ _ _ aO aD aF ⟨b2, b3, a, f, ha.trans uR, hf, rfl, rfl, rfl⟩))
    ·(refine aB rfl rfl ?_; intro b2; refine ⟨okF, ?_⟩)
     refine aI ?_
     repeat (refine aJ ?_)
     refine aK (fuel := 10) (i := 2) (j := 11) (by kernel_rfl) ?_ ?_
     ·(refine aA rfl (hp 2 2 (by decide) (by decide) _ _) rfl rfl ?_; rintro _ _ _ ⟨rfl, p2, rfl, hp2, rfl⟩; refine ⟨okF, ?_⟩)
      refine aI ?_
      refine bH (fuel := 9) (listed' := #[true, true, true, true, true, false, false, false, false, false, true, false, false, false, false]) [3] [1] aD aF (by kernel_rfl) (by kernel_rfl) rfl rfl ?_
      repeat (refine aJ ?_)
      (refine aH rfl (fun _ => aX (vals := [pv p0, pv p1, pv p2]) (cells := recs eP [p0, p1, p2]) rfl ?hpl rfl ?hz) rfl rfl ?_; (case hpl => exact (by intro v hv; repeat (first | exact absurd hv (List.not_mem_nil) | (rcases List.mem_cons.1 hv with rfl | hv; · rfl)))); (case hz => rfl))
      repeat (refine aJ ?_)
      refine aK (fuel := 8) (i := 5) (j := 11) (by kernel_rfl) ?_ ?_
      ·(refine aA rfl (hPl p0 p1 p2 s0 s1 s2 _ _ hp0 hp1 hp2 hs0 hs1 hs2 aP aP aP aP aP aP) rfl rfl ?_; rintro _ _ _ ⟨rfl, a, f, rfl, ha, hf, rfl⟩; refine ⟨okF, ?_⟩)
       refine aI ?_
       refine aG [6, 7, 8, 9, 11, 12, 13, 14] [1, 1, 2, 3, 0, 0, 0, 0] aD aF (by kernel_rfl) (by kernel_rfl) rfl rfl ?_
       repeat (refine aJ ?_)
       (refine aB rfl rfl ?_; intro b3; refine ⟨okF, ?_⟩)
       repeat (refine aJ ?_)
       refine bJ (φ := cZ a 298) aP (bJ (φ := cZ f 593) aP (aN _ _ _ aO aD aF ⟨b2, b3, a, f, ha.trans uR, hf, rfl, rfl, rfl⟩))
      ·(refine aB rfl rfl ?_; intro b3; refine ⟨okF, ?_⟩)
       refine aI ?_
       refine aG [5, 6, 7, 8, 9, 12, 13, 14] [0, 0, 0, 1, 2, 0, 0, 0] aD aF (by kernel_rfl) (by kernel_rfl) rfl rfl ?_
       repeat (refine aJ ?_)
       (refine aA rfl (hPl p0 p1 p2 s0 s1 s2 _ _ hp0 hp1 hp2 hs0 hs1 hs2 aP aP aP aP aP aP) rfl rfl ?_; rintro _ _ _ ⟨rfl, a, f, rfl, ha, hf, rfl⟩; refine ⟨okF, ?_⟩)
       repeat (refine aJ ?_)
       refine bJ (φ := cZ a 298) aP (bJ (φ := cZ f 593) aP (aN _ _ _ aO aD aF ⟨b2, b3, a, f, ha.trans uR, hf, rfl, rfl, rfl⟩))
     ·(refine aB rfl rfl ?_; intro b3; refine ⟨okF, ?_⟩)
      refine aI ?_
      refine aG [2, 3, 5, 6, 7, 8, 9, 12, 13, 14] [0, 0, 0, 0, 0, 1, 2, 0, 0, 0] aD aF (by kernel_rfl) (by kernel_rfl) rfl rfl ?_
      repeat (refine aJ ?_)
      (refine aA rfl (hp 2 2 (by decide) (by decide) _ _) rfl rfl ?_; rintro _ _ _ ⟨rfl, p2, rfl, hp2, rfl⟩; refine ⟨okF, ?_⟩)
      repeat (refine aJ ?_)
      (refine aH rfl (fun _ => aX (vals := [pv p0, pv p1, pv p2]) (cells := recs eP [p0, p1, p2]) rfl ?hpl rfl ?hz) rfl rfl ?_; (case hpl => exact (by intro v hv; repeat (first | exact absurd hv (List.not_mem_nil) | (rcases List.mem_cons.1 hv with rfl | hv; · rfl)))); (case hz => rfl))
      repeat (refine aJ ?_)
      (refine aA rfl (hPl p0 p1 p2 s0 s1 s2 _ _ hp0 hp1 hp2 hs0 hs1 hs2 aP aP aP aP aP aP) rfl rfl ?_; rintro _ _ _ ⟨rfl, a, f, rfl, ha, hf, rfl⟩; refine ⟨okF, ?_⟩)
      repeat (refine aJ ?_)
      refine bJ (φ := cZ a 298) aP (bJ (φ := cZ f 593) aP (aN _ _ _ aO aD aF ⟨b2, b3, a, f, ha.trans uR, hf, rfl, rfl, rfl⟩))
    ·(refine aB rfl rfl ?_; intro b3; refine ⟨okF, ?_⟩)
     refine aI ?_
     repeat (refine aJ ?_)
     refine aK (fuel := 10) (i := 2) (j := 10) (by kernel_rfl) ?_ ?_
     ·(refine aA rfl (hp 2 2 (by decide) (by decide) _ _) rfl rfl ?_; rintro _ _ _ ⟨rfl, p2, rfl, hp2, rfl⟩; refine ⟨okF, ?_⟩)
      refine aI ?_
      refine bH (fuel := 9) (listed' := #[true, true, true, true, true, false, false, false, false, false, false, true, false, false, false]) [3] [1] aD aF (by kernel_rfl) (by kernel_rfl) rfl rfl ?_
      repeat (refine aJ ?_)
      (refine aH rfl (fun _ => aX (vals := [pv p0, pv p1, pv p2]) (cells := recs eP [p0, p1, p2]) rfl ?hpl rfl ?hz) rfl rfl ?_; (case hpl => exact (by intro v hv; repeat (first | exact absurd hv (List.not_mem_nil) | (rcases List.mem_cons.1 hv with rfl | hv; · rfl)))); (case hz => rfl))
      repeat (refine aJ ?_)
      refine aK (fuel := 8) (i := 5) (j := 10) (by kernel_rfl) ?_ ?_
      ·(refine aA rfl (hPl p0 p1 p2 s0 s1 s2 _ _ hp0 hp1 hp2 hs0 hs1 hs2 aP aP aP aP aP aP) rfl rfl ?_; rintro _ _ _ ⟨rfl, a, f, rfl, ha, hf, rfl⟩; refine ⟨okF, ?_⟩)
       refine aI ?_
       refine aG [6, 7, 8, 9, 10, 12, 13, 14] [1, 1, 2, 3, 0, 0, 0, 0] aD aF (by kernel_rfl) (by kernel_rfl) rfl rfl ?_
       repeat (refine aJ ?_)
       (refine aB rfl rfl ?_; intro b2; refine ⟨okF, ?_⟩)
       repeat (refine aJ ?_)
       refine bJ (φ := cZ a 298) aP (bJ (φ := cZ f 593) aP (aN _ _ _ aO aD aF ⟨b2, b3, a, f, ha.trans uR, hf, rfl, rfl, rfl⟩))
      ·(refine aB rfl rfl ?_; intro b2; refine ⟨okF, ?_⟩)
       refine aI ?_
       refine aG [5, 6, 7, 8, 9, 12, 13, 14] [0, 0, 0, 1, 2, 0, 0, 0] aD aF (by kernel_rfl) (by kernel_rfl) rfl rfl ?_
       repeat (refine aJ ?_)
       (refine aA rfl (hPl p0 p1 p2 s0 s1 s2 _ _ hp0 hp1 hp2 hs0 hs1 hs2 aP aP aP aP aP aP) rfl rfl ?_; rintro _ _ _ ⟨rfl, a, f, rfl, ha, hf, rfl⟩; refine ⟨okF, ?_⟩)
       repeat (refine aJ ?_)
       refine bJ (φ := cZ a 298) aP (bJ (φ := cZ f 593) aP (aN _ _ _ aO aD aF ⟨b2, b3, a, f, ha.trans uR, hf, rfl, rfl, rfl⟩))
     ·(refine aB rfl rfl ?_; intro b2; refine ⟨okF, ?_⟩)
      refine aI ?_
      refine aG [2, 3, 5, 6, 7, 8, 9, 12, 13, 14] [0, 0, 0, 0, 0, 1, 2, 0, 0, 0] aD aF (by kernel_rfl) (by kernel_rfl) rfl rfl ?_
      repeat (refine aJ ?_)
      (refine aA rfl (hp 2 2 (by decide) (by decide) _ _) rfl rfl ?_; rintro _ _ _ ⟨rfl, p2, rfl, hp2, rfl⟩; refine ⟨okF, ?_⟩)
      repeat (refine aJ ?_)
      (refine aH rfl (fun _ => aX (vals := [pv p0, pv p1, pv p2]) (cells := recs eP [p0, p1, p2]) rfl ?hpl rfl ?hz) rfl rfl ?_; (case hpl => exact (by intro v hv; repeat (first | exact absurd hv (List.not_mem_nil) | (rcases List.mem_cons.1 hv with rfl | hv; · rfl)))); (case hz => rfl))
      repeat (refine aJ ?_)
      (refine aA rfl (hPl p0 p1 p2 s0 s1 s2 _ _ hp0 hp1 hp2 hs0 hs1 hs2 aP aP aP aP aP aP) rfl rfl ?_; rintro _ _ _ ⟨rfl, a, f, rfl, ha, hf, rfl⟩; refine ⟨okF, ?_⟩)
      repeat (refine aJ ?_)
      refine bJ (φ := cZ a 298) aP (bJ (φ := cZ f 593) aP (aN _ _ _ aO aD aF ⟨b2, b3, a, f, ha.trans uR, hf, rfl, rfl, rfl⟩))
   ·(refine aB rfl rfl ?_; intro b2; refine ⟨okF, ?_⟩)
    refine aI ?_
    repeat (refine aJ ?_)
    refine aK (fuel := 11) (i := 1) (j := 11) (by kernel_rfl) ?_ ?_
    ·(refine aA rfl (hp 0 2 (by decide) (by decide) _ _) rfl rfl ?_; rintro _ _ _ ⟨rfl, p1, rfl, hp1, rfl⟩; refine ⟨okF, ?_⟩)
     refine aI ?_
     repeat (refine aJ ?_)
     refine aK (fuel := 10) (i := 2) (j := 11) (by kernel_rfl) ?_ ?_
     ·(refine aA rfl (hp 2 2 (by decide) (by decide) _ _) rfl rfl ?_; rintro _ _ _ ⟨rfl, p2, rfl, hp2, rfl⟩; refine ⟨okF, ?_⟩)
      refine aI ?_
      refine bH (fuel := 9) (listed' := #[true, true, true, true, true, false, false, false, false, false, true, false, false, false, false]) [3] [1] aD aF (by kernel_rfl) (by kernel_rfl) rfl rfl ?_
      repeat (refine aJ ?_)
      (refine aH rfl (fun _ => aX (vals := [pv p0, pv p1, pv p2]) (cells := recs eP [p0, p1, p2]) rfl ?hpl rfl ?hz) rfl rfl ?_; (case hpl => exact (by intro v hv; repeat (first | exact absurd hv (List.not_mem_nil) | (rcases List.mem_cons.1 hv with rfl | hv; · rfl)))); (case hz => rfl))
      repeat (refine aJ ?_)
      refine aK (fuel := 8) (i := 5) (j := 11) (by kernel_rfl) ?_ ?_
      ·(refine aA rfl (hPl p0 p1 p2 s0 s1 s2 _ _ hp0 hp1 hp2 hs0 hs1 hs2 aP aP aP aP aP aP) rfl rfl ?_; rintro _ _ _ ⟨rfl, a, f, rfl, ha, hf, rfl⟩; refine ⟨okF, ?_⟩)
       refine aI ?_
       refine aG [6, 7, 8, 9, 11, 12, 13, 14] [1, 1, 2, 3, 0, 0, 0, 0] aD aF (by kernel_rfl) (by kernel_rfl) rfl rfl ?_
       repeat (refine aJ ?_)
       (refine aB rfl rfl ?_; intro b3; refine ⟨okF, ?_⟩)
       repeat (refine aJ ?_)
       refine bJ (φ := cZ a 298) aP (bJ (φ := cZ f 593) aP (aN _ _ _ aO aD aF ⟨b2, b3, a, f, ha.trans uR, hf, rfl, rfl, rfl⟩))
      ·(refine aB rfl rfl ?_; intro b3; refine ⟨okF, ?_⟩)
       refine aI ?_
       refine aG [5, 6, 7, 8, 9, 12, 13, 14] [0, 0, 0, 1, 2, 0, 0, 0] aD aF (by kernel_rfl) (by kernel_rfl) rfl rfl ?_
       repeat (refine aJ ?_)
       (refine aA rfl (hPl p0 p1 p2 s0 s1 s2 _ _ hp0 hp1 hp2 hs0 hs1 hs2 aP aP aP aP aP aP) rfl rfl ?_; rintro _ _ _ ⟨rfl, a, f, rfl, ha, hf, rfl⟩; refine ⟨okF, ?_⟩)
       repeat (refine aJ ?_)
       refine bJ (φ := cZ a 298) aP (bJ (φ := cZ f 593) aP (aN _ _ _ aO aD aF ⟨b2, b3, a, f, ha.trans uR, hf, rfl, rfl, rfl⟩))
     ·(refine aB rfl rfl ?_; intro b3; refine ⟨okF, ?_⟩)
      refine aI ?_
      refine aG [2, 3, 5, 6, 7, 8, 9, 12, 13, 14] [0, 0, 0, 0, 0, 1, 2, 0, 0, 0] aD aF (by kernel_rfl) (by kernel_rfl) rfl rfl ?_
      repeat (refine aJ ?_)
      (refine aA rfl (hp 2 2 (by decide) (by decide) _ _) rfl rfl ?_; rintro _ _ _ ⟨rfl, p2, rfl, hp2, rfl⟩; refine ⟨okF, ?_⟩)
      repeat (refine aJ ?_)
      (refine aH rfl (fun _ => aX (vals := [pv p0, pv p1, pv p2]) (cells := recs eP [p0, p1, p2]) rfl ?hpl rfl ?hz) rfl rfl ?_; (case hpl => exact (by intro v hv; repeat (first | exact absurd hv (List.not_mem_nil) | (rcases List.mem_cons.1 hv with rfl | hv; · rfl)))); (case hz => rfl))
      repeat (refine aJ ?_)
      (refine aA rfl (hPl p0 p1 p2 s0 s1 s2 _ _ hp0 hp1 hp2 hs0 hs1 hs2 aP aP aP aP aP aP) rfl rfl ?_; rintro _ _ _ ⟨rfl, a, f, rfl, ha, hf, rfl⟩; refine ⟨okF, ?_⟩)
      repeat (refine aJ ?_)
      refine bJ (φ := cZ a 298) aP (bJ (φ := cZ f 593) aP (aN _ _ _ aO aD aF ⟨b2, b3, a, f, ha.trans uR, hf, rfl, rfl, rfl⟩))
    ·(refine aB rfl rfl ?_; intro b3; refine ⟨okF, ?_⟩)
     refine aI ?_
     refine aG [1, 2, 3, 5, 6, 7, 8, 9, 12, 13, 14] [0, 0, 0, 0, 0, 0, 1, 2, 0, 0, 0] aD aF (by kernel_rfl) (by kernel_rfl) rfl rfl ?_
     repeat (refine aJ ?_)
     (refine aA rfl (hp 0 2 (by decide) (by decide) _ _) rfl rfl ?_; rintro _ _ _ ⟨rfl, p1, rfl, hp1, rfl⟩; refine ⟨okF, ?_⟩)
     repeat (refine aJ ?_)
     (refine aA rfl (hp 2 2 (by decide) (by decide) _ _) rfl rfl ?_; rintro _ _ _ ⟨rfl, p2, rfl, hp2, rfl⟩; refine ⟨okF, ?_⟩)
     repeat (refine aJ ?_)
     (refine aH rfl (fun _ => aX (vals := [pv p0, pv p1, pv p2]) (cells := recs eP [p0, p1, p2]) rfl ?hpl rfl ?hz) rfl rfl ?_; (case hpl => exact (by intro v hv; repeat (first | exact absurd hv (List.not_mem_nil) | (rcases List.mem_cons.1 hv with rfl | hv; · rfl)))); (case hz => rfl))
     repeat (refine aJ ?_)
     (refine aA rfl (hPl p0 p1 p2 s0 s1 s2 _ _ hp0 hp1 hp2 hs0 hs1 hs2 aP aP aP aP aP aP) rfl rfl ?_; rintro _ _ _ ⟨rfl, a, f, rfl, ha, hf, rfl⟩; refine ⟨okF, ?_⟩)
     repeat (refine aJ ?_)
     refine bJ (φ := cZ a 298) aP (bJ (φ := cZ f 593) aP (aN _ _ _ aO aD aF ⟨b2, b3, a, f, ha.trans uR, hf, rfl, rfl, rfl⟩))
   ·(refine aB rfl rfl ?_; intro b3; refine ⟨okF, ?_⟩)
    refine aI ?_
    repeat (refine aJ ?_)
    refine aK (fuel := 11) (i := 1) (j := 10) (by kernel_rfl) ?_ ?_
    ·(refine aA rfl (hp 0 2 (by decide) (by decide) _ _) rfl rfl ?_; rintro _ _ _ ⟨rfl, p1, rfl, hp1, rfl⟩; refine ⟨okF, ?_⟩)
     refine aI ?_
     repeat (refine aJ ?_)
     refine aK (fuel := 10) (i := 2) (j := 10) (by kernel_rfl) ?_ ?_
     ·(refine aA rfl (hp 2 2 (by decide) (by decide) _ _) rfl rfl ?_; rintro _ _ _ ⟨rfl, p2, rfl, hp2, rfl⟩; refine ⟨okF, ?_⟩)
      refine aI ?_
      refine bH (fuel := 9) (listed' := #[true, true, true, true, true, false, false, false, false, false, false, true, false, false, false]) [3] [1] aD aF (by kernel_rfl) (by kernel_rfl) rfl rfl ?_
      repeat (refine aJ ?_)
      (refine aH rfl (fun _ => aX (vals := [pv p0, pv p1, pv p2]) (cells := recs eP [p0, p1, p2]) rfl ?hpl rfl ?hz) rfl rfl ?_; (case hpl => exact (by intro v hv; repeat (first | exact absurd hv (List.not_mem_nil) | (rcases List.mem_cons.1 hv with rfl | hv; · rfl)))); (case hz => rfl))
      repeat (refine aJ ?_)
      refine aK (fuel := 8) (i := 5) (j := 10) (by kernel_rfl) ?_ ?_
      ·(refine aA rfl (hPl p0 p1 p2 s0 s1 s2 _ _ hp0 hp1 hp2 hs0 hs1 hs2 aP aP aP aP aP aP) rfl rfl ?_; rintro _ _ _ ⟨rfl, a, f, rfl, ha, hf, rfl⟩; refine ⟨okF, ?_⟩)
       refine aI ?_
       refine aG [6, 7, 8, 9, 10, 12, 13, 14] [1, 1, 2, 3, 0, 0, 0, 0] aD aF (by kernel_rfl) (by kernel_rfl) rfl rfl ?_
       repeat (refine aJ ?_)
       (refine aB rfl rfl ?_; intro b2; refine ⟨okF, ?_⟩)
       repeat (refine aJ ?_)
       refine bJ (φ := cZ a 298) aP (bJ (φ := cZ f 593) aP (aN _ _ _ aO aD aF ⟨b2, b3, a, f, ha.trans uR, hf, rfl, rfl, rfl⟩))
      ·(refine aB rfl rfl ?_; intro b2; refine ⟨okF, ?_⟩)
       refine aI ?_
       refine aG [5, 6, 7, 8, 9, 12, 13, 14] [0, 0, 0, 1, 2, 0, 0, 0] aD aF (by kernel_rfl) (by kernel_rfl) rfl rfl ?_
       repeat (refine aJ ?_)
       (refine aA rfl (hPl p0 p1 p2 s0 s1 s2 _ _ hp0 hp1 hp2 hs0 hs1 hs2 aP aP aP aP aP aP) rfl rfl ?_; rintro _ _ _ ⟨rfl, a, f, rfl, ha, hf, rfl⟩; refine ⟨okF, ?_⟩)
       repeat (refine aJ ?_)
       refine bJ (φ := cZ a 298) aP (bJ (φ := cZ f 593) aP (aN _ _ _ aO aD aF ⟨b2, b3, a, f, ha.trans uR, hf, rfl, rfl, rfl⟩))
     ·(refine aB rfl rfl ?_; intro b2; refine ⟨okF, ?_⟩)
      refine aI ?_
      refine aG [2, 3, 5, 6, 7, 8, 9, 12, 13, 14] [0, 0, 0, 0, 0, 1, 2, 0, 0, 0] aD aF (by kernel_rfl) (by kernel_rfl) rfl rfl ?_
      repeat (refine aJ ?_)
      (refine aA rfl (hp 2 2 (by decide) (by decide) _ _) rfl rfl ?_; rintro _ _ _ ⟨rfl, p2, rfl, hp2, rfl⟩; refine ⟨okF, ?_⟩)
      repeat (refine aJ ?_)
      (refine aH rfl (fun _ => aX (vals := [pv p0, pv p1, pv p2]) (cells := recs eP [p0, p1, p2]) rfl ?hpl rfl ?hz) rfl rfl ?_; (case hpl => exact (by intro v hv; repeat (first | exact absurd hv (List.not_mem_nil) | (rcases List.mem_cons.1 hv with rfl | hv; · rfl)))); (case hz => rfl))
      repeat (refine aJ ?_)
      (refine aA rfl (hPl p0 p1 p2 s0 s1 s2 _ _ hp0 hp1 hp2 hs0 hs1 hs2 aP aP aP aP aP aP) rfl rfl ?_; rintro _ _ _ ⟨rfl, a, f, rfl, ha, hf, rfl⟩; refine ⟨okF, ?_⟩)
      repeat (refine aJ ?_)
      refine bJ (φ := cZ a 298) aP (bJ (φ := cZ f 593) aP (aN _ _ _ aO aD aF ⟨b2, b3, a, f, ha.trans uR, hf, rfl, rfl, rfl⟩))
    ·(refine aB rfl rfl ?_; intro b2; refine ⟨okF, ?_⟩)
     refine aI ?_
     refine aG [1, 2, 3, 5, 6, 7, 8, 9, 12, 13, 14] [0, 0, 0, 0, 0, 0, 1, 2, 0, 0, 0] aD aF (by kernel_rfl) (by kernel_rfl) rfl rfl ?_
     repeat (refine aJ ?_)
     (refine aA rfl (hp 0 2 (by decide) (by decide) _ _) rfl rfl ?_; rintro _ _ _ ⟨rfl, p1, rfl, hp1, rfl⟩; refine ⟨okF, ?_⟩)
     repeat (refine aJ ?_)
     (refine aA rfl (hp 2 2 (by decide) (by decide) _ _) rfl rfl ?_; rintro _ _ _ ⟨rfl, p2, rfl, hp2, rfl⟩; refine ⟨okF, ?_⟩)
     repeat (refine aJ ?_)
     (refine aH rfl (fun _ => aX (vals := [pv p0, pv p1, pv p2]) (cells := recs eP [p0, p1, p2]) rfl ?hpl rfl ?hz) rfl rfl ?_; (case hpl => exact (by intro v hv; repeat (first | exact absurd hv (List.not_mem_nil) | (rcases List.mem_cons.1 hv with rfl | hv; · rfl)))); (case hz => rfl))
     repeat (refine aJ ?_)
     (refine aA rfl (hPl p0 p1 p2 s0 s1 s2 _ _ hp0 hp1 hp2 hs0 hs1 hs2 aP aP aP aP aP aP) rfl rfl ?_; rintro _ _ _ ⟨rfl, a, f, rfl, ha, hf, rfl⟩; refine ⟨okF, ?_⟩)
     repeat (refine aJ ?_)
     refine bJ (φ := cZ a 298) aP (bJ (φ := cZ f 593) aP (aN _ _ _ aO aD aF ⟨b2, b3, a, f, ha.trans uR, hf, rfl, rfl, rfl⟩))
  ·(refine aB rfl rfl ?_; intro b2; refine ⟨okF, ?_⟩)
   refine aI ?_
   repeat (refine aJ ?_)
   refine aK (fuel := 12) (i := 0) (j := 11) (by kernel_rfl) ?_ ?_
   ·(refine aA rfl (hp (-1) 1 (by decide) (by decide) _ _) rfl rfl ?_; rintro _ _ _ ⟨rfl, p0, rfl, hp0, rfl⟩; refine ⟨okF, ?_⟩)
    refine aI ?_
    repeat (refine aJ ?_)
    refine aK (fuel := 11) (i := 1) (j := 11) (by kernel_rfl) ?_ ?_
    ·(refine aA rfl (hp 0 2 (by decide) (by decide) _ _) rfl rfl ?_; rintro _ _ _ ⟨rfl, p1, rfl, hp1, rfl⟩; refine ⟨okF, ?_⟩)
     refine aI ?_
     repeat (refine aJ ?_)
     refine aK (fuel := 10) (i := 2) (j := 11) (by kernel_rfl) ?_ ?_
     ·(refine aA rfl (hp 2 2 (by decide) (by decide) _ _) rfl rfl ?_; rintro _ _ _ ⟨rfl, p2, rfl, hp2, rfl⟩; refine ⟨okF, ?_⟩)
      refine aI ?_
      refine bH (fuel := 9) (listed' := #[true, true, true, true, true, false, false, false, false, false, true, false, false, false, false]) [3] [1] aD aF (by kernel_rfl) (by kernel_rfl) rfl rfl ?_
      repeat (refine aJ ?_)
      (refine aH rfl (fun _ => aX (vals := [pv p0, pv p1, pv p2]) (cells := recs eP [p0, p1, p2]) rfl ?hpl rfl ?hz) rfl rfl ?_; (case hpl => exact (by intro v hv; repeat (first | exact absurd hv (List.not_mem_nil) | (rcases List.mem_cons.1 hv with rfl | hv; · rfl)))); (case hz => rfl))
      repeat (refine aJ ?_)
      refine aK (fuel := 8) (i := 5) (j := 11) (by kernel_rfl) ?_ ?_
      ·(refine aA rfl (hPl p0 p1 p2 s0 s1 s2 _ _ hp0 hp1 hp2 hs0 hs1 hs2 aP aP aP aP aP aP) rfl rfl ?_; rintro _ _ _ ⟨rfl, a, f, rfl, ha, hf, rfl⟩; refine ⟨okF, ?_⟩)
       refine aI ?_
       refine aG [6, 7, 8, 9, 11, 12, 13, 14] [1, 1, 2, 3, 0, 0, 0, 0] aD aF (by kernel_rfl) (by kernel_rfl) rfl rfl ?_
       repeat (refine aJ ?_)
       (refine aB rfl rfl ?_; intro b3; refine ⟨okF, ?_⟩)
       repeat (refine aJ ?_)
       refine bJ (φ := cZ a 298) aP (bJ (φ := cZ f 593) aP (aN _ _ _ aO aD aF ⟨b2, b3, a, f, ha.trans uR, hf, rfl, rfl, rfl⟩))
      ·(refine aB rfl rfl ?_; intro b3; refine ⟨okF, ?_⟩)
       refine aI ?_
       refine aG [5, 6, 7, 8, 9, 12, 13, 14] [0, 0, 0, 1, 2, 0, 0, 0] aD aF (by kernel_rfl) (by kernel_rfl) rfl rfl ?_
       repeat (refine aJ ?_)
       (refine aA rfl (hPl p0 p1 p2 s0 s1 s2 _ _ hp0 hp1 hp2 hs0 hs1 hs2 aP aP aP aP aP aP) rfl rfl ?_; rintro _ _ _ ⟨rfl, a, f, rfl, ha, hf, rfl⟩; refine ⟨okF, ?_⟩)
       repeat (refine aJ ?_)
       refine bJ (φ := cZ a 298) aP (bJ (φ := cZ f 593) aP (aN _ _ _ aO aD aF ⟨b2, b3, a, f, ha.trans uR, hf, rfl, rfl, rfl⟩))
     ·(refine aB rfl rfl ?_; intro b3; refine ⟨okF, ?_⟩)
      refine aI ?_
      refine aG [2, 3, 5, 6, 7, 8, 9, 12, 13, 14] [0, 0, 0, 0, 0, 1, 2, 0, 0, 0] aD aF (by kernel_rfl) (by kernel_rfl) rfl rfl ?_
      repeat (refine aJ ?_)
      (refine aA rfl (hp 2 2 (by decide) (by decide) _ _) rfl rfl ?_; rintro _ _ _ ⟨rfl, p2, rfl, hp2, rfl⟩; refine ⟨okF, ?_⟩)
      repeat (refine aJ ?_)
      (refine aH rfl (fun _ => aX (vals := [pv p0, pv p1, pv p2]) (cells := recs eP [p0, p1, p2]) rfl ?hpl rfl ?hz) rfl rfl ?_; (case hpl => exact (by intro v hv; repeat (first | exact absurd hv (List.not_mem_nil) | (rcases List.mem_cons.1 hv with rfl | hv; · rfl)))); (case hz => rfl))
      repeat (refine aJ ?_)
      (refine aA rfl (hPl p0 p1 p2 s0 s1 s2 _ _ hp0 hp1 hp2 hs0 hs1 hs2 aP aP aP aP aP aP) rfl rfl ?_; rintro _ _ _ ⟨rfl, a, f, rfl, ha, hf, rfl⟩; refine ⟨okF, ?_⟩)
      repeat (refine aJ ?_)
      refine bJ (φ := cZ a 298) aP (bJ (φ := cZ f 593) aP (aN _ _ _ aO aD aF ⟨b2, b3, a, f, ha.trans uR, hf, rfl, rfl, rfl⟩))
    ·(refine aB rfl rfl ?_; intro b3; refine ⟨okF, ?_⟩)
     refine aI ?_
     refine aG [1, 2, 3, 5, 6, 7, 8, 9, 12, 13, 14] [0, 0, 0, 0, 0, 0, 1, 2, 0, 0, 0] aD aF (by kernel_rfl) (by kernel_rfl) rfl rfl ?_
     repeat (refine aJ ?_)
     (refine aA rfl (hp 0 2 (by decide) (by decide) _ _) rfl rfl ?_; rintro _ _ _ ⟨rfl, p1, rfl, hp1, rfl⟩; refine ⟨okF, ?_⟩)
     repeat (refine aJ ?_)
     (refine aA rfl (hp 2 2 (by decide) (by decide) _ _) rfl rfl ?_; rintro _ _ _ ⟨rfl, p2, rfl, hp2, rfl⟩; refine ⟨okF, ?_⟩)
     repeat (refine aJ ?_)
     (refine aH rfl (fun _ => aX (vals := [pv p0, pv p1, pv p2]) (cells := recs eP [p0, p1, p2]) rfl ?hpl rfl ?hz) rfl rfl ?_; (case hpl => exact (by intro v hv; repeat (first | exact absurd hv (List.not_mem_nil) | (rcases List.mem_cons.1 hv with rfl | hv; · rfl)))); (case hz => rfl))
     repeat (refine aJ ?_)
     (refine aA rfl (hPl p0 p1 p2 s0 s1 s2 _ _ hp0 hp1 hp2 hs0 hs1 hs2 aP aP aP aP aP aP) rfl rfl ?_; rintro _ _ _ ⟨rfl, a, f, rfl, ha, hf, rfl⟩; refine ⟨okF, ?_⟩)
     repeat (refine aJ ?_)
     refine bJ (φ := cZ a 298) aP (bJ (φ := cZ f 593) aP (aN _ _ _ aO aD aF ⟨b2, b3, a, f, ha.trans uR, hf, rfl, rfl, rfl⟩))
   ·(refine aB rfl rfl ?_; intro b3; refine ⟨okF, ?_⟩)
    refine aI ?_
    refine aG [0, 1, 2, 3, 5, 6, 7, 8, 9, 12, 13, 14] [0, 0, 0, 0, 0, 0, 0, 1, 2, 0, 0, 0] aD aF (by kernel_rfl) (by kernel_rfl) rfl rfl ?_
    repeat (refine aJ ?_)
    (refine aA rfl (hp (-1) 1 (by decide) (by decide) _ _) rfl rfl ?_; rintro _ _ _ ⟨rfl, p0, rfl, hp0, rfl⟩; refine ⟨okF, ?_⟩)
    repeat (refine aJ ?_)
    (refine aA rfl (hp 0 2 (by decide) (by decide) _ _) rfl rfl ?_; rintro _ _ _ ⟨rfl, p1, rfl, hp1, rfl⟩; refine ⟨okF, ?_⟩)
    repeat (refine aJ ?_)
    (refine aA rfl (hp 2 2 (by decide) (by decide) _ _) rfl rfl ?_; rintro _ _ _ ⟨rfl, p2, rfl, hp2, rfl⟩; refine ⟨okF, ?_⟩)
    repeat (refine aJ ?_)
    (refine aH rfl (fun _ => aX (vals := [pv p0, pv p1, pv p2]) (cells := recs eP [p0, p1, p2]) rfl ?hpl rfl ?hz) rfl rfl ?_; (case hpl => exact (by intro v hv; repeat (first | exact absurd hv (List.not_mem_nil) | (rcases List.mem_cons.1 hv with rfl | hv; · rfl)))); (case hz => rfl))
    repeat (refine aJ ?_)
    (refine aA rfl (hPl p0 p1 p2 s0 s1 s2 _ _ hp0 hp1 hp2 hs0 hs1 hs2 aP aP aP aP aP aP) rfl rfl ?_; rintro _ _ _ ⟨rfl, a, f, rfl, ha, hf, rfl⟩; refine ⟨okF, ?_⟩)
    repeat (refine aJ ?_)
    refine bJ (φ := cZ a 298) aP (bJ (φ := cZ f 593) aP (aN _ _ _ aO aD aF ⟨b2, b3, a, f, ha.trans uR, hf, rfl, rfl, rfl⟩))
  ·(refine aB rfl rfl ?_; intro b3; refine ⟨okF, ?_⟩)
   refine aI ?_
   repeat (refine aJ ?_)
   refine aK (fuel := 12) (i := 0) (j := 10) (by kernel_rfl) ?_ ?_
   ·(refine aA rfl (hp (-1) 1 (by decide) (by decide) _ _) rfl rfl ?_; rintro _ _ _ ⟨rfl, p0, rfl, hp0, rfl⟩; refine ⟨okF, ?_⟩)
    refine aI ?_
    repeat (refine aJ ?_)
    refine aK (fuel := 11) (i := 1) (j := 10) (by kernel_rfl) ?_ ?_
    ·(refine aA rfl (hp 0 2 (by decide) (by decide) _ _) rfl rfl ?_; rintro _ _ _ ⟨rfl, p1, rfl, hp1, rfl⟩; refine ⟨okF, ?_⟩)
     refine aI ?_
     repeat (refine aJ ?_)
     refine aK (fuel := 10) (i := 2) (j := 10) (by kernel_rfl) ?_ ?_
     ·(refine aA rfl (hp 2 2 (by decide) (by decide) _ _) rfl rfl ?_; rintro _ _ _ ⟨rfl, p2, rfl, hp2, rfl⟩; refine ⟨okF, ?_⟩)
      refine aI ?_
      refine bH (fuel := 9) (listed' := #[true, true, true, true, true, false, false, false, false, false, false, true, false, false, false]) [3] [1] aD aF (by kernel_rfl) (by kernel_rfl) rfl rfl ?_
      repeat (refine aJ ?_)
      (refine aH rfl (fun _ => aX (vals := [pv p0, pv p1, pv p2]) (cells := recs eP [p0, p1, p2]) rfl ?hpl rfl ?hz) rfl rfl ?_; (case hpl => exact (by intro v hv; repeat (first | exact absurd hv (List.not_mem_nil) | (rcases List.mem_cons.1 hv with rfl | hv; · rfl)))); (case hz => rfl))
      repeat (refine aJ ?_)
      refine aK (fuel := 8) (i := 5) (j := 10) (by kernel_rfl) ?_ ?_
      ·(refine aA rfl (hPl p0 p1 p2 s0 s1 s2 _ _ hp0 hp1 hp2 hs0 hs1 hs2 aP aP aP aP aP aP) rfl rfl ?_; rintro _ _ _ ⟨rfl, a, f, rfl, ha, hf, rfl⟩; refine ⟨okF, ?_⟩)
       refine aI ?_
       refine aG [6, 7, 8, 9, 10, 12, 13, 14] [1, 1, 2, 3, 0, 0, 0, 0] aD aF (by kernel_rfl) (by kernel_rfl) rfl rfl ?_
       repeat (refine aJ ?_)
       (refine aB rfl rfl ?_; intro b2; refine ⟨okF, ?_⟩)
       repeat (refine aJ ?_)
       refine bJ (φ := cZ a 298) aP (bJ (φ := cZ f 593) aP (aN _ _ _ aO aD aF ⟨b2, b3, a, f, ha.trans uR, hf, rfl, rfl, rfl⟩))
      ·(refine aB rfl rfl ?_; intro b2; refine ⟨okF, ?_⟩)
       refine aI ?_
       refine aG [5, 6, 7, 8, 9, 12, 13, 14] [0, 0, 0, 1, 2, 0, 0, 0] aD aF (by kernel_rfl) (by kernel_rfl) rfl rfl ?_
       repeat (refine aJ ?_)
       (refine aA rfl (hPl p0 p1 p2 s0 s1 s2 _ _ hp0 hp1 hp2 hs0 hs1 hs2 aP aP aP aP aP aP) rfl rfl ?_; rintro _ _ _ ⟨rfl, a, f, rfl, ha, hf, rfl⟩; refine ⟨okF, ?_⟩)
       repeat (refine aJ ?_)
       refine bJ (φ := cZ a 298) aP (bJ (φ := cZ f 593) aP (aN _ _ _ aO aD aF ⟨b2, b3, a, f, ha.trans uR, hf, rfl, rfl, rfl⟩))
     ·(refine aB rfl rfl ?_; intro b2; refine ⟨okF, ?_⟩)
      refine aI ?_
      refine aG [2, 3, 5, 6, 7, 8, 9, 12, 13, 14] [0, 0, 0, 0, 0, 1, 2, 0, 0, 0] aD aF (by kernel_rfl) (by kernel_rfl) rfl rfl ?_
      repeat (refine aJ ?_)
      (refine aA rfl (hp 2 2 (by decide) (by decide) _ _) rfl rfl ?_; rintro _ _ _ ⟨rfl, p2, rfl, hp2, rfl⟩; refine ⟨okF, ?_⟩)
      repeat (refine aJ ?_)
      (refine aH rfl (fun _ => aX (vals := [pv p0, pv p1, pv p2]) (cells := recs eP [p0, p1, p2]) rfl ?hpl rfl ?hz) rfl rfl ?_; (case hpl => exact (by intro v hv; repeat (first | exact absurd hv (List.not_mem_nil) | (rcases List.mem_cons.1 hv with rfl | hv; · rfl)))); (case hz => rfl))
      repeat (refine aJ ?_)
      (refine aA rfl (hPl p0 p1 p2 s0 s1 s2 _ _ hp0 hp1 hp2 hs0 hs1 hs2 aP aP aP aP aP aP) rfl rfl ?_; rintro _ _ _ ⟨rfl, a, f, rfl, ha, hf, rfl⟩; refine ⟨okF, ?_⟩)
      repeat (refine aJ ?_)
      refine bJ (φ := cZ a 298) aP (bJ (φ := cZ f 593) aP (aN _ _ _ aO aD aF ⟨b2, b3, a, f, ha.trans uR, hf, rfl, rfl, rfl⟩))
    ·(refine aB rfl rfl ?_; intro b2; refine ⟨okF, ?_⟩)
     refine aI ?_
     refine aG [1, 2, 3, 5, 6, 7, 8, 9, 12, 13, 14] [0, 0, 0, 0, 0, 0, 1, 2, 0, 0, 0] aD aF (by kernel_rfl) (by kernel_rfl) rfl rfl ?_
     repeat (refine aJ ?_)
     (refine aA rfl (hp 0 2 (by decide) (by decide) _ _) rfl rfl ?_; rintro _ _ _ ⟨rfl, p1, rfl, hp1, rfl⟩; refine ⟨okF, ?_⟩)
     repeat (refine aJ ?_)
     (refine aA rfl (hp 2 2 (by decide) (by decide) _ _) rfl rfl ?_; rintro _ _ _ ⟨rfl, p2, rfl, hp2, rfl⟩; refine ⟨okF, ?_⟩)
     repeat (refine aJ ?_)
     (refine aH rfl (fun _ => aX (vals := [pv p0, pv p1, pv p2]) (cells := recs eP [p0, p1, p2]) rfl ?hpl rfl ?hz) rfl rfl ?_; (case hpl => exact (by intro v hv; repeat (first | exact absurd hv (List.not_mem_nil) | (rcases List.mem_cons.1 hv with rfl | hv; · rfl)))); (case hz => rfl))
     repeat (refine aJ ?_)
     (refine aA rfl (hPl p0 p1 p2 s0 s1 s2 _ _ hp0 hp1 hp2 hs0 hs1 hs2 aP aP aP aP aP aP) rfl rfl ?_; rintro _ _ _ ⟨rfl, a, f, rfl, ha, hf, rfl⟩; refine ⟨okF, ?_⟩)
     repeat (refine aJ ?_)
     refine bJ (φ := cZ a 298) aP (bJ (φ := cZ f 593) aP (aN _ _ _ aO aD aF ⟨b2, b3, a, f, ha.trans uR, hf, rfl, rfl, rfl⟩))
   ·(refine aB rfl rfl ?_; intro b2; refine ⟨okF, ?_⟩)
    refine aI ?_
    refine aG [0, 1, 2, 3, 5, 6, 7, 8, 9, 12, 13, 14] [0, 0, 0, 0, 0, 0, 0, 1, 2, 0, 0, 0] aD aF (by kernel_rfl) (by kernel_rfl) rfl rfl ?_
    repeat (refine aJ ?_)
    (refine aA rfl (hp (-1) 1 (by decide) (by decide) _ _) rfl rfl ?_; rintro _ _ _ ⟨rfl, p0, rfl, hp0, rfl⟩; refine ⟨okF, ?_⟩)
    repeat (refine aJ ?_)
    (refine aA rfl (hp 0 2 (by decide) (by decide) _ _) rfl rfl ?_; rintro _ _ _ ⟨rfl, p1, rfl, hp1, rfl⟩; refine ⟨okF, ?_⟩)
    repeat (refine aJ ?_)
    (refine aA rfl (hp 2 2 (by decide) (by decide) _ _) rfl rfl ?_; rintro _ _ _ ⟨rfl, p2, rfl, hp2, rfl⟩; refine ⟨okF, ?_⟩)
    repeat (refine aJ ?_)
    (refine aH rfl (fun _ => aX (vals := [pv p0, pv p1, pv p2]) (cells := recs eP [p0, p1, p2]) rfl ?hpl rfl ?hz) rfl rfl ?_; (case hpl => exact (by intro v hv; repeat (first | exact absurd hv (List.not_mem_nil) | (rcases List.mem_cons.1 hv with rfl | hv; · rfl)))); (case hz => rfl))
    repeat (refine aJ ?_)
    (refine aA rfl (hPl p0 p1 p2 s0 s1 s2 _ _ hp0 hp1 hp2 hs0 hs1 hs2 aP aP aP aP aP aP) rfl rfl ?_; rintro _ _ _ ⟨rfl, a, f, rfl, ha, hf, rfl⟩; refine ⟨okF, ?_⟩)
    repeat (refine aJ ?_)
    refine bJ (φ := cZ a 298) aP (bJ (φ := cZ f 593) aP (aN _ _ _ aO aD aF ⟨b2, b3, a, f, ha.trans uR, hf, rfl, rfl, rfl⟩))
 ·rintro G M I ⟨b2, b3, a, f, ha, hf, rfl, rfl, rfl⟩
  have hfx : f.x.q = 0 := by have := exFx; rw [← hf] at this; exact this
  have hfy : 0 < f.y.q.num.sign := by rw [sgnP]; have := exFy; rw [← hf] at this; exact this
  clear hf hPl
  refine oF (fun G M I => G = (7, .int .i64 13) :: (4, .int .i64 0) :: [(1, .pointer (some ⟨b1, 0, none⟩)), (2, .pointer (some ⟨b2, 0, none⟩)), (3, .pointer (some ⟨b3, 0, none⟩))] ∧ M = .blk b3 (eP f) 43 :: .blk b2 (eP a) 43 :: .blk b1 (recs eR [s0, s1, s2]) 41 :: M0 ∧ I = cZ f 593 :: cZ a 298 :: bM s2 0 :: bM s1 0 :: bM s0 0 :: I0) ?_ ?_
  ·((repeat refine aL ?_); refine iL (.blk b1 (recs eR [s0, s1, s2]) 41 :: M0) (cZ f 593 :: cZ a 298 :: bM s2 0 :: bM s1 0 :: bM s0 0 :: I0) mixed ?_)
   refine bH (fuel := 14) (listed' := #[false, false, false, false, true, false, false, false, false, false, false, false, false, false, false]) [4] [5] aD aF (by kernel_rfl) (by kernel_rfl) rfl rfl ?_
   repeat (refine aJ ?_)
   refine fB (fuel := 13) (i := 0) (j := 10) (m := 11) (by kernel_rfl) ?_ ?_ ?_
   ·(refine aA rfl (hp (-1) 0 (by decide) (by decide) _ _) rfl rfl ?_; rintro _ _ _ ⟨rfl, p0, rfl, hp0, rfl⟩; refine ⟨okF, ?_⟩)
    refine aI ?_
    repeat (refine aJ ?_)
    refine fB (fuel := 12) (i := 1) (j := 10) (m := 11) (by kernel_rfl) ?_ ?_ ?_
    ·(refine aA rfl (hp 0 1 (by decide) (by decide) _ _) rfl rfl ?_; rintro _ _ _ ⟨rfl, p1, rfl, hp1, rfl⟩; refine ⟨okF, ?_⟩)
     refine aI ?_
     repeat (refine aJ ?_)
     refine fB (fuel := 11) (i := 2) (j := 10) (m := 11) (by kernel_rfl) ?_ ?_ ?_
     ·(refine aA rfl (hp 1 0 (by decide) (by decide) _ _) rfl rfl ?_; rintro _ _ _ ⟨rfl, p2, rfl, hp2, rfl⟩; refine ⟨okF, ?_⟩)
      refine aI ?_
      refine bH (fuel := 10) (listed' := #[true, true, true, true, true, false, false, false, false, false, false, false, false, false, false]) [3] [2] aD aF (by kernel_rfl) (by kernel_rfl) rfl rfl ?_
      repeat (refine aJ ?_)
      (refine aH rfl (fun _ => aX (vals := [pv p0, pv p1, pv p2]) (cells := recs eP [p0, p1, p2]) rfl ?hpl rfl ?hz) rfl rfl ?_; (case hpl => exact (by intro v hv; repeat (first | exact absurd hv (List.not_mem_nil) | (rcases List.mem_cons.1 hv with rfl | hv; · rfl)))); (case hz => rfl))
      repeat (refine aJ ?_)
      refine fB (fuel := 9) (i := 5) (j := 10) (m := 11) (by kernel_rfl) ?_ ?_ ?_
      ·(refine aA rfl (hPd p0 p1 p2 s0 s1 s2 _ _ hp0 hp1 hp2 hs0 hs1 hs2 aP aP aP aP aP aP) rfl rfl ?_; rintro _ _ _ ⟨rfl, rfl, rfl⟩; refine ⟨okF, ?_⟩)
       refine aI ?_
       refine bH (fuel := 5) (listed' := #[true, true, true, true, true, true, true, true, true, true, false, false, false, false, false]) [6, 7, 8, 9] [2, 2, 3, 4] aD aF (by kernel_rfl) (by kernel_rfl) rfl rfl ?_
       repeat (refine aJ ?_)
       refine aK (fuel := 4) (i := 10) (j := 11) (by kernel_rfl) ?_ ?_
       ·(refine aB rfl rfl ?_; intro b5; refine ⟨okF, ?_⟩)
        refine aI ?_
        refine aG [11, 12, 13, 14] [0, 0, 0, 0] aD aF (by kernel_rfl) (by kernel_rfl) rfl rfl ?_
        repeat (refine aJ ?_)
        (refine aB rfl rfl ?_; intro b6; refine ⟨okF, ?_⟩)
        repeat (refine aJ ?_)
        refine aN _ _ _ aO aD aF ⟨rfl, rfl, rfl⟩
       ·(refine aB rfl rfl ?_; intro b6; refine ⟨okF, ?_⟩)
        refine aI ?_
        refine aG [10, 12, 13, 14] [0, 0, 0, 0] aD aF (by kernel_rfl) (by kernel_rfl) rfl rfl ?_
        repeat (refine aJ ?_)
        (refine aB rfl rfl ?_; intro b5; refine ⟨okF, ?_⟩)
        repeat (refine aJ ?_)
        refine aN _ _ _ aO aD aF ⟨rfl, rfl, rfl⟩
      ·(refine aB rfl rfl ?_; intro b5; refine ⟨okF, ?_⟩)
       refine aI ?_
       repeat (refine aJ ?_)
       refine aK (fuel := 8) (i := 5) (j := 11) (by kernel_rfl) ?_ ?_
       ·(refine aA rfl (hPd p0 p1 p2 s0 s1 s2 _ _ hp0 hp1 hp2 hs0 hs1 hs2 aP aP aP aP aP aP) rfl rfl ?_; rintro _ _ _ ⟨rfl, rfl, rfl⟩; refine ⟨okF, ?_⟩)
        refine aI ?_
        refine aG [6, 7, 8, 9, 11, 12, 13, 14] [1, 1, 2, 3, 0, 0, 0, 0] aD aF (by kernel_rfl) (by kernel_rfl) rfl rfl ?_
        repeat (refine aJ ?_)
        (refine aB rfl rfl ?_; intro b6; refine ⟨okF, ?_⟩)
        repeat (refine aJ ?_)
        refine aN _ _ _ aO aD aF ⟨rfl, rfl, rfl⟩
       ·(refine aB rfl rfl ?_; intro b6; refine ⟨okF, ?_⟩)
        refine aI ?_
        refine aG [5, 6, 7, 8, 9, 12, 13, 14] [0, 0, 0, 1, 2, 0, 0, 0] aD aF (by kernel_rfl) (by kernel_rfl) rfl rfl ?_
        repeat (refine aJ ?_)
        (refine aA rfl (hPd p0 p1 p2 s0 s1 s2 _ _ hp0 hp1 hp2 hs0 hs1 hs2 aP aP aP aP aP aP) rfl rfl ?_; rintro _ _ _ ⟨rfl, rfl, rfl⟩; refine ⟨okF, ?_⟩)
        repeat (refine aJ ?_)
        refine aN _ _ _ aO aD aF ⟨rfl, rfl, rfl⟩
      ·(refine aB rfl rfl ?_; intro b6; refine ⟨okF, ?_⟩)
       refine aI ?_
       repeat (refine aJ ?_)
       refine aK (fuel := 8) (i := 5) (j := 10) (by kernel_rfl) ?_ ?_
       ·(refine aA rfl (hPd p0 p1 p2 s0 s1 s2 _ _ hp0 hp1 hp2 hs0 hs1 hs2 aP aP aP aP aP aP) rfl rfl ?_; rintro _ _ _ ⟨rfl, rfl, rfl⟩; refine ⟨okF, ?_⟩)
        refine aI ?_
        refine aG [6, 7, 8, 9, 10, 12, 13, 14] [1, 1, 2, 3, 0, 0, 0, 0] aD aF (by kernel_rfl) (by kernel_rfl) rfl rfl ?_
        repeat (refine aJ ?_)
        (refine aB rfl rfl ?_; intro b5; refine ⟨okF, ?_⟩)
        repeat (refine aJ ?_)
        refine aN _ _ _ aO aD aF ⟨rfl, rfl, rfl⟩
       ·(refine aB rfl rfl ?_; intro b5; refine ⟨okF, ?_⟩)
        refine aI ?_
        refine aG [5, 6, 7, 8, 9, 12, 13, 14] [0, 0, 0, 1, 2, 0, 0, 0] aD aF (by kernel_rfl) (by kernel_rfl) rfl rfl ?_
        repeat (refine aJ ?_)
        (refine aA rfl (hPd p0 p1 p2 s0 s1 s2 _ _ hp0 hp1 hp2 hs0 hs1 hs2 aP aP aP aP aP aP) rfl rfl ?_; rintro _ _ _ ⟨rfl, rfl, rfl⟩; refine ⟨okF, ?_⟩)
        repeat (refine aJ ?_)
        refine aN _ _ _ aO aD aF ⟨rfl, rfl, rfl⟩
     ·(refine aB rfl rfl ?_; intro b5; refine ⟨okF, ?_⟩)
      refine aI ?_
      repeat (refine aJ ?_)
      refine aK (fuel := 10) (i := 2) (j := 11) (by kernel_rfl) ?_ ?_
      ·(refine aA rfl (hp 1 0 (by decide) (by decide) _ _) rfl rfl ?_; rintro _ _ _ ⟨rfl, p2, rfl, hp2, rfl⟩; refine ⟨okF, ?_⟩)
       refine aI ?_
       refine bH (fuel := 9) (listed' := #[true, true, true, true, true, false, false, false, false, false, true, false, false, false, false]) [3] [1] aD aF (by kernel_rfl) (by kernel_rfl) rfl rfl ?_
       repeat (refine aJ ?_)
       (refine aH rfl (fun _ => aX (vals := [pv p0, pv p1, pv p2]) (cells := recs eP [p0, p1, p2]) rfl ?hpl rfl ?hz) rfl rfl ?_; (case hpl => exact (by intro v hv; repeat (first | exact absurd hv (List.not_mem_nil) | (rcases List.mem_cons.1 hv with rfl | hv; · rfl)))); (case hz => rfl))
       repeat (refine aJ ?_)
       refine aK (fuel := 8) (i := 5) (j := 11) (by kernel_rfl) ?_ ?_
       ·(refine aA rfl (hPd p0 p1 p2 s0 s1 s2 _ _ hp0 hp1 hp2 hs0 hs1 hs2 aP aP aP aP aP aP) rfl rfl ?_; rintro _ _ _ ⟨rfl, rfl, rfl⟩; refine ⟨okF, ?_⟩)
        refine aI ?_
        refine aG [6, 7, 8, 9, 11, 12, 13, 14] [1, 1, 2, 3, 0, 0, 0, 0] aD aF (by kernel_rfl) (by kernel_rfl) rfl rfl ?_
        repeat (refine aJ ?_)
        (refine aB rfl rfl ?_; intro b6; refine ⟨okF, ?_⟩)
        repeat (refine aJ ?_)
        refine aN _ _ _ aO aD aF ⟨rfl, rfl, rfl⟩
       ·(refine aB rfl rfl ?_; intro b6; refine ⟨okF, ?_⟩)
        refine aI ?_
        refine aG [5, 6, 7, 8, 9, 12, 13, 14] [0, 0, 0, 1, 2, 0, 0, 0] aD aF (by kernel_rfl) (by kernel_rfl) rfl rfl ?_
        repeat (refine aJ ?_)
        (refine aA rfl (hPd p0 p1 p2 s0 s1 s2 _ _ hp0 hp1 hp2 hs0 hs1 hs2 aP aP aP aP aP aP) rfl rfl ?_; rintro _ _ _ ⟨rfl, rfl, rfl⟩; refine ⟨okF, ?_⟩)
        repeat (refine aJ ?_)
        refine aN _ _ _ aO aD aF ⟨rfl, rfl, rfl⟩
      ·(refine aB rfl rfl ?_; intro b6; refine ⟨okF, ?_⟩)
       refine aI ?_
       refine aG [2, 3, 5, 6, 7, 8, 9, 12, 13, 14] [0, 0, 0, 0, 0, 1, 2, 0, 0, 0] aD aF (by kernel_rfl) (by kernel_rfl) rfl rfl ?_
       repeat (refine aJ ?_)
       (refine aA rfl (hp 1 0 (by decide) (by decide) _ _) rfl rfl ?_; rintro _ _ _ ⟨rfl, p2, rfl, hp2, rfl⟩; refine ⟨okF, ?_⟩)
       repeat (refine aJ ?_)
       (refine aH rfl (fun _ => aX (vals := [pv p0, pv p1, pv p2]) (cells := recs eP [p0, p1, p2]) rfl ?hpl rfl ?hz) rfl rfl ?_; (case hpl => exact (by intro v hv; repeat (first | exact absurd hv (List.not_mem_nil) | (rcases List.mem_cons.1 hv with rfl | hv; · rfl)))); (case hz => rfl))
       repeat (refine aJ ?_)
       (refine aA rfl (hPd p0 p1 p2 s0 s1 s2 _ _ hp0 hp1 hp2 hs0 hs1 hs2 aP aP aP aP aP aP) rfl rfl ?_; rintro _ _ _ ⟨rfl, rfl, rfl⟩; refine ⟨okF, ?_⟩)
       repeat (refine aJ ?_)
       refine aN _ _ _ aO aD aF ⟨rfl, rfl, rfl⟩
     ·(refine aB rfl rfl ?_; intro b6; refine ⟨okF, ?_⟩)
      refine aI ?_
      repeat (refine aJ ?_)
      refine aK (fuel := 10) (i := 2) (j := 10) (by kernel_rfl) ?_ ?_
      ·(refine aA rfl (hp 1 0 (by decide) (by decide) _ _) rfl rfl ?_; rintro _ _ _ ⟨rfl, p2, rfl, hp2, rfl⟩; refine ⟨okF, ?_⟩)
       refine aI ?_
       refine bH (fuel := 9) (listed' := #[true, true, true, true, true, false, false, false, false, false, false, true, false, false, false]) [3] [1] aD aF (by kernel_rfl) (by kernel_rfl) rfl rfl ?_
       repeat (refine aJ ?_)
       (refine aH rfl (fun _ => aX (vals := [pv p0, pv p1, pv p2]) (cells := recs eP [p0, p1, p2]) rfl ?hpl rfl ?hz) rfl rfl ?_; (case hpl => exact (by intro v hv; repeat (first | exact absurd hv (List.not_mem_nil) | (rcases List.mem_cons.1 hv with rfl | hv; · rfl)))); (case hz => rfl))
       repeat (refine aJ ?_)
       refine aK (fuel := 8) (i := 5) (j := 10) (by kernel_rfl) ?_ ?_
       ·(refine aA rfl (hPd p0 p1 p2 s0 s1 s2 _ _ hp0 hp1 hp2 hs0 hs1 hs2 aP aP aP aP aP aP) rfl rfl ?_; rintro _ _ _ ⟨rfl, rfl, rfl⟩; refine ⟨okF, ?_⟩)
        refine aI ?_
        refine aG [6, 7, 8, 9, 10, 12, 13, 14] [1, 1, 2, 3, 0, 0, 0, 0] aD aF (by kernel_rfl) (by kernel_rfl) rfl rfl ?_
        repeat (refine aJ ?_)
        (refine aB rfl rfl ?_; intro b5; refine ⟨okF, ?_⟩)
        repeat (refine aJ ?_)
        refine aN _ _ _ aO aD aF ⟨rfl, rfl, rfl⟩
       ·(refine aB rfl rfl ?_; intro b5; refine ⟨okF, ?_⟩)
        refine aI ?_
        refine aG [5, 6, 7, 8, 9, 12, 13, 14] [0, 0, 0, 1, 2, 0, 0, 0] aD aF (by kernel_rfl) (by kernel_rfl) rfl rfl ?_
        repeat (refine aJ ?_)
        (refine aA rfl (hPd p0 p1 p2 s0 s1 s2 _ _ hp0 hp1 hp2 hs0 hs1 hs2 aP aP aP aP aP aP) rfl rfl ?_; rintro _ _ _ ⟨rfl, rfl, rfl⟩; refine ⟨okF, ?_⟩)
        repeat (refine aJ ?_)
        refine aN _ _ _ aO aD aF ⟨rfl, rfl, rfl⟩
      ·(refine aB rfl rfl ?_; intro b5; refine ⟨okF, ?_⟩)
       refine aI ?_
       refine aG [2, 3, 5, 6, 7, 8, 9, 12, 13, 14] [0, 0, 0, 0, 0, 1, 2, 0, 0, 0] aD aF (by kernel_rfl) (by kernel_rfl) rfl rfl ?_
       repeat (refine aJ ?_)
       (refine aA rfl (hp 1 0 (by decide) (by decide) _ _) rfl rfl ?_; rintro _ _ _ ⟨rfl, p2, rfl, hp2, rfl⟩; refine ⟨okF, ?_⟩)
       repeat (refine aJ ?_)
       (refine aH rfl (fun _ => aX (vals := [pv p0, pv p1, pv p2]) (cells := recs eP [p0, p1, p2]) rfl ?hpl rfl ?hz) rfl rfl ?_; (case hpl => exact (by intro v hv; repeat (first | exact absurd hv (List.not_mem_nil) | (rcases List.mem_cons.1 hv with rfl | hv; · rfl)))); (case hz => rfl))
       repeat (refine aJ ?_)
       (refine aA rfl (hPd p0 p1 p2 s0 s1 s2 _ _ hp0 hp1 hp2 hs0 hs1 hs2 aP aP aP aP aP aP) rfl rfl ?_; rintro _ _ _ ⟨rfl, rfl, rfl⟩; refine ⟨okF, ?_⟩)
       repeat (refine aJ ?_)
       refine aN _ _ _ aO aD aF ⟨rfl, rfl, rfl⟩
    ·(refine aB rfl rfl ?_; intro b5; refine ⟨okF, ?_⟩)
     refine aI ?_
     repeat (refine aJ ?_)
     refine aK (fuel := 11) (i := 1) (j := 11) (by kernel_rfl) ?_ ?_
     ·(refine aA rfl (hp 0 1 (by decide) (by decide) _ _) rfl rfl ?_; rintro _ _ _ ⟨rfl, p1, rfl, hp1, rfl⟩; refine ⟨okF, ?_⟩)
      refine aI ?_
      repeat (refine aJ ?_)
      refine aK (fuel := 10) (i := 2) (j := 11) (by kernel_rfl) ?_ ?_
      ·(refine aA rfl (hp 1 0 (by decide) (by decide) _ _) rfl rfl ?_; rintro _ _ _ ⟨rfl, p2, rfl, hp2, rfl⟩; refine ⟨okF, ?_⟩)
       refine aI ?_
       refine bH (fuel := 9) (listed' := #[true, true, true, true, true, false, false, false, false, false, true, false, false, false, false]) [3] [1] aD aF (by kernel_rfl) (by kernel_rfl) rfl rfl ?_
       repeat (refine aJ ?_)
       (refine aH rfl (fun _ => aX (vals := [pv p0, pv p1, pv p2]) (cells := recs eP [p0, p1, p2]) rfl ?hpl rfl ?hz) rfl rfl ?_; (case hpl => exact (by intro v hv; repeat (first | exact absurd hv (List.not_mem_nil) | (rcases List.mem_cons.1 hv with rfl | hv; · rfl)))); (case hz => rfl))
       repeat (refine aJ ?_)
       refine aK (fuel := 8) (i := 5) (j := 11) (by kernel_rfl) ?_ ?_
       ·(refine aA rfl (hPd p0 p1 p2 s0 s1 s2 _ _ hp0 hp1 hp2 hs0 hs1 hs2 aP aP aP aP aP aP) rfl rfl ?_; rintro _ _ _ ⟨rfl, rfl, rfl⟩; refine ⟨okF, ?_⟩)
        refine aI ?_
        refine aG [6, 7, 8, 9, 11, 12, 13, 14] [1, 1, 2, 3, 0, 0, 0, 0] aD aF (by kernel_rfl) (by kernel_rfl) rfl rfl ?_
        repeat (refine aJ ?_)
        (refine aB rfl rfl ?_; intro b6; refine ⟨okF, ?_⟩)
        repeat (refine aJ ?_)
        refine aN _ _ _ aO aD aF ⟨rfl, rfl, rfl⟩
       ·(refine aB rfl rfl ?_; intro b6; refine ⟨okF, ?_⟩)
        refine aI ?_
        refine aG [5, 6, 7, 8, 9, 12, 13, 14] [0, 0, 0, 1, 2, 0, 0, 0] aD aF (by kernel_rfl) (by kernel_rfl) rfl rfl ?_
        repeat (refine aJ ?_)
        (refine aA rfl (hPd p0 p1 p2 s0 s1 s2 _ _ hp0 hp1 hp2 hs0 hs1 hs2 aP aP aP aP aP aP) rfl rfl ?_; rintro _ _ _ ⟨rfl, rfl, rfl⟩; refine ⟨okF, ?_⟩)
        repeat (refine aJ ?_)
        refine aN _ _ _ aO aD aF ⟨rfl, rfl, rfl⟩
      ·(refine aB rfl rfl ?_; intro b6; refine ⟨okF, ?_⟩)
       refine aI ?_
       refine aG [2, 3, 5, 6, 7, 8, 9, 12, 13, 14] [0, 0, 0, 0, 0, 1, 2, 0, 0, 0] aD aF (by kernel_rfl) (by kernel_rfl) rfl rfl ?_
       repeat (refine aJ ?_)
       (refine aA rfl (hp 1 0 (by decide) (by decide) _ _) rfl rfl ?_; rintro _ _ _ ⟨rfl, p2, rfl, hp2, rfl⟩; refine ⟨okF, ?_⟩)
       repeat (refine aJ ?_)
       (refine aH rfl (fun _ => aX (vals := [pv p0, pv p1, pv p2]) (cells := recs eP [p0, p1, p2]) rfl ?hpl rfl ?hz) rfl rfl ?_; (case hpl => exact (by intro v hv; repeat (first | exact absurd hv (List.not_mem_nil) | (rcases List.mem_cons.1 hv with rfl | hv; · rfl)))); (case hz => rfl))
       repeat (refine aJ ?_)
       (refine aA rfl (hPd p0 p1 p2 s0 s1 s2 _ _ hp0 hp1 hp2 hs0 hs1 hs2 aP aP aP aP aP aP) rfl rfl ?_; rintro _ _ _ ⟨rfl, rfl, rfl⟩; refine ⟨okF, ?_⟩)
       repeat (refine aJ ?_)
       refine aN _ _ _ aO aD aF ⟨rfl, rfl, rfl⟩
     ·(refine aB rfl rfl ?_; intro b6; refine ⟨okF, ?_⟩)
      refine aI ?_
      refine aG [1, 2, 3, 5, 6, 7, 8, 9, 12, 13, 14] [0, 0, 0, 0, 0, 0, 1, 2, 0, 0, 0] aD aF (by kernel_rfl) (by kernel_rfl) rfl rfl ?_
      repeat (refine aJ ?_)
      (refine aA rfl (hp 0 1 (by decide) (by decide) _ _) rfl rfl ?_; rintro _ _ _ ⟨rfl, p1, rfl, hp1, rfl⟩; refine ⟨okF, ?_⟩)
      repeat (refine aJ ?_)
      (refine aA rfl (hp 1 0 (by decide) (by decide) _ _) rfl rfl ?_; rintro _ _ _ ⟨rfl, p2, rfl, hp2, rfl⟩; refine ⟨okF, ?_⟩)
      repeat (refine aJ ?_)
      (refine aH rfl (fun _ => aX (vals := [pv p0, pv p1, pv p2]) (cells := recs eP [p0, p1, p2]) rfl ?hpl rfl ?hz) rfl rfl ?_; (case hpl => exact (by intro v hv; repeat (first | exact absurd hv (List.not_mem_nil) | (rcases List.mem_cons.1 hv with rfl | hv; · rfl)))); (case hz => rfl))
      repeat (refine aJ ?_)
      (refine aA rfl (hPd p0 p1 p2 s0 s1 s2 _ _ hp0 hp1 hp2 hs0 hs1 hs2 aP aP aP aP aP aP) rfl rfl ?_; rintro _ _ _ ⟨rfl, rfl, rfl⟩; refine ⟨okF, ?_⟩)
      repeat (refine aJ ?_)
      refine aN _ _ _ aO aD aF ⟨rfl, rfl, rfl⟩
    ·(refine aB rfl rfl ?_; intro b6; refine ⟨okF, ?_⟩)
     refine aI ?_
     repeat (refine aJ ?_)
     refine aK (fuel := 11) (i := 1) (j := 10) (by kernel_rfl) ?_ ?_
     ·(refine aA rfl (hp 0 1 (by decide) (by decide) _ _) rfl rfl ?_; rintro _ _ _ ⟨rfl, p1, rfl, hp1, rfl⟩; refine ⟨okF, ?_⟩)
      refine aI ?_
      repeat (refine aJ ?_)
      refine aK (fuel := 10) (i := 2) (j := 10) (by kernel_rfl) ?_ ?_
      ·(refine aA rfl (hp 1 0 (by decide) (by decide) _ _) rfl rfl ?_; rintro _ _ _ ⟨rfl, p2, rfl, hp2, rfl⟩; refine ⟨okF, ?_⟩)
       refine aI ?_
       refine bH (fuel := 9) (listed' := #[true, true, true, true, true, false, false, false, false, false, false, true, false, false, false]) [3] [1] aD aF (by kernel_rfl) (by kernel_rfl) rfl rfl ?_
       repeat (refine aJ ?_)
       (refine aH rfl (fun _ => aX (vals := [pv p0, pv p1, pv p2]) (cells := recs eP [p0, p1, p2]) rfl ?hpl rfl ?hz) rfl rfl ?_; (case hpl => exact (by intro v hv; repeat (first | exact absurd hv (List.not_mem_nil) | (rcases List.mem_cons.1 hv with rfl | hv; · rfl)))); (case hz => rfl))
       repeat (refine aJ ?_)
       refine aK (fuel := 8) (i := 5) (j := 10) (by kernel_rfl) ?_ ?_
       ·(refine aA rfl (hPd p0 p1 p2 s0 s1 s2 _ _ hp0 hp1 hp2 hs0 hs1 hs2 aP aP aP aP aP aP) rfl rfl ?_; rintro _ _ _ ⟨rfl, rfl, rfl⟩; refine ⟨okF, ?_⟩)
        refine aI ?_
        refine aG [6, 7, 8, 9, 10, 12, 13, 14] [1, 1, 2, 3, 0, 0, 0, 0] aD aF (by kernel_rfl) (by kernel_rfl) rfl rfl ?_
        repeat (refine aJ ?_)
        (refine aB rfl rfl ?_; intro b5; refine ⟨okF, ?_⟩)
        repeat (refine aJ ?_)
        refine aN _ _ _ aO aD aF ⟨rfl, rfl, rfl⟩
       ·(refine aB rfl rfl ?_; intro b5; refine ⟨okF, ?_⟩)
        refine aI ?_
        refine aG [5, 6, 7, 8, 9, 12, 13, 14] [0, 0, 0, 1, 2, 0, 0, 0] aD aF (by kernel_rfl) (by kernel_rfl) rfl rfl ?_
        repeat (refine aJ ?_)
        (refine aA rfl (hPd p0 p1 p2 s0 s1 s2 _ _ hp0 hp1 hp2 hs0 hs1 hs2 aP aP aP aP aP aP) rfl rfl ?_; rintro _ _ _ ⟨rfl, rfl, rfl⟩; refine ⟨okF, ?_⟩)
        repeat (refine aJ ?_)
        refine aN _ _ _ aO aD aF ⟨rfl, rfl, rfl⟩
      ·(refine aB rfl rfl ?_; intro b5; refine ⟨okF, ?_⟩)
       refine aI ?_
       refine aG [2, 3, 5, 6, 7, 8, 9, 12, 13, 14] [0, 0, 0, 0, 0, 1, 2, 0, 0, 0] aD aF (by kernel_rfl) (by kernel_rfl) rfl rfl ?_
       repeat (refine aJ ?_)
       (refine aA rfl (hp 1 0 (by decide) (by decide) _ _) rfl rfl ?_; rintro _ _ _ ⟨rfl, p2, rfl, hp2, rfl⟩; refine ⟨okF, ?_⟩)
       repeat (refine aJ ?_)
       (refine aH rfl (fun _ => aX (vals := [pv p0, pv p1, pv p2]) (cells := recs eP [p0, p1, p2]) rfl ?hpl rfl ?hz) rfl rfl ?_; (case hpl => exact (by intro v hv; repeat (first | exact absurd hv (List.not_mem_nil) | (rcases List.mem_cons.1 hv with rfl | hv; · rfl)))); (case hz => rfl))
       repeat (refine aJ ?_)
       (refine aA rfl (hPd p0 p1 p2 s0 s1 s2 _ _ hp0 hp1 hp2 hs0 hs1 hs2 aP aP aP aP aP aP) rfl rfl ?_; rintro _ _ _ ⟨rfl, rfl, rfl⟩; refine ⟨okF, ?_⟩)
       repeat (refine aJ ?_)
       refine aN _ _ _ aO aD aF ⟨rfl, rfl, rfl⟩
     ·(refine aB rfl rfl ?_; intro b5; refine ⟨okF, ?_⟩)
      refine aI ?_
      refine aG [1, 2, 3, 5, 6, 7, 8, 9, 12, 13, 14] [0, 0, 0, 0, 0, 0, 1, 2, 0, 0, 0] aD aF (by kernel_rfl) (by kernel_rfl) rfl rfl ?_
      repeat (refine aJ ?_)
      (refine aA rfl (hp 0 1 (by decide) (by decide) _ _) rfl rfl ?_; rintro _ _ _ ⟨rfl, p1, rfl, hp1, rfl⟩; refine ⟨okF, ?_⟩)
      repeat (refine aJ ?_)
      (refine aA rfl (hp 1 0 (by decide) (by decide) _ _) rfl rfl ?_; rintro _ _ _ ⟨rfl, p2, rfl, hp2, rfl⟩; refine ⟨okF, ?_⟩)
      repeat (refine aJ ?_)
      (refine aH rfl (fun _ => aX (vals := [pv p0, pv p1, pv p2]) (cells := recs eP [p0, p1, p2]) rfl ?hpl rfl ?hz) rfl rfl ?_; (case hpl => exact (by intro v hv; repeat (first | exact absurd hv (List.not_mem_nil) | (rcases List.mem_cons.1 hv with rfl | hv; · rfl)))); (case hz => rfl))
      repeat (refine aJ ?_)
      (refine aA rfl (hPd p0 p1 p2 s0 s1 s2 _ _ hp0 hp1 hp2 hs0 hs1 hs2 aP aP aP aP aP aP) rfl rfl ?_; rintro _ _ _ ⟨rfl, rfl, rfl⟩; refine ⟨okF, ?_⟩)
      repeat (refine aJ ?_)
      refine aN _ _ _ aO aD aF ⟨rfl, rfl, rfl⟩
   ·(refine aB rfl rfl ?_; intro b5; refine ⟨okF, ?_⟩)
    refine aI ?_
    repeat (refine aJ ?_)
    refine aK (fuel := 12) (i := 0) (j := 11) (by kernel_rfl) ?_ ?_
    ·(refine aA rfl (hp (-1) 0 (by decide) (by decide) _ _) rfl rfl ?_; rintro _ _ _ ⟨rfl, p0, rfl, hp0, rfl⟩; refine ⟨okF, ?_⟩)
     refine aI ?_
     repeat (refine aJ ?_)
     refine aK (fuel := 11) (i := 1) (j := 11) (by kernel_rfl) ?_ ?_
     ·(refine aA rfl (hp 0 1 (by decide) (by decide) _ _) rfl rfl ?_; rintro _ _ _ ⟨rfl, p1, rfl, hp1, rfl⟩; refine ⟨okF, ?_⟩)
      refine aI ?_
      repeat (refine aJ ?_)
      refine aK (fuel := 10) (i := 2) (j := 11) (by kernel_rfl) ?_ ?_
      ·(refine aA rfl (hp 1 0 (by decide) (by decide) _ _) rfl rfl ?_; rintro _ _ _ ⟨rfl, p2, rfl, hp2, rfl⟩; refine ⟨okF, ?_⟩)
       refine aI ?_
       refine bH (fuel := 9) (listed' := #[true, true, true, true, true, false, false, false, false, false, true, false, false, false, false]) [3] [1] aD aF (by kernel_rfl) (by kernel_rfl) rfl rfl ?_
       repeat (refine aJ ?_)
       (refine aH rfl (fun _ => aX (vals := [pv p0, pv p1, pv p2]) (cells := recs eP [p0, p1, p2]) rfl ?hpl rfl ?hz) rfl rfl ?_; (case hpl => exact (by intro v hv; repeat (first | exact absurd hv (List.not_mem_nil) | (rcases List.mem_cons.1 hv with rfl | hv; · rfl)))); (case hz => rfl))
       repeat (refine aJ ?_)
       refine aK (fuel := 8) (i := 5) (j := 11) (by kernel_rfl) ?_ ?_
       ·(refine aA rfl (hPd p0 p1 p2 s0 s1 s2 _ _ hp0 hp1 hp2 hs0 hs1 hs2 aP aP aP aP aP aP) rfl rfl ?_; rintro _ _ _ ⟨rfl, rfl, rfl⟩; refine ⟨okF, ?_⟩)
        refine aI ?_
        refine aG [6, 7, 8, 9, 11, 12, 13, 14] [1, 1, 2, 3, 0, 0, 0, 0] aD aF (by kernel_rfl) (by kernel_rfl) rfl rfl ?_
        repeat (refine aJ ?_)
        (refine aB rfl rfl ?_; intro b6; refine ⟨okF, ?_⟩)
        repeat (refine aJ ?_)
        refine aN _ _ _ aO aD aF ⟨rfl, rfl, rfl⟩
       ·(refine aB rfl rfl ?_; intro b6; refine ⟨okF, ?_⟩)
        refine aI ?_
        refine aG [5, 6, 7, 8, 9, 12, 13, 14] [0, 0, 0, 1, 2, 0, 0, 0] aD aF (by kernel_rfl) (by kernel_rfl) rfl rfl ?_
        repeat (refine aJ ?_)
        (refine aA rfl (hPd p0 p1 p2 s0 s1 s2 _ _ hp0 hp1 hp2 hs0 hs1 hs2 aP aP aP aP aP aP) rfl rfl ?_; rintro _ _ _ ⟨rfl, rfl, rfl⟩; refine ⟨okF, ?_⟩)
        repeat (refine aJ ?_)
        refine aN _ _ _ aO aD aF ⟨rfl, rfl, rfl⟩
      ·(refine aB rfl rfl ?_; intro b6; refine ⟨okF, ?_⟩)
       refine aI ?_
       refine aG [2, 3, 5, 6, 7, 8, 9, 12, 13, 14] [0, 0, 0, 0, 0, 1, 2, 0, 0, 0] aD aF (by kernel_rfl) (by kernel_rfl) rfl rfl ?_
       repeat (refine aJ ?_)
       (refine aA rfl (hp 1 0 (by decide) (by decide) _ _) rfl rfl ?_; rintro _ _ _ ⟨rfl, p2, rfl, hp2, rfl⟩; refine ⟨okF, ?_⟩)
       repeat (refine aJ ?_)
       (refine aH rfl (fun _ => aX (vals := [pv p0, pv p1, pv p2]) (cells := recs eP [p0, p1, p2]) rfl ?hpl rfl ?hz) rfl rfl ?_; (case hpl => exact (by intro v hv; repeat (first | exact absurd hv (List.not_mem_nil) | (rcases List.mem_cons.1 hv with rfl | hv; · rfl)))); (case hz => rfl))
       repeat (refine aJ ?_)
       (refine aA rfl (hPd p0 p1 p2 s0 s1 s2 _ _ hp0 hp1 hp2 hs0 hs1 hs2 aP aP aP aP aP aP) rfl rfl ?_; rintro _ _ _ ⟨rfl, rfl, rfl⟩; refine ⟨okF, ?_⟩)
       repeat (refine aJ ?_)
       refine aN _ _ _ aO aD aF ⟨rfl, rfl, rfl⟩
     ·(refine aB rfl rfl ?_; intro b6; refine ⟨okF, ?_⟩)
      refine aI ?_
      refine aG [1, 2, 3, 5, 6, 7, 8, 9, 12, 13, 14] [0, 0, 0, 0, 0, 0, 1, 2, 0, 0, 0] aD aF (by kernel_rfl) (by kernel_rfl) rfl rfl ?_
      repeat (refine aJ ?_)
      (refine aA rfl (hp 0 1 (by decide) (by decide) _ _) rfl rfl ?_; rintro _ _ _ ⟨rfl, p1, rfl, hp1, rfl⟩; refine ⟨okF, ?_⟩)
      repeat (refine aJ ?_)
      (refine aA rfl (hp 1 0 (by decide) (by decide) _ _) rfl rfl ?_; rintro _ _ _ ⟨rfl, p2, rfl, hp2, rfl⟩; refine ⟨okF, ?_⟩)
      repeat (refine aJ ?_)
      (refine aH rfl (fun _ => aX (vals := [pv p0, pv p1, pv p2]) (cells := recs eP [p0, p1, p2]) rfl ?hpl rfl ?hz) rfl rfl ?_; (case hpl => exact (by intro v hv; repeat (first | exact absurd hv (List.not_mem_nil) | (rcases List.mem_cons.1 hv with rfl | hv; · rfl)))); (case hz => rfl))
      repeat (refine aJ ?_)
      (refine aA rfl (hPd p0 p1 p2 s0 s1 s2 _ _ hp0 hp1 hp2 hs0 hs1 hs2 aP aP aP aP aP aP) rfl rfl ?_; rintro _ _ _ ⟨rfl, rfl, rfl⟩; refine ⟨okF, ?_⟩)
      repeat (refine aJ ?_)
      refine aN _ _ _ aO aD aF ⟨rfl, rfl, rfl⟩
    ·(refine aB rfl rfl ?_; intro b6; refine ⟨okF, ?_⟩)
     refine aI ?_
     refine aG [0, 1, 2, 3, 5, 6, 7, 8, 9, 12, 13, 14] [0, 0, 0, 0, 0, 0, 0, 1, 2, 0, 0, 0] aD aF (by kernel_rfl) (by kernel_rfl) rfl rfl ?_
     repeat (refine aJ ?_)
     (refine aA rfl (hp (-1) 0 (by decide) (by decide) _ _) rfl rfl ?_; rintro _ _ _ ⟨rfl, p0, rfl, hp0, rfl⟩; refine ⟨okF, ?_⟩)
     repeat (refine aJ ?_)
     (refine aA rfl (hp 0 1 (by decide) (by decide) _ _) rfl rfl ?_; rintro _ _ _ ⟨rfl, p1, rfl, hp1, rfl⟩; refine ⟨okF, ?_⟩)
     repeat (refine aJ ?_)
     (refine aA rfl (hp 1 0 (by decide) (by decide) _ _) rfl rfl ?_; rintro _ _ _ ⟨rfl, p2, rfl, hp2, rfl⟩; refine ⟨okF, ?_⟩)
     repeat (refine aJ ?_)
     (refine aH rfl (fun _ => aX (vals := [pv p0, pv p1, pv p2]) (cells := recs eP [p0, p1, p2]) rfl ?hpl rfl ?hz) rfl rfl ?_; (case hpl => exact (by intro v hv; repeat (first | exact absurd hv (List.not_mem_nil) | (rcases List.mem_cons.1 hv with rfl | hv; · rfl)))); (case hz => rfl))
     repeat (refine aJ ?_)
     (refine aA rfl (hPd p0 p1 p2 s0 s1 s2 _ _ hp0 hp1 hp2 hs0 hs1 hs2 aP aP aP aP aP aP) rfl rfl ?_; rintro _ _ _ ⟨rfl, rfl, rfl⟩; refine ⟨okF, ?_⟩)
     repeat (refine aJ ?_)
     refine aN _ _ _ aO aD aF ⟨rfl, rfl, rfl⟩
   ·(refine aB rfl rfl ?_; intro b6; refine ⟨okF, ?_⟩)
    refine aI ?_
    repeat (refine aJ ?_)
    refine aK (fuel := 12) (i := 0) (j := 10) (by kernel_rfl) ?_ ?_
    ·(refine aA rfl (hp (-1) 0 (by decide) (by decide) _ _) rfl rfl ?_; rintro _ _ _ ⟨rfl, p0, rfl, hp0, rfl⟩; refine ⟨okF, ?_⟩)
     refine aI ?_
     repeat (refine aJ ?_)
     refine aK (fuel := 11) (i := 1) (j := 10) (by kernel_rfl) ?_ ?_
     ·(refine aA rfl (hp 0 1 (by decide) (by decide) _ _) rfl rfl ?_; rintro _ _ _ ⟨rfl, p1, rfl, hp1, rfl⟩; refine ⟨okF, ?_⟩)
      refine aI ?_
      repeat (refine aJ ?_)
      refine aK (fuel := 10) (i := 2) (j := 10) (by kernel_rfl) ?_ ?_
      ·(refine aA rfl (hp 1 0 (by decide) (by decide) _ _) rfl rfl ?_; rintro _ _ _ ⟨rfl, p2, rfl, hp2, rfl⟩; refine ⟨okF, ?_⟩)
       refine aI ?_
       refine bH (fuel := 9) (listed' := #[true, true, true, true, true, false, false, false, false, false, false, true, false, false, false]) [3] [1] aD aF (by kernel_rfl) (by kernel_rfl) rfl rfl ?_
       repeat (refine aJ ?_)
       (refine aH rfl (fun _ => aX (vals := [pv p0, pv p1, pv p2]) (cells := recs eP [p0, p1, p2]) rfl ?hpl rfl ?hz) rfl rfl ?_; (case hpl => exact (by intro v hv; repeat (first | exact absurd hv (List.not_mem_nil) | (rcases List.mem_cons.1 hv with rfl | hv; · rfl)))); (case hz => rfl))
       repeat (refine aJ ?_)
       refine aK (fuel := 8) (i := 5) (j := 10) (by kernel_rfl) ?_ ?_
       ·(refine aA rfl (hPd p0 p1 p2 s0 s1 s2 _ _ hp0 hp1 hp2 hs0 hs1 hs2 aP aP aP aP aP aP) rfl rfl ?_; rintro _ _ _ ⟨rfl, rfl, rfl⟩; refine ⟨okF, ?_⟩)
        refine aI ?_
        refine aG [6, 7, 8, 9, 10, 12, 13, 14] [1, 1, 2, 3, 0, 0, 0, 0] aD aF (by kernel_rfl) (by kernel_rfl) rfl rfl ?_
        repeat (refine aJ ?_)
        (refine aB rfl rfl ?_; intro b5; refine ⟨okF, ?_⟩)
        repeat (refine aJ ?_)
        refine aN _ _ _ aO aD aF ⟨rfl, rfl, rfl⟩
       ·(refine aB rfl rfl ?_; intro b5; refine ⟨okF, ?_⟩)
        refine aI ?_
        refine aG [5, 6, 7, 8, 9, 12, 13, 14] [0, 0, 0, 1, 2, 0, 0, 0] aD aF (by kernel_rfl) (by kernel_rfl) rfl rfl ?_
        repeat (refine aJ ?_)
        (refine aA rfl (hPd p0 p1 p2 s0 s1 s2 _ _ hp0 hp1 hp2 hs0 hs1 hs2 aP aP aP aP aP aP) rfl rfl ?_; rintro _ _ _ ⟨rfl, rfl, rfl⟩; refine ⟨okF, ?_⟩)
        repeat (refine aJ ?_)
        refine aN _ _ _ aO aD aF ⟨rfl, rfl, rfl⟩
      ·(refine aB rfl rfl ?_; intro b5; refine ⟨okF, ?_⟩)
       refine aI ?_
       refine aG [2, 3, 5, 6, 7, 8, 9, 12, 13, 14] [0, 0, 0, 0, 0, 1, 2, 0, 0, 0] aD aF (by kernel_rfl) (by kernel_rfl) rfl rfl ?_
       repeat (refine aJ ?_)
       (refine aA rfl (hp 1 0 (by decide) (by decide) _ _) rfl rfl ?_; rintro _ _ _ ⟨rfl, p2, rfl, hp2, rfl⟩; refine ⟨okF, ?_⟩)
       repeat (refine aJ ?_)
       (refine aH rfl (fun _ => aX (vals := [pv p0, pv p1, pv p2]) (cells := recs eP [p0, p1, p2]) rfl ?hpl rfl ?hz) rfl rfl ?_; (case hpl => exact (by intro v hv; repeat (first | exact absurd hv (List.not_mem_nil) | (rcases List.mem_cons.1 hv with rfl | hv; · rfl)))); (case hz => rfl))
       repeat (refine aJ ?_)
       (refine aA rfl (hPd p0 p1 p2 s0 s1 s2 _ _ hp0 hp1 hp2 hs0 hs1 hs2 aP aP aP aP aP aP) rfl rfl ?_; rintro _ _ _ ⟨rfl, rfl, rfl⟩; refine ⟨okF, ?_⟩)
       repeat (refine aJ ?_)
       refine aN _ _ _ aO aD aF ⟨rfl, rfl, rfl⟩
     ·(refine aB rfl rfl ?_; intro b5; refine ⟨okF, ?_⟩)
      refine aI ?_
      refine aG [1, 2, 3, 5, 6, 7, 8, 9, 12, 13, 14] [0, 0, 0, 0, 0, 0, 1, 2, 0, 0, 0] aD aF (by kernel_rfl) (by kernel_rfl) rfl rfl ?_
      repeat (refine aJ ?_)
      (refine aA rfl (hp 0 1 (by decide) (by decide) _ _) rfl rfl ?_; rintro _ _ _ ⟨rfl, p1, rfl, hp1, rfl⟩; refine ⟨okF, ?_⟩)
      repeat (refine aJ ?_)
      (refine aA rfl (hp 1 0 (by decide) (by decide) _ _) rfl rfl ?_; rintro _ _ _ ⟨rfl, p2, rfl, hp2, rfl⟩; refine ⟨okF, ?_⟩)
      repeat (refine aJ ?_)
      (refine aH rfl (fun _ => aX (vals := [pv p0, pv p1, pv p2]) (cells := recs eP [p0, p1, p2]) rfl ?hpl rfl ?hz) rfl rfl ?_; (case hpl => exact (by intro v hv; repeat (first | exact absurd hv (List.not_mem_nil) | (rcases List.mem_cons.1 hv with rfl | hv; · rfl)))); (case hz => rfl))
      repeat (refine aJ ?_)
      (refine aA rfl (hPd p0 p1 p2 s0 s1 s2 _ _ hp0 hp1 hp2 hs0 hs1 hs2 aP aP aP aP aP aP) rfl rfl ?_; rintro _ _ _ ⟨rfl, rfl, rfl⟩; refine ⟨okF, ?_⟩)
      repeat (refine aJ ?_)
      refine aN _ _ _ aO aD aF ⟨rfl, rfl, rfl⟩
    ·(refine aB rfl rfl ?_; intro b5; refine ⟨okF, ?_⟩)
     refine aI ?_
     refine aG [0, 1, 2, 3, 5, 6, 7, 8, 9, 12, 13, 14] [0, 0, 0, 0, 0, 0, 0, 1, 2, 0, 0, 0] aD aF (by kernel_rfl) (by kernel_rfl) rfl rfl ?_
     repeat (refine aJ ?_)
     (refine aA rfl (hp (-1) 0 (by decide) (by decide) _ _) rfl rfl ?_; rintro _ _ _ ⟨rfl, p0, rfl, hp0, rfl⟩; refine ⟨okF, ?_⟩)
     repeat (refine aJ ?_)
     (refine aA rfl (hp 0 1 (by decide) (by decide) _ _) rfl rfl ?_; rintro _ _ _ ⟨rfl, p1, rfl, hp1, rfl⟩; refine ⟨okF, ?_⟩)
     repeat (refine aJ ?_)
     (refine aA rfl (hp 1 0 (by decide) (by decide) _ _) rfl rfl ?_; rintro _ _ _ ⟨rfl, p2, rfl, hp2, rfl⟩; refine ⟨okF, ?_⟩)
     repeat (refine aJ ?_)
     (refine aH rfl (fun _ => aX (vals := [pv p0, pv p1, pv p2]) (cells := recs eP [p0, p1, p2]) rfl ?hpl rfl ?hz) rfl rfl ?_; (case hpl => exact (by intro v hv; repeat (first | exact absurd hv (List.not_mem_nil) | (rcases List.mem_cons.1 hv with rfl | hv; · rfl)))); (case hz => rfl))
     repeat (refine aJ ?_)
     (refine aA rfl (hPd p0 p1 p2 s0 s1 s2 _ _ hp0 hp1 hp2 hs0 hs1 hs2 aP aP aP aP aP aP) rfl rfl ?_; rintro _ _ _ ⟨rfl, rfl, rfl⟩; refine ⟨okF, ?_⟩)
     repeat (refine aJ ?_)
     refine aN _ _ _ aO aD aF ⟨rfl, rfl, rfl⟩
  ·rintro G M I ⟨rfl, rfl, rfl⟩
   clear hPd
   refine aL ?_
   refine aM ?_
   repeat (refine aJ ?_)
   (refine aA rfl (hp 0 0 (by decide) (by decide) _ _) rfl rfl ?_; rintro _ _ _ ⟨rfl, q0, rfl, hq0, rfl⟩; refine ⟨okF, ?_⟩)
   (refine aA rfl (hp 0 1 (by decide) (by decide) _ _) rfl rfl ?_; rintro _ _ _ ⟨rfl, q1, rfl, hq1, rfl⟩; refine ⟨okF, ?_⟩)
   (refine aA rfl (hp 2 2 (by decide) (by decide) _ _) rfl rfl ?_; rintro _ _ _ ⟨rfl, q2, rfl, hq2, rfl⟩; refine ⟨okF, ?_⟩)
   (refine aA rfl (hSl q0 q1 q2 _ _ hq0 hq1 hq2 aP aP aP) rfl rfl ?_; rintro _ _ _ ⟨rfl, e8, rfl, he8, rfl⟩; refine ⟨okF, ?_⟩)
   repeat (refine aJ ?_)
   (refine aB rfl rfl ?_; intro b8; refine ⟨okF, ?_⟩)
   repeat (refine aJ ?_)
   (repeat refine aL ?_); refine dJ (.blk b8 (eR e8) 37 :: .blk b3 (eP f) 43 :: .blk b2 (eP a) 43 :: .blk b1 (recs eR [s0, s1, s2]) 41 :: M0) (bM e8 (12 * 1 + 6) :: cZ f 593 :: cZ a 298 :: bM s2 0 :: bM s1 0 :: bM s0 0 :: I0) [0, 1, 2, 3, 4, 5, 6, 7, 8, 9, 10, 11, 12, 13, 14, 15, 16, 17, 18, 19, 20, 21, 22, 23, 24, 25, 26, 27, 28, 29, 30, 31, 32, 33, 34] [6, 6, 4, 5, 0, 0, 4, 3, 4, 3, 0, 3, 2, 3, 2, 0, 2, 2, 2, 2, 2, 2, 2, 2, 2, 2, 2, 2, 2, 0, 1, 0, 0, 0, 0] aD aF mixed (by kernel_rfl) ?_
   repeat (refine aJ ?_)
   (refine aA rfl (hp 0 0 (by decide) (by decide) _ _) rfl rfl ?_; rintro _ _ _ ⟨rfl, q3, rfl, hq3, rfl⟩; refine ⟨okF, ?_⟩)
   repeat (refine aJ ?_)
   (refine aA rfl (hSm a q3 (by rw [ha, hq3]; rfl) _ _ aP aP) rfl rfl ?_; rintro _ _ _ ⟨rfl, rfl, rfl⟩; refine ⟨okF, ?_⟩)
   repeat (refine aJ ?_)
   (refine aA rfl (hZe f.x hfx _ _ aP) rfl rfl ?_; rintro _ _ _ ⟨rfl, rfl, rfl⟩; refine ⟨okF, ?_⟩)
   repeat (refine aJ ?_)
   have hSgf := hSg f.y
   generalize f.y.q.num.sign = sy at *
   (refine aA rfl (hSgf _ _ aP) rfl rfl ?_; rintro _ _ _ ⟨rfl, rfl, rfl⟩; refine ⟨okF, ?_⟩)
   repeat (refine aJ ?_)
   (refine aA rfl (hR2 _ _) rfl rfl ?_; rintro _ _ _ ⟨rfl, e9, rfl, he9, rfl⟩; refine ⟨okF, ?_⟩)
   repeat (refine aJ ?_)
   (refine aA rfl (hSa e8 e9 (by rw [he8, he9]) _ _ aP aP) rfl rfl ?_; rintro _ _ _ ⟨rfl, rfl, rfl⟩; refine ⟨okF, ?_⟩)
   repeat (refine aJ ?_)
   refine aQ (by first | exact .inl rfl | exact .inr rfl) rfl rfl _ _ aD aF (⟨rfl, rfl, rfl⟩)
end
end Go.Proofs.YtkccjglmnhgabaaGreat
