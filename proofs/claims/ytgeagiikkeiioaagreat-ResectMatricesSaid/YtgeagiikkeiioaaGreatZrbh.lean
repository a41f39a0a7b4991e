/- resect: condition, meet. resect: meet. resect.Slope. -/
import Derived.Test.YtgeagiikkeiioaaGreatZrax
set_option linter.unusedSimpArgs false
set_option linter.unusedVariables false
set_option maxRecDepth 100000
set_option maxHeartbeats 4000000
namespace Go.Proofs.YtgeagiikkeiioaaGreat
open Go Go.Fx
structure CE where
 a : RE
 b : PE
instance : Inhabited CE := ⟨⟨default, default⟩⟩
abbrev eC (c : CE) : List Value := [.bool (B (c.a.q.num < 0)), .slice c.a.p1 (gr c.a.q.num.natAbs).length c.a.c1, .bool (B ((c.a.q.den : Int) < 0)), .slice c.a.p2 (gr (c.a.q.den : Int).natAbs).length c.a.c2, .bool (B (c.b.x.q.num < 0)), .slice c.b.x.p1 (gr c.b.x.q.num.natAbs).length c.b.x.c1, .bool (B ((c.b.x.q.den : Int) < 0)), .slice c.b.x.p2 (gr (c.b.x.q.den : Int).natAbs).length c.b.x.c2, .bool (B (c.b.y.q.num < 0)), .slice c.b.y.p1 (gr c.b.y.q.num.natAbs).length c.b.y.c1, .bool (B ((c.b.y.q.den : Int) < 0)), .slice c.b.y.p2 (gr (c.b.y.q.den : Int).natAbs).length c.b.y.c2]
instance : Sized eC 12 := ⟨fun _ => rfl⟩
abbrev cv (c : CE) : Value := .agg (eC c).toArray
section
variable {X : List Nat} {w0 : World} {M0 : List Ent} {I0 : List bL}
theorem wC {p : PE} {own org : RE} {k s : Nat} (hk : 4 * s + 2 * k + 3 ≤ 400000000000) (hp : Hv I0 (eT p k)) (ho : Hv I0 (bZ own s)) (hr : Hv I0 (bZ org s)) :
  CD Tryz.prog 123 [pv p, rv own, rv org] X w0 M0 I0 (fun v M I => M0 = M ∧ ∃ c : CE, v = cv c ∧ c.a.q = cnA own.q org.q ∧ c.b.v = cnB p.v own.q org.q ∧ I = eT c.b (4 * s + 2 * k + 3) :: bZ c.a (2 * s + 1) :: I0) := by
 have hS := fun M0 I0 => vE (X := X) (w0 := w0) (M0 := M0) (I0 := I0) (a := own) (b := org) (k := s) (m := s) (by omega)
 have hW := fun M0 I0 => nY (X := X) (w0 := w0) (M0 := M0) (I0 := I0) (x := 1) (by decide) (k := 0) (by decide)
 have hM := fun M0 I0 => mM (X := X) (w0 := w0) (M0 := M0) (I0 := I0) (a := own) (b := org) (k := s) (m := s) (by omega)
 have hA := fun e1 e2 M0 I0 => tH (X := X) (w0 := w0) (M0 := M0) (I0 := I0) (a := e1) (b := e2) (k := 0) (m := s + s) (by omega)
 have hSd := fun M0 I0 => sP (X := X) (w0 := w0) (M0 := M0) (I0 := I0) (a := p) (k := k) (by omega)
 have hN := fun e8 M0 I0 => yC (X := X) (w0 := w0) (M0 := M0) (I0 := I0) (e := e8) (k := 0 + (s + s) + 1) (by omega)
 have hC1 := fun p1 e9 M0 I0 => nN (X := X) (w0 := w0) (M0 := M0) (I0 := I0) (a := p1) (b := e9) (k := k) (m := 0 + (s + s) + 1) (by omega)
 have hC2 := fun e7 M0 I0 => nN (X := X) (w0 := w0) (M0 := M0) (I0 := I0) (a := p) (b := e7) (k := k) (m := s + s + 1) (by omega)
 have hMi := fun p2 p3 M0 I0 => nG (X := X) (w0 := w0) (M0 := M0) (I0 := I0) (a := p2) (b := p3) (k := 0 + (s + s) + 1 + k) (m := s + s + 1 + k) (by omega)
 refine eD hp (eD ho.cons (eD hr.cons.cons ?_))
 refine nR Tryz.func123 rfl Tryz.ntmps123 rfl ?_
 refine aN ?_
 refine aI ?_
 (refine aY rfl rfl rfl ?_; intro b3; refine ⟨okF, ?_⟩)
 (refine aY rfl rfl rfl ?_; intro b4; refine ⟨okF, ?_⟩)
 (refine aY rfl rfl rfl ?_; intro b5; refine ⟨okF, ?_⟩)
 (refine aC rfl rfl ?_; intro b6; refine ⟨okF, ?_⟩)
 repeat (refine aK ?_)
 (refine aA rfl (hS _ _ iE iE) rfl rfl ?_; rintro _ _ _ ⟨rfl, e7, rfl, he7, rfl⟩; refine ⟨okF, ?_⟩)
 (refine aC rfl rfl ?_; intro b7; refine ⟨okF, ?_⟩)
 repeat (refine aK ?_)
 refine mY (fun G M I => ∃ (b8 : Nat) (e8 : RE), e8.q = 1 + own.q * org.q ∧ G = [(3, .pointer (some ⟨b3, 0, none⟩)), (6, .pointer (some ⟨b6, 0, none⟩)), (7, .pointer (some ⟨b7, 0, none⟩)), (8, .pointer (some ⟨b8, 0, none⟩))] ∧ M = .blk b8 (eR e8) 42 :: .blk b7 (eR e7) 42 :: .blk b6 [.bool false, .slice none 0 0, .bool false, .slice none 0 0, .bool false, .slice none 0 0, .bool false, .slice none 0 0, .bool false, .slice none 0 0, .bool false, .slice none 0 0] 149 :: .blk b3 (eP p) 47 :: M0 ∧ I = bZ e8 (0 + (s + s) + 1) :: bZ e7 (s + s + 1) :: bZ org s :: bZ own s :: eT p k :: I0) ?_ ?_
 ·((repeat refine aN ?_); refine jS (.blk b5 (eR org) 42 :: .blk b4 (eR own) 42 :: M0) (bZ org s :: bZ own s :: eT p k :: I0) mixed ?_)
  refine cK (fuel := 5) (listed' := #[false, true, true, false, false, false, false]) [1, 2] [3, 3] aF aG (by kernel_rfl) (by kernel_rfl) rfl rfl ?_
  repeat (refine aK ?_)
  refine aQ (fuel := 4) (i := 0) (j := 5) (by kernel_rfl) ?_ ?_
  ·(refine aA rfl (hW _ _) rfl rfl ?_; rintro _ _ _ ⟨rfl, e1, rfl, he1, rfl⟩; refine ⟨okF, ?_⟩)
   refine aM ?_
   repeat (refine aK ?_)
   refine aQ (fuel := 3) (i := 3) (j := 5) (by kernel_rfl) ?_ ?_
   ·(refine aA rfl (hM _ _ iE iE) rfl rfl ?_; rintro _ _ _ ⟨rfl, e2, rfl, he2, rfl⟩; refine ⟨okF, ?_⟩)
    refine aM ?_
    repeat (refine aK ?_)
    refine aQ (fuel := 2) (i := 4) (j := 5) (by kernel_rfl) ?_ ?_
    ·(refine aA rfl (hA e1 e2 _ _ iE iE) rfl rfl ?_; rintro _ _ _ ⟨rfl, e8, rfl, he8, rfl⟩; refine ⟨okF, ?_⟩)
     refine aM ?_
     refine aH [5, 6] [0, 0] aF aG (by kernel_rfl) (by kernel_rfl) rfl rfl ?_
     repeat (refine aK ?_)
     (refine aC rfl rfl ?_; intro b8; refine ⟨okF, ?_⟩)
     repeat (refine aK ?_)
     refine aX _ _ _ aV aF aG ⟨b8, e8, by rw [he8, he1, he2]; rfl, rfl, rfl, rfl⟩
    ·(refine aC rfl rfl ?_; intro b8; refine ⟨okF, ?_⟩)
     refine aM ?_
     refine aH [4, 6] [0, 0] aF aG (by kernel_rfl) (by kernel_rfl) rfl rfl ?_
     repeat (refine aK ?_)
     (refine aA rfl (hA e1 e2 _ _ iE iE) rfl rfl ?_; rintro _ _ _ ⟨rfl, e8, rfl, he8, rfl⟩; refine ⟨okF, ?_⟩)
     repeat (refine aK ?_)
     refine aX _ _ _ aV aF aG ⟨b8, e8, by rw [he8, he1, he2]; rfl, rfl, rfl, rfl⟩
   ·(refine aC rfl rfl ?_; intro b8; refine ⟨okF, ?_⟩)
    refine aM ?_
    refine aH [3, 4, 6] [0, 0, 0] aF aG (by kernel_rfl) (by kernel_rfl) rfl rfl ?_
    repeat (refine aK ?_)
    (refine aA rfl (hM _ _ iE iE) rfl rfl ?_; rintro _ _ _ ⟨rfl, e2, rfl, he2, rfl⟩; refine ⟨okF, ?_⟩)
    repeat (refine aK ?_)
    (refine aA rfl (hA e1 e2 _ _ iE iE) rfl rfl ?_; rintro _ _ _ ⟨rfl, e8, rfl, he8, rfl⟩; refine ⟨okF, ?_⟩)
    repeat (refine aK ?_)
    refine aX _ _ _ aV aF aG ⟨b8, e8, by rw [he8, he1, he2]; rfl, rfl, rfl, rfl⟩
  ·(refine aC rfl rfl ?_; intro b8; refine ⟨okF, ?_⟩)
   refine aM ?_
   refine aH [0, 3, 4, 6] [0, 0, 0, 0] aF aG (by kernel_rfl) (by kernel_rfl) rfl rfl ?_
   repeat (refine aK ?_)
   (refine aA rfl (hW _ _) rfl rfl ?_; rintro _ _ _ ⟨rfl, e1, rfl, he1, rfl⟩; refine ⟨okF, ?_⟩)
   repeat (refine aK ?_)
   (refine aA rfl (hM _ _ iE iE) rfl rfl ?_; rintro _ _ _ ⟨rfl, e2, rfl, he2, rfl⟩; refine ⟨okF, ?_⟩)
   repeat (refine aK ?_)
   (refine aA rfl (hA e1 e2 _ _ iE iE) rfl rfl ?_; rintro _ _ _ ⟨rfl, e8, rfl, he8, rfl⟩; refine ⟨okF, ?_⟩)
   repeat (refine aK ?_)
   refine aX _ _ _ aV aF aG ⟨b8, e8, by rw [he8, he1, he2]; rfl, rfl, rfl, rfl⟩
 ·rintro G M I ⟨b8, e8, he8, rfl, rfl, rfl⟩
  refine oD (fun G M I => ∃ (b9 : Nat) (p9 : PE), p9.v = cnB p.v own.q org.q ∧ G = [(6, .pointer (some ⟨b6, 0, none⟩)), (7, .pointer (some ⟨b7, 0, none⟩)), (9, .pointer (some ⟨b9, 0, none⟩))] ∧ M = .blk b9 (eP p9) 47 :: .blk b7 (eR e7) 42 :: .blk b6 [.bool false, .slice none 0 0, .bool false, .slice none 0 0, .bool false, .slice none 0 0, .bool false, .slice none 0 0, .bool false, .slice none 0 0, .bool false, .slice none 0 0] 149 :: M0 ∧ I = eT p9 (0 + (s + s) + 1 + k + (s + s + 1 + k) + 1) :: bZ e7 (s + s + 1) :: I0) ?_ ?_
  ·((repeat refine aN ?_); refine jS (.blk b8 (eR e8) 42 :: .blk b7 (eR e7) 42 :: .blk b3 (eP p) 47 :: M0) (bZ e8 (0 + (s + s) + 1) :: bZ e7 (s + s + 1) :: bZ org s :: bZ own s :: eT p k :: I0) mixed ?_)
   refine cK (fuel := 7) (listed' := #[true, false, true, false, false, true, true, false, false, false, false]) [0, 2, 5, 6] [5, 5, 5, 5] aF aG (by kernel_rfl) (by kernel_rfl) rfl rfl ?_
   repeat (refine aK ?_)
   refine aQ (fuel := 6) (i := 1) (j := 9) (by kernel_rfl) ?_ ?_
   ·(refine aA rfl (hSd _ _ iE) rfl rfl ?_; rintro _ _ _ ⟨rfl, p1, rfl, hp1, rfl⟩; refine ⟨okF, ?_⟩)
    refine aM ?_
    repeat (refine aK ?_)
    refine aQ (fuel := 5) (i := 3) (j := 9) (by kernel_rfl) ?_ ?_
    ·(refine aA rfl (hN e8 _ _ iE) rfl rfl ?_; rintro _ _ _ ⟨rfl, e9, rfl, he9, rfl⟩; refine ⟨okF, ?_⟩)
     refine aM ?_
     repeat (refine aK ?_)
     refine aQ (fuel := 4) (i := 4) (j := 9) (by kernel_rfl) ?_ ?_
     ·(refine aA rfl (hC1 p1 e9 _ _ iE iE) rfl rfl ?_; rintro _ _ _ ⟨rfl, p2, rfl, hp2, rfl⟩; refine ⟨okF, ?_⟩)
      refine aM ?_
      repeat (refine aK ?_)
      refine aQ (fuel := 3) (i := 7) (j := 9) (by kernel_rfl) ?_ ?_
      ·(refine aA rfl (hC2 e7 _ _ iE iE) rfl rfl ?_; rintro _ _ _ ⟨rfl, p3, rfl, hp3, rfl⟩; refine ⟨okF, ?_⟩)
       refine aM ?_
       repeat (refine aK ?_)
       refine aQ (fuel := 2) (i := 8) (j := 9) (by kernel_rfl) ?_ ?_
       ·(refine aA rfl (hMi p2 p3 _ _ iE iE) rfl rfl ?_; rintro _ _ _ ⟨rfl, p9, rfl, hp9, rfl⟩; refine ⟨okF, ?_⟩)
        refine aM ?_
        refine aH [9, 10] [0, 0] aF aG (by kernel_rfl) (by kernel_rfl) rfl rfl ?_
        repeat (refine aK ?_)
        (refine aC rfl rfl ?_; intro b9; refine ⟨okF, ?_⟩)
        repeat (refine aK ?_)
        refine aX _ _ _ aV aF aG ⟨b9, p9, by rw [hp9, hp2, hp3, hp1, he9, he8, he7]; rfl, rfl, rfl, rfl⟩
       ·(refine aC rfl rfl ?_; intro b9; refine ⟨okF, ?_⟩)
        refine aM ?_
        refine aH [8, 10] [0, 0] aF aG (by kernel_rfl) (by kernel_rfl) rfl rfl ?_
        repeat (refine aK ?_)
        (refine aA rfl (hMi p2 p3 _ _ iE iE) rfl rfl ?_; rintro _ _ _ ⟨rfl, p9, rfl, hp9, rfl⟩; refine ⟨okF, ?_⟩)
        repeat (refine aK ?_)
        refine aX _ _ _ aV aF aG ⟨b9, p9, by rw [hp9, hp2, hp3, hp1, he9, he8, he7]; rfl, rfl, rfl, rfl⟩
      ·(refine aC rfl rfl ?_; intro b9; refine ⟨okF, ?_⟩)
       refine aM ?_
       refine aH [7, 8, 10] [0, 0, 0] aF aG (by kernel_rfl) (by kernel_rfl) rfl rfl ?_
       repeat (refine aK ?_)
       (refine aA rfl (hC2 e7 _ _ iE iE) rfl rfl ?_; rintro _ _ _ ⟨rfl, p3, rfl, hp3, rfl⟩; refine ⟨okF, ?_⟩)
       repeat (refine aK ?_)
       (refine aA rfl (hMi p2 p3 _ _ iE iE) rfl rfl ?_; rintro _ _ _ ⟨rfl, p9, rfl, hp9, rfl⟩; refine ⟨okF, ?_⟩)
       repeat (refine aK ?_)
       refine aX _ _ _ aV aF aG ⟨b9, p9, by rw [hp9, hp2, hp3, hp1, he9, he8, he7]; rfl, rfl, rfl, rfl⟩
     ·(refine aC rfl rfl ?_; intro b9; refine ⟨okF, ?_⟩)
      refine aM ?_
      refine aH [4, 7, 8, 10] [0, 0, 0, 0] aF aG (by kernel_rfl) (by kernel_rfl) rfl rfl ?_
      repeat (refine aK ?_)
      (refine aA rfl (hC1 p1 e9 _ _ iE iE) rfl rfl ?_; rintro _ _ _ ⟨rfl, p2, rfl, hp2, rfl⟩; refine ⟨okF, ?_⟩)
      repeat (refine aK ?_)
      (refine aA rfl (hC2 e7 _ _ iE iE) rfl rfl ?_; rintro _ _ _ ⟨rfl, p3, rfl, hp3, rfl⟩; refine ⟨okF, ?_⟩)
      repeat (refine aK ?_)
      (refine aA rfl (hMi p2 p3 _ _ iE iE) rfl rfl ?_; rintro _ _ _ ⟨rfl, p9, rfl, hp9, rfl⟩; refine ⟨okF, ?_⟩)
      repeat (refine aK ?_)
      refine aX _ _ _ aV aF aG ⟨b9, p9, by rw [hp9, hp2, hp3, hp1, he9, he8, he7]; rfl, rfl, rfl, rfl⟩
    ·(refine aC rfl rfl ?_; intro b9; refine ⟨okF, ?_⟩)
     refine aM ?_
     refine aH [3, 4, 7, 8, 10] [0, 0, 0, 0, 0] aF aG (by kernel_rfl) (by kernel_rfl) rfl rfl ?_
     repeat (refine aK ?_)
     (refine aA rfl (hN e8 _ _ iE) rfl rfl ?_; rintro _ _ _ ⟨rfl, e9, rfl, he9, rfl⟩; refine ⟨okF, ?_⟩)
     repeat (refine aK ?_)
     (refine aA rfl (hC1 p1 e9 _ _ iE iE) rfl rfl ?_; rintro _ _ _ ⟨rfl, p2, rfl, hp2, rfl⟩; refine ⟨okF, ?_⟩)
     repeat (refine aK ?_)
     (refine aA rfl (hC2 e7 _ _ iE iE) rfl rfl ?_; rintro _ _ _ ⟨rfl, p3, rfl, hp3, rfl⟩; refine ⟨okF, ?_⟩)
     repeat (refine aK ?_)
     (refine aA rfl (hMi p2 p3 _ _ iE iE) rfl rfl ?_; rintro _ _ _ ⟨rfl, p9, rfl, hp9, rfl⟩; refine ⟨okF, ?_⟩)
     repeat (refine aK ?_)
     refine aX _ _ _ aV aF aG ⟨b9, p9, by rw [hp9, hp2, hp3, hp1, he9, he8, he7]; rfl, rfl, rfl, rfl⟩
   ·(refine aC rfl rfl ?_; intro b9; refine ⟨okF, ?_⟩)
    refine aM ?_
    refine aH [1, 3, 4, 7, 8, 10] [0, 0, 0, 0, 0, 0] aF aG (by kernel_rfl) (by kernel_rfl) rfl rfl ?_
    repeat (refine aK ?_)
    (refine aA rfl (hSd _ _ iE) rfl rfl ?_; rintro _ _ _ ⟨rfl, p1, rfl, hp1, rfl⟩; refine ⟨okF, ?_⟩)
    repeat (refine aK ?_)
    (refine aA rfl (hN e8 _ _ iE) rfl rfl ?_; rintro _ _ _ ⟨rfl, e9, rfl, he9, rfl⟩; refine ⟨okF, ?_⟩)
    repeat (refine aK ?_)
    (refine aA rfl (hC1 p1 e9 _ _ iE iE) rfl rfl ?_; rintro _ _ _ ⟨rfl, p2, rfl, hp2, rfl⟩; refine ⟨okF, ?_⟩)
    repeat (refine aK ?_)
    (refine aA rfl (hC2 e7 _ _ iE iE) rfl rfl ?_; rintro _ _ _ ⟨rfl, p3, rfl, hp3, rfl⟩; refine ⟨okF, ?_⟩)
    repeat (refine aK ?_)
    (refine aA rfl (hMi p2 p3 _ _ iE iE) rfl rfl ?_; rintro _ _ _ ⟨rfl, p9, rfl, hp9, rfl⟩; refine ⟨okF, ?_⟩)
    repeat (refine aK ?_)
    refine aX _ _ _ aV aF aG ⟨b9, p9, by rw [hp9, hp2, hp3, hp1, he9, he8, he7]; rfl, rfl, rfl, rfl⟩
  ·rintro G M I ⟨b9, p9, hp9, rfl, rfl, rfl⟩
   refine aN ?_
   refine aI ?_
   repeat (refine aK ?_)
   (refine aD rfl (fun _ => jK (vals := [rv e7, pv p9]) (cells := eC ⟨e7, p9⟩) rfl ?hpl rfl ?hz) rfl rfl ?_; (case hpl => repeat (first | exact True.intro | refine ⟨rfl, ?_⟩)); (case hz => rfl))
   repeat (refine aK ?_)
   refine bW (φ := bZ e7 (2 * s + 1)) iE (bW (φ := eT p9 (4 * s + 2 * k + 3)) iE ?_)
   refine bY (cs := eC ⟨e7, p9⟩) (.inl rfl) rfl rfl aB rfl M0 (eT p9 (4 * s + 2 * k + 3) :: bZ e7 (2 * s + 1) :: I0) aF aG ⟨rfl, ⟨e7, p9⟩, rfl, he7, hp9, rfl⟩
end
end Go.Proofs.YtgeagiikkeiioaaGreat
namespace Go.Proofs.YtgeagiikkeiioaaGreat
open Go Go.Fx
abbrev zP : Value := .agg #[.bool false, .slice none 0 0, .bool false, .slice none 0 0, .bool false, .slice none 0 0, .bool false, .slice none 0 0]
abbrev pY : List Value := [.bool false, .slice none 0 0, .bool false, .slice none 0 0, .bool false, .slice none 0 0, .bool false, .slice none 0 0]
section
variable {X : List Nat} {w0 : World} {M0 : List Ent} {I0 : List bL}
theorem aNV {c0 c1 : CE} {k : Nat} (hk : 4 * k + 1 ≤ 400000000000) (h0 : Hv I0 (eT c0.b k)) (h1 : Hv I0 (eT c1.b k)) (hd : c0.b.v.crs c1.b.v = 0) :
  CD Tryz.prog 122 [.agg (recs eC [c0, c1]).toArray] X w0 M0 I0 (fun v M I => M0 = M ∧ I0 = I ∧ v = .tuple #[zP, .bool false]) := by
 have hC := fun M0 I0 => aAR (X := X) (w0 := w0) (M0 := M0) (I0 := I0) (a := c0.b) (b := c1.b) (k := k) (m := k) (by omega)
 have hS := fun e M0 I0 => kQ (X := X) (w0 := w0) (M0 := M0) (I0 := I0) (e := e) (k := (k + k) + (k + k) + 1) (by omega)
 refine eD h0 (eD h1.cons ?_)
 refine bX Tryz.func122 rfl Tryz.ntmps122 rfl ?_
 refine aN ?_
 refine aI ?_
 (refine aY rfl rfl rfl ?_; intro b1; refine ⟨okF, ?_⟩)
 (refine aC rfl rfl ?_; intro b2; refine ⟨okF, ?_⟩)
 repeat (refine aK ?_)
 (refine aA rfl (hC _ _ iE iE) rfl rfl ?_; rintro _ _ _ ⟨rfl, e4, rfl, he4, rfl⟩; refine ⟨okF, ?_⟩)
 (refine aC rfl rfl ?_; intro b4; refine ⟨okF, ?_⟩)
 have e0 : e4.q.num.sign = 0 := by rw [he4, hd]; rfl
 have hS2 := fun M0 I0 => hS e4 M0 I0
 rw [e0] at hS2
 repeat (refine aK ?_)
 (refine aA rfl (hS2 _ _ iE) rfl rfl ?_; rintro _ _ _ ⟨rfl, rfl, rfl⟩; refine ⟨okF, ?_⟩)
 repeat (refine aK ?_)
 (refine aD rfl (fun _ => dW (pvs := ([]).zipIdx.map (fun p => (p.2, p.1))) (cells := pY) rfl rfl) rfl rfl ?_)
 repeat (refine aK ?_)
 refine gI (rs := [.cell 2 47, .tmp 3]) (vs := [zP, .bool false]) (.inl rfl) rfl (.cellN (cs := pY) inferInstance rfl aB rfl (.tmp rfl .nil)) rfl M0 I0 aF aG ⟨rfl, rfl, rfl⟩
theorem aOQ {c0 c1 : CE} {j k : Nat} (hk : 4 * k + 40 * (j + k) + 100 ≤ 400000000000) (h0 : Hv I0 (eT c0.b k)) (h1 : Hv I0 (eT c1.b k)) (g0 : Hv I0 (bZ c0.a j)) (g1 : Hv I0 (bZ c1.a j)) (hd : c0.b.v.crs c1.b.v ≠ 0) (hz : ¬ (mtZ c0.a.q c1.a.q c0.b.v c1.b.v).z0) :
  CD Tryz.prog 122 [.agg (recs eC [c0, c1]).toArray] X w0 M0 I0 (fun v M I => M0 = M ∧ ∃ p : PE, v = .tuple #[pv p, .bool true] ∧ p.v = mtC c0.a.q c1.a.q c0.b.v c1.b.v ∧ I = eT p (4 * k + 20 * (j + k) + 20) :: I0) := by
 have hC := fun M0 I0 => aAR (X := X) (w0 := w0) (M0 := M0) (I0 := I0) (a := c0.b) (b := c1.b) (k := k) (m := k) (by omega)
 have hS := fun e M0 I0 => kQ (X := X) (w0 := w0) (M0 := M0) (I0 := I0) (e := e) (k := (k + k) + (k + k) + 1) (by omega)
 have hSd0 := fun M0 I0 => sP (X := X) (w0 := w0) (M0 := M0) (I0 := I0) (a := c0.b) (k := k) (by omega)
 have hSd1 := fun M0 I0 => sP (X := X) (w0 := w0) (M0 := M0) (I0 := I0) (a := c1.b) (k := k) (by omega)
 have hSc := fun p1 e9 M0 I0 => nN (X := X) (w0 := w0) (M0 := M0) (I0 := I0) (a := p1) (b := e9) (k := k) (m := j) (by omega)
 have hMi := fun p2 p3 M0 I0 => nG (X := X) (w0 := w0) (M0 := M0) (I0 := I0) (a := p2) (b := p3) (k := j + k) (m := j + k) (by omega)
 have hZ := fun p5 M0 I0 => zD (X := X) (w0 := w0) (M0 := M0) (I0 := I0) (a := p5) (k := j + k + (j + k) + 1) (by omega)
 obtain ⟨z, hz'⟩ : ∃ z, z = j + k + (j + k) + 1 := ⟨_, rfl⟩
 rw [← hz'] at hMi hZ
 have hDo := fun p5 M0 I0 => aHD (X := X) (w0 := w0) (M0 := M0) (I0 := I0) (a := p5) (b := p5) (k := z) (m := z) (by omega)
 have hDv := fun e4 e5 M0 I0 (hb0 : e5.q ≠ 0) => oN (X := X) (w0 := w0) (M0 := M0) (I0 := I0) (a := e4) (b := e5) (k := (k + k) + (k + k) + 1) (m := (z + z) + (z + z) + 1) (by omega) hb0
 have hSe := fun p5 e6 M0 I0 => nN (X := X) (w0 := w0) (M0 := M0) (I0 := I0) (a := p5) (b := e6) (k := z) (m := (k + k) + (k + k) + 1 + ((z + z) + (z + z) + 1)) (by omega)
 refine eD h0 (eD h1.cons (eD g0.cons.cons (eD g1.cons.cons.cons ?_)))
 refine bX Tryz.func122 rfl Tryz.ntmps122 rfl ?_
 refine aN ?_
 refine aI ?_
 (refine aY rfl rfl rfl ?_; intro b1; refine ⟨okF, ?_⟩)
 (refine aC rfl rfl ?_; intro b2; refine ⟨okF, ?_⟩)
 repeat (refine aK ?_)
 (refine aA rfl (hC _ _ iE iE) rfl rfl ?_; rintro _ _ _ ⟨rfl, e4, rfl, he4, rfl⟩; refine ⟨okF, ?_⟩)
 (refine aC rfl rfl ?_; intro b4; refine ⟨okF, ?_⟩)
 have e0 : ¬ e4.q.num.sign = 0 := by rw [sgn0, he4]; exact hd
 have hS2 := fun M0 I0 => hS e4 M0 I0
 generalize e4.q.num.sign = s4 at *
 repeat (refine aK ?_)
 (refine aA rfl (hS2 _ _ iE) rfl rfl ?_; rintro _ _ _ ⟨rfl, rfl, rfl⟩; refine ⟨okF, ?_⟩)
 repeat (refine aK ?_)
 refine mY (fun G M I => ∃ (b5 : Nat) (p5 : PE), p5.v = mtZ c0.a.q c1.a.q c0.b.v c1.b.v ∧ G = [(2, .pointer (some ⟨b2, 0, none⟩)), (4, .pointer (some ⟨b4, 0, none⟩)), (5, .pointer (some ⟨b5, 0, none⟩))] ∧ M = .blk b5 (eP p5) 47 :: .blk b4 (eR e4) 42 :: .blk b2 pY 47 :: M0 ∧ I = eT p5 z :: bZ e4 ((k + k) + (k + k) + 1) :: I0) ?_ ?_
 ·((repeat refine aN ?_); refine jS (.blk b1 (recs eC [c0, c1]) 151 :: M0) (bZ e4 ((k + k) + (k + k) + 1) :: bZ c1.a j :: bZ c0.a j :: eT c1.b k :: eT c0.b k :: I0) mixed ?_)
  refine cK (fuel := 7) (listed' := #[true, true, true, false, true, true, true, false, true, true, true, false, true, true, true, false, false, false, false]) [0, 1, 2, 4, 5, 6, 8, 9, 10, 12, 13, 14] [6, 6, 5, 6, 6, 5, 6, 6, 5, 6, 6, 5] aF aG (by kernel_rfl) (by kernel_rfl) rfl rfl ?_
  repeat (refine aK ?_)
  refine aQ (fuel := 6) (i := 3) (j := 17) (by kernel_rfl) ?_ ?_
  ·(refine aA rfl (hSd0 _ _ iE) rfl rfl ?_; rintro _ _ _ ⟨rfl, p1, rfl, hp1, rfl⟩; refine ⟨okF, ?_⟩)
   refine aM ?_
   repeat (refine aK ?_)
   refine aQ (fuel := 5) (i := 7) (j := 17) (by kernel_rfl) ?_ ?_
   ·(refine aA rfl (hSc p1 c1.a _ _ iE iE) rfl rfl ?_; rintro _ _ _ ⟨rfl, p2, rfl, hp2, rfl⟩; refine ⟨okF, ?_⟩)
    refine aM ?_
    repeat (refine aK ?_)
    refine aQ (fuel := 4) (i := 11) (j := 17) (by kernel_rfl) ?_ ?_
    ·(refine aA rfl (hSd1 _ _ iE) rfl rfl ?_; rintro _ _ _ ⟨rfl, p3, rfl, hp3, rfl⟩; refine ⟨okF, ?_⟩)
     refine aM ?_
     repeat (refine aK ?_)
     refine aQ (fuel := 3) (i := 15) (j := 17) (by kernel_rfl) ?_ ?_
     ·(refine aA rfl (hSc p3 c0.a _ _ iE iE) rfl rfl ?_; rintro _ _ _ ⟨rfl, p4, rfl, hp4, rfl⟩; refine ⟨okF, ?_⟩)
      refine aM ?_
      repeat (refine aK ?_)
      refine aQ (fuel := 2) (i := 16) (j := 17) (by kernel_rfl) ?_ ?_
      ·(refine aA rfl (hMi p2 p4 _ _ iE iE) rfl rfl ?_; rintro _ _ _ ⟨rfl, p5, rfl, hp5, rfl⟩; refine ⟨okF, ?_⟩)
       refine aM ?_
       refine aH [17, 18] [0, 0] aF aG (by kernel_rfl) (by kernel_rfl) rfl rfl ?_
       repeat (refine aK ?_)
       (refine aC rfl rfl ?_; intro b5; refine ⟨okF, ?_⟩)
       repeat (refine aK ?_)
       refine aX _ _ _ aV aF aG ⟨b5, p5, by rw [hp5, hp2, hp4, hp1, hp3]; rfl, rfl, rfl, rfl⟩
      ·(refine aC rfl rfl ?_; intro b5; refine ⟨okF, ?_⟩)
       refine aM ?_
       refine aH [16, 18] [0, 0] aF aG (by kernel_rfl) (by kernel_rfl) rfl rfl ?_
       repeat (refine aK ?_)
       (refine aA rfl (hMi p2 p4 _ _ iE iE) rfl rfl ?_; rintro _ _ _ ⟨rfl, p5, rfl, hp5, rfl⟩; refine ⟨okF, ?_⟩)
       repeat (refine aK ?_)
       refine aX _ _ _ aV aF aG ⟨b5, p5, by rw [hp5, hp2, hp4, hp1, hp3]; rfl, rfl, rfl, rfl⟩
     ·(refine aC rfl rfl ?_; intro b5; refine ⟨okF, ?_⟩)
      refine aM ?_
      refine aH [15, 16, 18] [0, 0, 0] aF aG (by kernel_rfl) (by kernel_rfl) rfl rfl ?_
      repeat (refine aK ?_)
      (refine aA rfl (hSc p3 c0.a _ _ iE iE) rfl rfl ?_; rintro _ _ _ ⟨rfl, p4, rfl, hp4, rfl⟩; refine ⟨okF, ?_⟩)
      repeat (refine aK ?_)
      (refine aA rfl (hMi p2 p4 _ _ iE iE) rfl rfl ?_; rintro _ _ _ ⟨rfl, p5, rfl, hp5, rfl⟩; refine ⟨okF, ?_⟩)
      repeat (refine aK ?_)
      refine aX _ _ _ aV aF aG ⟨b5, p5, by rw [hp5, hp2, hp4, hp1, hp3]; rfl, rfl, rfl, rfl⟩
    ·(refine aC rfl rfl ?_; intro b5; refine ⟨okF, ?_⟩)
     refine aM ?_
     refine aH [11, 15, 16, 18] [0, 0, 0, 0] aF aG (by kernel_rfl) (by kernel_rfl) rfl rfl ?_
     repeat (refine aK ?_)
     (refine aA rfl (hSd1 _ _ iE) rfl rfl ?_; rintro _ _ _ ⟨rfl, p3, rfl, hp3, rfl⟩; refine ⟨okF, ?_⟩)
     repeat (refine aK ?_)
     (refine aA rfl (hSc p3 c0.a _ _ iE iE) rfl rfl ?_; rintro _ _ _ ⟨rfl, p4, rfl, hp4, rfl⟩; refine ⟨okF, ?_⟩)
     repeat (refine aK ?_)
     (refine aA rfl (hMi p2 p4 _ _ iE iE) rfl rfl ?_; rintro _ _ _ ⟨rfl, p5, rfl, hp5, rfl⟩; refine ⟨okF, ?_⟩)
     repeat (refine aK ?_)
     refine aX _ _ _ aV aF aG ⟨b5, p5, by rw [hp5, hp2, hp4, hp1, hp3]; rfl, rfl, rfl, rfl⟩
   ·(refine aC rfl rfl ?_; intro b5; refine ⟨okF, ?_⟩)
    refine aM ?_
    refine aH [7, 11, 15, 16, 18] [0, 0, 0, 0, 0] aF aG (by kernel_rfl) (by kernel_rfl) rfl rfl ?_
    repeat (refine aK ?_)
    (refine aA rfl (hSc p1 c1.a _ _ iE iE) rfl rfl ?_; rintro _ _ _ ⟨rfl, p2, rfl, hp2, rfl⟩; refine ⟨okF, ?_⟩)
    repeat (refine aK ?_)
    (refine aA rfl (hSd1 _ _ iE) rfl rfl ?_; rintro _ _ _ ⟨rfl, p3, rfl, hp3, rfl⟩; refine ⟨okF, ?_⟩)
    repeat (refine aK ?_)
    (refine aA rfl (hSc p3 c0.a _ _ iE iE) rfl rfl ?_; rintro _ _ _ ⟨rfl, p4, rfl, hp4, rfl⟩; refine ⟨okF, ?_⟩)
    repeat (refine aK ?_)
    (refine aA rfl (hMi p2 p4 _ _ iE iE) rfl rfl ?_; rintro _ _ _ ⟨rfl, p5, rfl, hp5, rfl⟩; refine ⟨okF, ?_⟩)
    repeat (refine aK ?_)
    refine aX _ _ _ aV aF aG ⟨b5, p5, by rw [hp5, hp2, hp4, hp1, hp3]; rfl, rfl, rfl, rfl⟩
  ·(refine aC rfl rfl ?_; intro b5; refine ⟨okF, ?_⟩)
   refine aM ?_
   refine aH [3, 7, 11, 15, 16, 18] [0, 0, 0, 0, 0, 0] aF aG (by kernel_rfl) (by kernel_rfl) rfl rfl ?_
   repeat (refine aK ?_)
   (refine aA rfl (hSd0 _ _ iE) rfl rfl ?_; rintro _ _ _ ⟨rfl, p1, rfl, hp1, rfl⟩; refine ⟨okF, ?_⟩)
   repeat (refine aK ?_)
   (refine aA rfl (hSc p1 c1.a _ _ iE iE) rfl rfl ?_; rintro _ _ _ ⟨rfl, p2, rfl, hp2, rfl⟩; refine ⟨okF, ?_⟩)
   repeat (refine aK ?_)
   (refine aA rfl (hSd1 _ _ iE) rfl rfl ?_; rintro _ _ _ ⟨rfl, p3, rfl, hp3, rfl⟩; refine ⟨okF, ?_⟩)
   repeat (refine aK ?_)
   (refine aA rfl (hSc p3 c0.a _ _ iE iE) rfl rfl ?_; rintro _ _ _ ⟨rfl, p4, rfl, hp4, rfl⟩; refine ⟨okF, ?_⟩)
   repeat (refine aK ?_)
   (refine aA rfl (hMi p2 p4 _ _ iE iE) rfl rfl ?_; rintro _ _ _ ⟨rfl, p5, rfl, hp5, rfl⟩; refine ⟨okF, ?_⟩)
   repeat (refine aK ?_)
   refine aX _ _ _ aV aF aG ⟨b5, p5, by rw [hp5, hp2, hp4, hp1, hp3]; rfl, rfl, rfl, rfl⟩
 ·rintro G M I ⟨b5, p5, hp5, rfl, rfl, rfl⟩
  have hZ2 := fun M0 I0 => hZ p5 M0 I0
  have hzz : ¬ p5.v.z0 := by rw [hp5]; exact hz
  rw [bC hzz] at hZ2
  repeat (refine aK ?_)
  (refine aA rfl (hZ2 _ _ iE) rfl rfl ?_; rintro _ _ _ ⟨rfl, rfl, rfl⟩; refine ⟨okF, ?_⟩)
  repeat (refine aK ?_)
  refine mY (fun G M I => ∃ (b6 : Nat) (e6 : RE), e6.q = c0.b.v.crs c1.b.v / p5.v.dot p5.v ∧ G = [(2, .pointer (some ⟨b2, 0, none⟩)), (5, .pointer (some ⟨b5, 0, none⟩)), (6, .pointer (some ⟨b6, 0, none⟩))] ∧ M = .blk b6 (eR e6) 42 :: .blk b5 (eP p5) 47 :: .blk b2 pY 47 :: M0 ∧ I = bZ e6 ((k + k) + (k + k) + 1 + ((z + z) + (z + z) + 1)) :: eT p5 z :: I0) ?_ ?_
  ·have hne : ∀ e5 : RE, e5.q = p5.v.dot p5.v → e5.q ≠ 0 := fun e5 h => by
    have := aPN hzz
    rw [h]
    simp only [V2.dot]
    intro e; rw [e] at this; exact absurd this (by decide)
   ((repeat refine aN ?_); refine jS (.blk b5 (eP p5) 47 :: .blk b4 (eR e4) 42 :: M0) (eT p5 z :: bZ e4 ((k + k) + (k + k) + 1) :: I0) mixed ?_)
   refine cK (fuel := 8) (listed' := #[true, true, true, false, false, false, false, false, false, false, false]) [0, 1, 2] [2, 2, 2] aF aG (by kernel_rfl) (by kernel_rfl) rfl rfl ?_
   repeat (refine aK ?_)
   refine aQ (fuel := 7) (i := 3) (j := 8) (by kernel_rfl) ?_ ?_
   ·(refine aA rfl (hDo p5 _ _ iE iE) rfl rfl ?_; rintro _ _ _ ⟨rfl, e5, rfl, he5, rfl⟩; refine ⟨okF, ?_⟩)
    refine aM ?_
    repeat (refine aK ?_)
    refine aQ (fuel := 6) (i := 4) (j := 8) (by kernel_rfl) ?_ ?_
    ·(refine aA rfl (hDv e4 e5 _ _ (hne e5 he5) iE iE) rfl rfl ?_; rintro _ _ _ ⟨rfl, e6, rfl, he6, rfl⟩; refine ⟨okF, ?_⟩)
     refine aM ?_
     refine aH [5, 6, 7, 8, 9, 10] [1, 1, 2, 0, 0, 0] aF aG (by kernel_rfl) (by kernel_rfl) rfl rfl ?_
     repeat (refine aK ?_)
     (refine aC rfl rfl ?_; intro b6; refine ⟨okF, ?_⟩)
     repeat (refine aK ?_)
     refine aX _ _ _ aV aF aG ⟨b6, e6, by rw [he6, he5, he4], rfl, rfl, rfl⟩
    ·(refine aC rfl rfl ?_; intro b6; refine ⟨okF, ?_⟩)
     refine aM ?_
     refine aH [4, 5, 6, 7, 9, 10] [0, 0, 0, 1, 0, 0] aF aG (by kernel_rfl) (by kernel_rfl) rfl rfl ?_
     repeat (refine aK ?_)
     (refine aA rfl (hDv e4 e5 _ _ (hne e5 he5) iE iE) rfl rfl ?_; rintro _ _ _ ⟨rfl, e6, rfl, he6, rfl⟩; refine ⟨okF, ?_⟩)
     repeat (refine aK ?_)
     refine aX _ _ _ aV aF aG ⟨b6, e6, by rw [he6, he5, he4], rfl, rfl, rfl⟩
   ·(refine aC rfl rfl ?_; intro b6; refine ⟨okF, ?_⟩)
    refine aM ?_
    refine aH [3, 4, 5, 6, 7, 9, 10] [0, 0, 0, 0, 1, 0, 0] aF aG (by kernel_rfl) (by kernel_rfl) rfl rfl ?_
    repeat (refine aK ?_)
    (refine aA rfl (hDo p5 _ _ iE iE) rfl rfl ?_; rintro _ _ _ ⟨rfl, e5, rfl, he5, rfl⟩; refine ⟨okF, ?_⟩)
    repeat (refine aK ?_)
    (refine aA rfl (hDv e4 e5 _ _ (hne e5 he5) iE iE) rfl rfl ?_; rintro _ _ _ ⟨rfl, e6, rfl, he6, rfl⟩; refine ⟨okF, ?_⟩)
    repeat (refine aK ?_)
    refine aX _ _ _ aV aF aG ⟨b6, e6, by rw [he6, he5, he4], rfl, rfl, rfl⟩
  ·rintro G M I ⟨b6, e6, he6, rfl, rfl, rfl⟩
   refine aN ?_
   refine aI ?_
   repeat (refine aK ?_)
   (refine aA rfl (hSe p5 e6 _ _ iE iE) rfl rfl ?_; rintro _ _ _ ⟨rfl, p6, rfl, hp6, rfl⟩; refine ⟨okF, ?_⟩)
   repeat (refine aK ?_)
   refine bW (φ := eT p6 (4 * k + 20 * (j + k) + 20)) iE ?_
   refine gI (rs := [.cell 2 47, .tmp 3]) (vs := [pv p6, .bool true]) (.inl rfl) rfl (.cellN (cs := eP p6) inferInstance rfl aB rfl (.tmp rfl .nil)) rfl M0 (eT p6 (4 * k + 20 * (j + k) + 20) :: I0) aF aG ⟨rfl, p6, rfl, by rw [hp6, he6, hp5]; rfl, rfl⟩
end
end Go.Proofs.YtgeagiikkeiioaaGreat
namespace Go.Proofs.YtgeagiikkeiioaaGreat
open Go Go.Fx
abbrev zRc : List Value := [.bool false, .slice none 0 0, .bool false, .slice none 0 0]
theorem aJG {p : PW → Prop} {a b c : PW} (h1 : p a) (h2 : p b) (h3 : p c) : ∀ x ∈ [a, b, c], p x := fun x hx => by
 simp only [List.mem_cons, List.not_mem_nil, or_false] at hx
 rcases hx with rfl | rfl | rfl
 ·exact h1
 ·exact h2
 ·exact h3
theorem sgnP {q : Rat} : 0 < q.num.sign ↔ 0 < q := by
 rw [Int.sign_pos_iff, aQL]
 simp
section
variable {X : List Nat} {w0 : World} {M0 : List Ent} {I0 : List bL}
theorem aEV {c f p : PE} {k : Nat} (hk : k ≤ 20000000000) (hc : Hv I0 (eT c k)) (hf : Hv I0 (eT f k)) (hp : Hv I0 (eT p k)) (hb : ¬ f.v.z0) (h0 : ahd c.v f.v p.v ≠ 0) :
  CD Tryz.prog 65 [pv c, pv f, pv p] X w0 M0 I0 (fun v M I => M0 = M ∧ ∃ e : RE, v = .tuple #[rv e, .bool (B (0 < ahd c.v f.v p.v)), .int .i64 0] ∧ e.q = slp c.v f.v p.v ∧ I = bZ e (12 * k + 6) :: I0) := by
 refine aBM (φ := c.raw.small ∧ f.raw.small ∧ p.raw.small) (fun w hw => ⟨Mem.pureP hc hk hw, Mem.pureP hf hk hw, Mem.pureP hp hk hw⟩) (fun hs => ?_)
 have hV := fun q M0 I0 h1 => yX (X := X) (w0 := w0) (M0 := M0) (I0 := I0) (q := q) (c := 3) (m := 3) (ps := [c.raw, f.raw, p.raw]) rfl (by simp) (aJG hs.1 hs.2.1 hs.2.2) h1
 rw [cO (show ∀ x ∈ [c.raw, f.raw, p.raw], x.good from aJG c.raw_good f.raw_good p.raw_good)] at hV
 have hZ := fun M0 I0 => zD (X := X) (w0 := w0) (M0 := M0) (I0 := I0) (a := f) (k := k) (by omega)
 rw [bC hb] at hZ
 have hMi := fun M0 I0 => nG (X := X) (w0 := w0) (M0 := M0) (I0 := I0) (a := p) (b := c) (k := k) (m := k) (by omega)
 have hDo := fun p9 g M0 I0 => aHD (X := X) (w0 := w0) (M0 := M0) (I0 := I0) (a := p9) (b := g) (k := k + k + 1) (m := k) (by omega)
 have hSd := fun M0 I0 => sP (X := X) (w0 := w0) (M0 := M0) (I0 := I0) (a := f) (k := k) (by omega)
 obtain ⟨z, hz⟩ : ∃ z, z = (k + k + 1 + k) + (k + k + 1 + k) + 1 := ⟨_, rfl⟩
 rw [← hz] at hDo
 have hDv := fun e4 e5 M0 I0 (hb0 : e5.q ≠ 0) => oN (X := X) (w0 := w0) (M0 := M0) (I0 := I0) (a := e4) (b := e5) (k := z) (m := z) (by omega) hb0
 have hSg := fun e4 M0 I0 => kQ (X := X) (w0 := w0) (M0 := M0) (I0 := I0) (e := e4) (k := z) (by omega)
 refine eD (Hv.pw3 (hc.toPW (by omega)) (hf.toPW (by omega)) (hp.toPW (by omega))) (eD hc.cons (eD hf.cons.cons (eD hp.cons.cons.cons ?_)))
 refine nR Tryz.func65 rfl Tryz.ntmps65 rfl ?_
 refine aN ?_
 refine aI ?_
 (refine aY rfl rfl rfl ?_; intro b3; refine ⟨okF, ?_⟩)
 (refine aY rfl rfl rfl ?_; intro b4; refine ⟨okF, ?_⟩)
 (refine aY rfl rfl rfl ?_; intro b5; refine ⟨okF, ?_⟩)
 (refine aC rfl rfl ?_; intro b6; refine ⟨okF, ?_⟩)
 repeat (refine aK ?_)
 (refine dM (cs := recs ePW [c.raw, f.raw, p.raw]) ([pv c, pv f, pv p]) rfl rfl (by intro v hv; repeat (first | exact absurd hv (List.not_mem_nil) | (rcases List.mem_cons.1 hv with rfl | hv; · rfl))) (by omega) rfl rfl rfl ?_; intro bs; refine ⟨okF, ?_⟩)
 refine eF oZ ?_
 (refine aA rfl (hV _ _ _ aB iE) rfl rfl ?_; rintro _ _ _ ⟨rfl, rfl, rfl⟩; refine ⟨okF, ?_⟩)
 repeat (refine aK ?_)
 (refine aA rfl (hZ _ _ iE) rfl rfl ?_; rintro _ _ _ ⟨rfl, rfl, rfl⟩; refine ⟨okF, ?_⟩)
 repeat (refine aK ?_)
 (refine aA rfl (hMi _ _ iE iE) rfl rfl ?_; rintro _ _ _ ⟨rfl, p9, rfl, hp9, rfl⟩; refine ⟨okF, ?_⟩)
 (refine aC rfl rfl ?_; intro b9; refine ⟨okF, ?_⟩)
 repeat (refine aK ?_)
 (refine aA rfl (hDo p9 f _ _ iE iE) rfl rfl ?_; rintro _ _ _ ⟨rfl, e10, rfl, he10, rfl⟩; refine ⟨okF, ?_⟩)
 (refine aC rfl rfl ?_; intro b10; refine ⟨okF, ?_⟩)
 repeat (refine aK ?_)
 have ea : e10.q = ahd c.v f.v p.v := by rw [he10, hp9]; rfl
 have e0 : e10.q ≠ 0 := by rw [ea]; exact h0
 (repeat refine aN ?_); refine eX (.blk b10 (eR e10) 42 :: .blk b9 (eP p9) 47 :: .blk b4 (eP f) 47 :: M0) (bZ e10 z :: eT p9 (k + k + 1) :: eT p k :: eT f k :: eT c k :: uG [c.raw, f.raw, p.raw] :: I0) [0, 1, 4, 2, 3, 5, 6, 7, 8, 9, 10] [2, 2, 2, 0, 0, 0, 0, 0, 1, 0, 0] aF aG mixed (by kernel_rfl) ?_
 repeat (refine aK ?_)
 (refine aA rfl (hSd _ _ iE) rfl rfl ?_; rintro _ _ _ ⟨rfl, p11, rfl, hp11, rfl⟩; refine ⟨okF, ?_⟩)
 repeat (refine aK ?_)
 (refine aA rfl (hDo p9 p11 _ _ iE iE) rfl rfl ?_; rintro _ _ _ ⟨rfl, e12, rfl, he12, rfl⟩; refine ⟨okF, ?_⟩)
 repeat (refine aK ?_)
 (refine aA rfl (hDv e12 e10 _ _ e0 iE iE) rfl rfl ?_; rintro _ _ _ ⟨rfl, e13, rfl, he13, rfl⟩; refine ⟨okF, ?_⟩)
 repeat (refine aK ?_)
 (repeat refine aN ?_); refine eX (.blk b10 (eR e10) 42 :: .blk b6 (eR e13) 42 :: M0) (bZ e13 (z + z) :: bZ e10 z :: I0) [0, 1, 2, 3, 4, 5, 6] [1, 1, 0, 1, 0, 0, 0] aF aG mixed (by kernel_rfl) ?_
 repeat (refine aK ?_)
 (refine aA rfl (hSg e10 _ _ iE) rfl rfl ?_; rintro _ _ _ ⟨rfl, rfl, rfl⟩; refine ⟨okF, ?_⟩)
 repeat (refine aK ?_)
 refine bW (φ := bZ e13 (12 * k + 6)) iE ?_
 refine gI (rs := [.cell 6 42, .tmp 7, .tmp 8]) (vs := [rv e13, .bool (B (0 < e10.q.num.sign)), .int .i64 0]) (.inl rfl) rfl (.cellN (cs := eR e13) inferInstance rfl aB rfl (.tmp rfl (.tmp rfl .nil))) rfl M0 (bZ e13 (12 * k + 6) :: I0) aF aG ⟨rfl, e13, ?_, ?_, rfl⟩
 ·rw [gP sgnP, ea]
 ·rw [he13, he12, hp9, hp11, ea]; rfl
end
end Go.Proofs.YtgeagiikkeiioaaGreat
