/- resect.Plane. -/
import Derived.Test.YtgeagiikkeiioaaGreatZdbg
import Derived.Test.YtgeagiikkeiioaaGreatZdax
set_option linter.unusedSimpArgs false
set_option linter.unusedVariables false
set_option maxRecDepth 100000
set_option maxHeartbeats 4000000
namespace Go.Proofs.YtgeagiikkeiioaaGreat
open Go Go.Fx
def plD (p0 p1 p2 : V2) (s0 s1 s2 : Rat) : Rat := (cnB (p0.sub p1) s0 s1).crs (cnB (p2.sub p1) s2 s1)
def plZ (p0 p1 p2 : V2) (s0 s1 s2 : Rat) : V2 := mtZ (cnA s0 s1) (cnA s2 s1) (cnB (p0.sub p1) s0 s1) (cnB (p2.sub p1) s2 s1)
def plC (p0 p1 p2 : V2) (s0 s1 s2 : Rat) : V2 := mtC (cnA s0 s1) (cnA s2 s1) (cnB (p0.sub p1) s0 s1) (cnB (p2.sub p1) s2 s1)
def plA (p0 p1 p2 : V2) (s0 s1 s2 : Rat) : V2 := p1.add (plC p0 p1 p2 s0 s1 s2)
def plF (p0 p1 p2 : V2) (s0 s1 s2 : Rat) : V2 := ((plC p0 p1 p2 s0 s1 s2).scl (-1)).sub ((((plC p0 p1 p2 s0 s1 s2).scl (-1)).sd).scl s1)
structure AllP (ps : List PE) (k : Nat) (X : List Nat) (w : World) : Prop where
 go : ∀ p ∈ ps, IsP p k X w
abbrev rW (ps : List PE) (k : Nat) : bD := AllP ps k
instance (ps : List PE) (k : Nat) : Fx.Good (AllP ps k) := ⟨fun X Y w w' h he hY => ⟨fun r hm => Fx.Good.go (φ := IsP _ _) X Y w w' (h.go r hm) he hY⟩⟩
theorem Hv.pAt {I : List bD} {ps : List PE} {k : Nat} {p : PE} (h : Hv I (rW ps k)) (hp : p ∈ ps) : Hv I (dJ p k) := ⟨fun X w hw => (h.go X w hw).go _ hp⟩
theorem Hv.p3 {I : List bD} {a b c : PE} {k : Nat} (h1 : Hv I (dJ a k)) (h2 : Hv I (dJ b k)) (h3 : Hv I (dJ c k)) : Hv I (rW [a, b, c] k) := ⟨fun X w hw => ⟨fun p hp => by
 simp only [List.mem_cons, List.not_mem_nil, or_false] at hp
 rcases hp with rfl | rfl | rfl
 ·exact h1.go X w hw
 ·exact h2.go X w hw
 ·exact h3.go X w hw⟩⟩
theorem aS {I : List bD} {φ : bD} (h : Hv I φ := by first | (with_reducible refine Hv.mem ?_; ((repeat (first | with_reducible exact List.mem_cons_self | with_reducible assumption | with_reducible refine List.mem_cons_of_mem _ ?_))); done) | (with_reducible apply Hv.q; ((repeat (first | with_reducible exact List.mem_cons_self | with_reducible assumption | with_reducible refine List.mem_cons_of_mem _ ?_))); omega) | (with_reducible apply Hv.pm; ((repeat (first | with_reducible exact List.mem_cons_self | with_reducible assumption | with_reducible refine List.mem_cons_of_mem _ ?_))); omega) | (with_reducible apply Hv.px; ((repeat (first | with_reducible exact List.mem_cons_self | with_reducible assumption | with_reducible refine List.mem_cons_of_mem _ ?_))); omega) | (with_reducible apply Hv.py; ((repeat (first | with_reducible exact List.mem_cons_self | with_reducible assumption | with_reducible refine List.mem_cons_of_mem _ ?_))); omega)) : Hv I φ := h
theorem aIC {p : RW → Prop} {a b c : RW} (h1 : p a) (h2 : p b) (h3 : p c) : ∀ x ∈ [a, b, c], p x := fun x hx => by
 simp only [List.mem_cons, List.not_mem_nil, or_false] at hx
 rcases hx with rfl | rfl | rfl
 ·exact h1
 ·exact h2
 ·exact h3
section
variable {X : List Nat} {w0 : World} {M0 : List Ent} {I0 : List bD}
theorem aKZ {p0 p1 p2 : PE} {s0 s1 s2 : RE} {k s K : Nat} (hK : K = 136 * s + 96 * k + 200) (hk : 2 * K + s + k ≤ 4000000) (h0 : Hv I0 (dJ p0 k)) (h1 : Hv I0 (dJ p1 k)) (h2 : Hv I0 (dJ p2 k)) (g0 : Hv I0 (bP s0 s)) (g1 : Hv I0 (bP s1 s)) (g2 : Hv I0 (bP s2 s))
  (hd : plD p0.v p1.v p2.v s0.q s1.q s2.q ≠ 0) (hz : ¬ (plZ p0.v p1.v p2.v s0.q s1.q s2.q).z0) (hn0 : ¬ ((plC p0.v p1.v p2.v s0.q s1.q s2.q).sub (p0.v.sub p1.v)).z0) (hn2 : ¬ ((plC p0.v p1.v p2.v s0.q s1.q s2.q).sub (p2.v.sub p1.v)).z0)
  (hf0 : ¬ (plF p0.v p1.v p2.v s0.q s1.q s2.q).z0) (hf : ∀ p ∈ [p0, p1, p2], 0 < ahd (plA p0.v p1.v p2.v s0.q s1.q s2.q) (plF p0.v p1.v p2.v s0.q s1.q s2.q) p.v) :
  CD Tryz.prog 63 [.agg (recs eP [p0, p1, p2]).toArray, .agg (recs eR [s0, s1, s2]).toArray] X w0 M0 I0 (fun v M I => M0 = M ∧ ∃ a f : PE, v = .tuple #[pv a, pv f, .int .i64 0] ∧ a.v = plA p0.v p1.v p2.v s0.q s1.q s2.q ∧ f.v = plF p0.v p1.v p2.v s0.q s1.q s2.q ∧ I = dJ f (2 * K + s + 1) :: dJ a (k + K + 1) :: I0) := by
 refine yI (φ := (p0.raw.small ∧ p1.raw.small ∧ p2.raw.small) ∧ s0.raw.small ∧ s1.raw.small ∧ s2.raw.small) (fun w hw => ⟨⟨Mem.pureP h0 (by omega) hw, Mem.pureP h1 (by omega) hw, Mem.pureP h2 (by omega) hw⟩, Mem.pureR g0 (by omega) hw, Mem.pureR g1 (by omega) hw, Mem.pureR g2 (by omega) hw⟩) (fun hs => ?_)
 have hV := fun q M0 I0 h1 => sW (X := X) (w0 := w0) (M0 := M0) (I0 := I0) (q := q) (c := 3) (m := 3) (ps := [p0.raw, p1.raw, p2.raw]) rfl (by simp) (aKE hs.1.1 hs.1.2.1 hs.1.2.2) h1
 rw [bS (show ∀ x ∈ [p0.raw, p1.raw, p2.raw], x.good from aKE p0.raw_good p1.raw_good p2.raw_good)] at hV
 have hVc := fun q M0 I0 h1 => rU (X := X) (w0 := w0) (M0 := M0) (I0 := I0) (q := q) (c := 3) (m := 3) (ps := [s0.raw, s1.raw, s2.raw]) rfl (by simp) (aIC hs.2.1 hs.2.2.1 hs.2.2.2) h1
 rw [bS (show ∀ x ∈ [s0.raw, s1.raw, s2.raw], x.good from aIC s0.raw_good s1.raw_good s2.raw_good)] at hVc
 have hMi := fun a b M0 I0 => nK (X := X) (w0 := w0) (M0 := M0) (I0 := I0) (a := a) (b := b) (k := k) (m := k) (by omega)
 have hCo := fun p a b M0 I0 => vX (X := X) (w0 := w0) (M0 := M0) (I0 := I0) (p := p) (own := a) (org := b) (k := k + k + 1) (s := s) (by omega)
 obtain ⟨kb, hkb⟩ : ∃ kb, kb = 4 * s + 2 * (k + k + 1) + 3 := ⟨_, rfl⟩
 rw [← hkb] at hCo
 have hMe := fun c0 c1 M0 I0 => aNU (X := X) (w0 := w0) (M0 := M0) (I0 := I0) (c0 := c0) (c1 := c1) (k := kb) (j := 2 * s + 1) (by omega)
 have hMc := fun a b M0 I0 => nK (X := X) (w0 := w0) (M0 := M0) (I0 := I0) (a := a) (b := b) (k := K) (m := k + k + 1) (by omega)
 have hZc := fun p M0 I0 => yQ (X := X) (w0 := w0) (M0 := M0) (I0 := I0) (a := p) (k := K + (k + k + 1) + 1) (by omega)
 have hW := fun M0 I0 => oQ (X := X) (w0 := w0) (M0 := M0) (I0 := I0) (x := -1) (by decide) (k := 0) (by decide)
 have hSt := fun p e M0 I0 => nA (X := X) (w0 := w0) (M0 := M0) (I0 := I0) (a := p) (b := e) (k := K) (m := 0) (by omega)
 have hSd := fun p M0 I0 => rZ (X := X) (w0 := w0) (M0 := M0) (I0 := I0) (a := p) (k := K) (by omega)
 have hSs := fun p M0 I0 => nA (X := X) (w0 := w0) (M0 := M0) (I0 := I0) (a := p) (b := s1) (k := K) (m := s) (by omega)
 have hMf := fun a b M0 I0 => nK (X := X) (w0 := w0) (M0 := M0) (I0 := I0) (a := a) (b := b) (k := K) (m := s + K) (by omega)
 have hPl := fun a b M0 I0 => aMB (X := X) (w0 := w0) (M0 := M0) (I0 := I0) (a := a) (b := b) (k := k) (m := K) (by omega)
 have hSl := fun a f p M0 I0 h1 h2 h3 => aEU (X := X) (w0 := w0) (M0 := M0) (I0 := I0) (c := a) (f := f) (p := p) (k := 2 * K + s + k + 1) (by omega) h1 h2 h3
 refine eX (Hv.pw3 (h0.toPW (by omega)) (h1.toPW (by omega)) (h2.toPW (by omega))) (eX (Hv.w3 (g0.toW (by omega)) (g1.toW (by omega)) (g2.toW (by omega))).cons (eX (Hv.p3 h0 h1 h2).cons.cons (eX h0.cons.cons.cons (eX h1.cons.cons.cons.cons (eX h2.cons.cons.cons.cons.cons (eX g0.cons.cons.cons.cons.cons.cons (eX g1.cons.cons.cons.cons.cons.cons.cons (eX g2.cons.cons.cons.cons.cons.cons.cons.cons ?_))))))))
 generalize hI1 : bP s2 s :: bP s1 s :: bP s0 s :: dJ p2 k :: dJ p1 k :: dJ p0 k :: rW [p0, p1, p2] k :: aDK [s0.raw, s1.raw, s2.raw] :: mE [p0.raw, p1.raw, p2.raw] :: I0 = I1
 have f0 : dJ p0 k ∈ I1 := by rw [← hI1]; exact aC
 have f1 : dJ p1 k ∈ I1 := by rw [← hI1]; exact aC
 have f2 : dJ p2 k ∈ I1 := by rw [← hI1]; exact aC
 have f3 : bP s0 s ∈ I1 := by rw [← hI1]; exact aC
 have f4 : bP s1 s ∈ I1 := by rw [← hI1]; exact aC
 have f5 : bP s2 s ∈ I1 := by rw [← hI1]; exact aC
 have f6 : rW [p0, p1, p2] k ∈ I1 := by rw [← hI1]; exact aC
 have f7 : aDK [s0.raw, s1.raw, s2.raw] ∈ I1 := by rw [← hI1]; exact aC
 have f8 : mE [p0.raw, p1.raw, p2.raw] ∈ I1 := by rw [← hI1]; exact aC
 have f9 : Inc I1 I0 := by rw [← hI1]; exact aD
 clear hI1
 have fP0 := fun (ψ : bD) (I : List bD) (h : ψ ∈ I1) => h
 refine bG Tryz.func63 rfl Tryz.ntmps63 rfl ?_
 refine aK ?_
 refine aL ?_
 (refine aR rfl rfl rfl ?_; intro b2; refine ⟨okF, ?_⟩)
 (refine aR rfl rfl rfl ?_; intro b3; refine ⟨okF, ?_⟩)
 (refine aB rfl rfl ?_; intro b4; refine ⟨okF, ?_⟩)
 (refine aB rfl rfl ?_; intro b5; refine ⟨okF, ?_⟩)
 refine bT (b := b2) mG ?_
 refine bT (b := b3) mG ?_
 repeat (refine aI ?_)
 refine aH rfl (fun _ => iQ rfl) rfl rfl ?_
 (refine aA rfl (hV _ _ _ (List.Mem.tail _ (List.Mem.head _)) (Hv.mem (List.Mem.tail _ (List.Mem.tail _ f8)))) rfl rfl ?_; rintro _ _ _ ⟨rfl, rfl, rfl⟩; refine ⟨okF, ?_⟩)
 repeat (refine aI ?_)
 refine aH rfl (fun _ => iQ rfl) rfl rfl ?_
 (refine aA rfl (hVc _ _ _ (List.Mem.head _) (Hv.mem (List.Mem.tail _ (List.Mem.tail _ f7)))) rfl rfl ?_; rintro _ _ _ ⟨rfl, rfl, rfl⟩; refine ⟨okF, ?_⟩)
 repeat (refine aI ?_)
 (refine aB rfl rfl ?_; intro b7; refine ⟨okF, ?_⟩)
 repeat (refine aI ?_)
 refine lU (fun G M I => ∃ (b8 b9 : Nat) (q8 q9 : PE), q8.v = p0.v.sub p1.v ∧ q9.v = p2.v.sub p1.v ∧ G = [(2, .pointer (some ⟨b2, 0, none⟩)), (3, .pointer (some ⟨b3, 0, none⟩)), (4, .pointer (some ⟨b4, 0, none⟩)), (5, .pointer (some ⟨b5, 0, none⟩)), (7, .pointer (some ⟨b7, 0, none⟩)), (8, .pointer (some ⟨b8, 0, none⟩)), (9, .pointer (some ⟨b9, 0, none⟩))] ∧ M = .blk b9 (eP q9) 47 :: .blk b8 (eP q8) 47 :: .blk b7 (eP p1) 47 :: .blk b5 zPc 47 :: .blk b4 zPc 47 :: M0 ∧ I = dJ q9 (k + k + 1) :: dJ q8 (k + k + 1) :: bH (some ⟨b3, 0, none⟩) (recs eR [s0, s1, s2]) :: bH (some ⟨b2, 0, none⟩) (recs eP [p0, p1, p2]) :: I1) ?_ ?_
 ·((repeat refine aK ?_); refine kD (.blk b7 (eP p1) 47 :: M0) (bH (some ⟨b3, 0, none⟩) (recs eR [s0, s1, s2]) :: bH (some ⟨b2, 0, none⟩) (recs eP [p0, p1, p2]) :: I1) mixed ?_)
  refine bR (fuel := 6) (listed' := #[true, true, true, false, true, true, true, false, false, false, false, false]) [0, 1, 2, 4, 5, 6] [4, 3, 3, 5, 4, 4] aF aD (by kernel_rfl) (by kernel_rfl) rfl rfl ?_
  repeat (refine aI ?_)
  refine fF (fuel := 5) (i := 3) (j := 8) (m := 9) (by kernel_rfl) ?_ ?_ ?_
  ·(refine aA rfl (hMi p0 p1 _ _ aS aS) rfl rfl ?_; rintro _ _ _ ⟨rfl, q8, rfl, hq8, rfl⟩; refine ⟨okF, ?_⟩)
   refine aJ ?_
   repeat (refine aI ?_)
   refine fF (fuel := 4) (i := 7) (j := 8) (m := 9) (by kernel_rfl) ?_ ?_ ?_
   ·(refine aA rfl (hMi p2 p1 _ _ aS aS) rfl rfl ?_; rintro _ _ _ ⟨rfl, q9, rfl, hq9, rfl⟩; refine ⟨okF, ?_⟩)
    refine aJ ?_
    repeat (refine aI ?_)
    refine aM (fuel := 3) (i := 8) (j := 9) (by kernel_rfl) ?_ ?_
    ·(refine aB rfl rfl ?_; intro b8; refine ⟨okF, ?_⟩)
     refine aJ ?_
     refine aG [9, 10, 11] [0, 0, 0] aF aD (by kernel_rfl) (by kernel_rfl) rfl rfl ?_
     repeat (refine aI ?_)
     (refine aB rfl rfl ?_; intro b9; refine ⟨okF, ?_⟩)
     repeat (refine aI ?_)
     refine aQ _ _ _ aO aF aD ⟨b8, b9, q8, q9, hq8, hq9, rfl, rfl, rfl⟩
    ·(refine aB rfl rfl ?_; intro b9; refine ⟨okF, ?_⟩)
     refine aJ ?_
     refine aG [8, 10, 11] [0, 0, 0] aF aD (by kernel_rfl) (by kernel_rfl) rfl rfl ?_
     repeat (refine aI ?_)
     (refine aB rfl rfl ?_; intro b8; refine ⟨okF, ?_⟩)
     repeat (refine aI ?_)
     refine aQ _ _ _ aO aF aD ⟨b8, b9, q8, q9, hq8, hq9, rfl, rfl, rfl⟩
   ·(refine aB rfl rfl ?_; intro b8; refine ⟨okF, ?_⟩)
    refine aJ ?_
    repeat (refine aI ?_)
    refine aM (fuel := 3) (i := 7) (j := 9) (by kernel_rfl) ?_ ?_
    ·(refine aA rfl (hMi p2 p1 _ _ aS aS) rfl rfl ?_; rintro _ _ _ ⟨rfl, q9, rfl, hq9, rfl⟩; refine ⟨okF, ?_⟩)
     refine aJ ?_
     refine aG [9, 10, 11] [0, 0, 0] aF aD (by kernel_rfl) (by kernel_rfl) rfl rfl ?_
     repeat (refine aI ?_)
     (refine aB rfl rfl ?_; intro b9; refine ⟨okF, ?_⟩)
     repeat (refine aI ?_)
     refine aQ _ _ _ aO aF aD ⟨b8, b9, q8, q9, hq8, hq9, rfl, rfl, rfl⟩
    ·(refine aB rfl rfl ?_; intro b9; refine ⟨okF, ?_⟩)
     refine aJ ?_
     refine aG [7, 10, 11] [0, 0, 0] aF aD (by kernel_rfl) (by kernel_rfl) rfl rfl ?_
     repeat (refine aI ?_)
     (refine aA rfl (hMi p2 p1 _ _ aS aS) rfl rfl ?_; rintro _ _ _ ⟨rfl, q9, rfl, hq9, rfl⟩; refine ⟨okF, ?_⟩)
     repeat (refine aI ?_)
     refine aQ _ _ _ aO aF aD ⟨b8, b9, q8, q9, hq8, hq9, rfl, rfl, rfl⟩
   ·(refine aB rfl rfl ?_; intro b9; refine ⟨okF, ?_⟩)
    refine aJ ?_
    repeat (refine aI ?_)
    refine aM (fuel := 3) (i := 7) (j := 8) (by kernel_rfl) ?_ ?_
    ·(refine aA rfl (hMi p2 p1 _ _ aS aS) rfl rfl ?_; rintro _ _ _ ⟨rfl, q9, rfl, hq9, rfl⟩; refine ⟨okF, ?_⟩)
     refine aJ ?_
     refine aG [8, 10, 11] [0, 0, 0] aF aD (by kernel_rfl) (by kernel_rfl) rfl rfl ?_
     repeat (refine aI ?_)
     (refine aB rfl rfl ?_; intro b8; refine ⟨okF, ?_⟩)
     repeat (refine aI ?_)
     refine aQ _ _ _ aO aF aD ⟨b8, b9, q8, q9, hq8, hq9, rfl, rfl, rfl⟩
    ·(refine aB rfl rfl ?_; intro b8; refine ⟨okF, ?_⟩)
     refine aJ ?_
     refine aG [7, 10, 11] [0, 0, 0] aF aD (by kernel_rfl) (by kernel_rfl) rfl rfl ?_
     repeat (refine aI ?_)
     (refine aA rfl (hMi p2 p1 _ _ aS aS) rfl rfl ?_; rintro _ _ _ ⟨rfl, q9, rfl, hq9, rfl⟩; refine ⟨okF, ?_⟩)
     repeat (refine aI ?_)
     refine aQ _ _ _ aO aF aD ⟨b8, b9, q8, q9, hq8, hq9, rfl, rfl, rfl⟩
  ·(refine aB rfl rfl ?_; intro b8; refine ⟨okF, ?_⟩)
   refine aJ ?_
   repeat (refine aI ?_)
   refine aM (fuel := 4) (i := 3) (j := 9) (by kernel_rfl) ?_ ?_
   ·(refine aA rfl (hMi p0 p1 _ _ aS aS) rfl rfl ?_; rintro _ _ _ ⟨rfl, q8, rfl, hq8, rfl⟩; refine ⟨okF, ?_⟩)
    refine aJ ?_
    repeat (refine aI ?_)
    refine aM (fuel := 3) (i := 7) (j := 9) (by kernel_rfl) ?_ ?_
    ·(refine aA rfl (hMi p2 p1 _ _ aS aS) rfl rfl ?_; rintro _ _ _ ⟨rfl, q9, rfl, hq9, rfl⟩; refine ⟨okF, ?_⟩)
     refine aJ ?_
     refine aG [9, 10, 11] [0, 0, 0] aF aD (by kernel_rfl) (by kernel_rfl) rfl rfl ?_
     repeat (refine aI ?_)
     (refine aB rfl rfl ?_; intro b9; refine ⟨okF, ?_⟩)
     repeat (refine aI ?_)
     refine aQ _ _ _ aO aF aD ⟨b8, b9, q8, q9, hq8, hq9, rfl, rfl, rfl⟩
    ·(refine aB rfl rfl ?_; intro b9; refine ⟨okF, ?_⟩)
     refine aJ ?_
     refine aG [7, 10, 11] [0, 0, 0] aF aD (by kernel_rfl) (by kernel_rfl) rfl rfl ?_
     repeat (refine aI ?_)
     (refine aA rfl (hMi p2 p1 _ _ aS aS) rfl rfl ?_; rintro _ _ _ ⟨rfl, q9, rfl, hq9, rfl⟩; refine ⟨okF, ?_⟩)
     repeat (refine aI ?_)
     refine aQ _ _ _ aO aF aD ⟨b8, b9, q8, q9, hq8, hq9, rfl, rfl, rfl⟩
   ·(refine aB rfl rfl ?_; intro b9; refine ⟨okF, ?_⟩)
    refine aJ ?_
    refine aG [3, 7, 10, 11] [0, 0, 0, 0] aF aD (by kernel_rfl) (by kernel_rfl) rfl rfl ?_
    repeat (refine aI ?_)
    (refine aA rfl (hMi p0 p1 _ _ aS aS) rfl rfl ?_; rintro _ _ _ ⟨rfl, q8, rfl, hq8, rfl⟩; refine ⟨okF, ?_⟩)
    repeat (refine aI ?_)
    (refine aA rfl (hMi p2 p1 _ _ aS aS) rfl rfl ?_; rintro _ _ _ ⟨rfl, q9, rfl, hq9, rfl⟩; refine ⟨okF, ?_⟩)
    repeat (refine aI ?_)
    refine aQ _ _ _ aO aF aD ⟨b8, b9, q8, q9, hq8, hq9, rfl, rfl, rfl⟩
  ·(refine aB rfl rfl ?_; intro b9; refine ⟨okF, ?_⟩)
   refine aJ ?_
   repeat (refine aI ?_)
   refine aM (fuel := 4) (i := 3) (j := 8) (by kernel_rfl) ?_ ?_
   ·(refine aA rfl (hMi p0 p1 _ _ aS aS) rfl rfl ?_; rintro _ _ _ ⟨rfl, q8, rfl, hq8, rfl⟩; refine ⟨okF, ?_⟩)
    refine aJ ?_
    repeat (refine aI ?_)
    refine aM (fuel := 3) (i := 7) (j := 8) (by kernel_rfl) ?_ ?_
    ·(refine aA rfl (hMi p2 p1 _ _ aS aS) rfl rfl ?_; rintro _ _ _ ⟨rfl, q9, rfl, hq9, rfl⟩; refine ⟨okF, ?_⟩)
     refine aJ ?_
     refine aG [8, 10, 11] [0, 0, 0] aF aD (by kernel_rfl) (by kernel_rfl) rfl rfl ?_
     repeat (refine aI ?_)
     (refine aB rfl rfl ?_; intro b8; refine ⟨okF, ?_⟩)
     repeat (refine aI ?_)
     refine aQ _ _ _ aO aF aD ⟨b8, b9, q8, q9, hq8, hq9, rfl, rfl, rfl⟩
    ·(refine aB rfl rfl ?_; intro b8; refine ⟨okF, ?_⟩)
     refine aJ ?_
     refine aG [7, 10, 11] [0, 0, 0] aF aD (by kernel_rfl) (by kernel_rfl) rfl rfl ?_
     repeat (refine aI ?_)
     (refine aA rfl (hMi p2 p1 _ _ aS aS) rfl rfl ?_; rintro _ _ _ ⟨rfl, q9, rfl, hq9, rfl⟩; refine ⟨okF, ?_⟩)
     repeat (refine aI ?_)
     refine aQ _ _ _ aO aF aD ⟨b8, b9, q8, q9, hq8, hq9, rfl, rfl, rfl⟩
   ·(refine aB rfl rfl ?_; intro b8; refine ⟨okF, ?_⟩)
    refine aJ ?_
    refine aG [3, 7, 10, 11] [0, 0, 0, 0] aF aD (by kernel_rfl) (by kernel_rfl) rfl rfl ?_
    repeat (refine aI ?_)
    (refine aA rfl (hMi p0 p1 _ _ aS aS) rfl rfl ?_; rintro _ _ _ ⟨rfl, q8, rfl, hq8, rfl⟩; refine ⟨okF, ?_⟩)
    repeat (refine aI ?_)
    (refine aA rfl (hMi p2 p1 _ _ aS aS) rfl rfl ?_; rintro _ _ _ ⟨rfl, q9, rfl, hq9, rfl⟩; refine ⟨okF, ?_⟩)
    repeat (refine aI ?_)
    refine aQ _ _ _ aO aF aD ⟨b8, b9, q8, q9, hq8, hq9, rfl, rfl, rfl⟩
 ·rintro G M I ⟨b8, b9, q8, q9, hq8, hq9, rfl, rfl, rfl⟩
  refine sZ (fun G M I => ∃ (b10 : Nat) (q10 : PE), q10.v = plC p0.v p1.v p2.v s0.q s1.q s2.q ∧ G = (11, .bool true) :: [(2, .pointer (some ⟨b2, 0, none⟩)), (3, .pointer (some ⟨b3, 0, none⟩)), (4, .pointer (some ⟨b4, 0, none⟩)), (5, .pointer (some ⟨b5, 0, none⟩)), (7, .pointer (some ⟨b7, 0, none⟩)), (8, .pointer (some ⟨b8, 0, none⟩)), (9, .pointer (some ⟨b9, 0, none⟩)), (10, .pointer (some ⟨b10, 0, none⟩))] ∧ M = .blk b10 (eP q10) 47 :: .blk b9 (eP q9) 47 :: .blk b8 (eP q8) 47 :: .blk b7 (eP p1) 47 :: .blk b5 zPc 47 :: .blk b4 zPc 47 :: M0 ∧ I = dJ q10 K :: dJ q9 (k + k + 1) :: dJ q8 (k + k + 1) :: bH (some ⟨b3, 0, none⟩) (recs eR [s0, s1, s2]) :: bH (some ⟨b2, 0, none⟩) (recs eP [p0, p1, p2]) :: I1) ?_ ?_
  ·have hMe2 : ∀ (c0 c1 : CE) M0 I0, c0.a.q = cnA s0.q s1.q → c0.b.v = cnB q8.v s0.q s1.q → c1.a.q = cnA s2.q s1.q → c1.b.v = cnB q9.v s2.q s1.q → _ → _ → _ → _ → CD Tryz.prog 122 [.agg (recs eC [c0, c1]).toArray] X w0 M0 I0 (fun v M I => M0 = M ∧ ∃ p : PE, v = .tuple #[pv p, .bool true] ∧ p.v = plC p0.v p1.v p2.v s0.q s1.q s2.q ∧ I = dJ p (4 * kb + 20 * (2 * s + 1 + kb) + 20) :: I0) := fun c0 c1 M0 I0 e1 e2 e3 e4 a1 a2 a3 a4 => by
    have hh := hMe c0 c1 M0 I0 a1 a2 a3 a4
    rw [e1, e2, e3, e4, hq8, hq9] at hh
    exact hh hd hz
   ((repeat refine aK ?_); refine kD (.blk b9 (eP q9) 47 :: .blk b8 (eP q8) 47 :: M0) (dJ q9 (k + k + 1) :: dJ q8 (k + k + 1) :: bH (some ⟨b3, 0, none⟩) (recs eR [s0, s1, s2]) :: bH (some ⟨b2, 0, none⟩) (recs eP [p0, p1, p2]) :: I1) mixed ?_)
   refine bR (fuel := 10) (listed' := #[true, true, true, true, true, false, true, true, true, true, true, false, false, false, false, false, false, false, false, false]) [0, 1, 2, 3, 4, 6, 7, 8, 9, 10] [3, 4, 3, 4, 3, 3, 4, 3, 4, 3] aF aD (by kernel_rfl) (by kernel_rfl) rfl rfl ?_
   repeat (refine aI ?_)
   refine aM (fuel := 9) (i := 5) (j := 17) (by kernel_rfl) ?_ ?_
   ·(refine aA rfl (hCo q8 s0 s1 _ _ aS aS aS) rfl rfl ?_; rintro _ _ _ ⟨rfl, c0, rfl, ha0, hb0, rfl⟩; refine ⟨okF, ?_⟩)
    refine aJ ?_
    repeat (refine aI ?_)
    refine aM (fuel := 8) (i := 11) (j := 17) (by kernel_rfl) ?_ ?_
    ·(refine aA rfl (hCo q9 s2 s1 _ _ aS aS aS) rfl rfl ?_; rintro _ _ _ ⟨rfl, c1, rfl, ha1, hb1, rfl⟩; refine ⟨okF, ?_⟩)
     refine aJ ?_
     refine bR (fuel := 7) (listed' := #[true, true, true, true, true, true, true, true, true, true, true, true, true, false, false, false, false, false, false, false]) [12] [1] aF aD (by kernel_rfl) (by kernel_rfl) rfl rfl ?_
     repeat (refine aI ?_)
     (refine aH rfl (fun _ => bE (vals := [cv c0, cv c1]) (cells := recs eC [c0, c1]) rfl ?hpl rfl ?hz) rfl rfl ?_; (case hpl => exact (by intro v hv; repeat (first | exact absurd hv (List.not_mem_nil) | (rcases List.mem_cons.1 hv with rfl | hv; · rfl)))); (case hz => rfl))
     repeat (refine aI ?_)
     refine aM (fuel := 6) (i := 13) (j := 17) (by kernel_rfl) ?_ ?_
     ·(refine aA rfl (hMe2 c0 c1 _ _ ha0 hb0 ha1 hb1 aS aS aS aS) rfl rfl ?_; rintro _ _ _ ⟨rfl, q10, rfl, hq10, rfl⟩; refine ⟨okF, ?_⟩)
      refine aJ ?_
      refine aG [14, 15, 16, 17, 18, 19] [1, 1, 2, 0, 0, 0] aF aD (by kernel_rfl) (by kernel_rfl) rfl rfl ?_
      repeat (refine aI ?_)
      (refine aB rfl rfl ?_; intro b10; refine ⟨okF, ?_⟩)
      repeat (refine aI ?_)
      refine bI (φ := dJ q10 K) aS (aQ _ _ _ aO aF aD ⟨b10, q10, hq10, rfl, rfl, rfl⟩)
     ·(refine aB rfl rfl ?_; intro b10; refine ⟨okF, ?_⟩)
      refine aJ ?_
      refine aG [13, 14, 15, 16, 18, 19] [0, 0, 0, 1, 0, 0] aF aD (by kernel_rfl) (by kernel_rfl) rfl rfl ?_
      repeat (refine aI ?_)
      (refine aA rfl (hMe2 c0 c1 _ _ ha0 hb0 ha1 hb1 aS aS aS aS) rfl rfl ?_; rintro _ _ _ ⟨rfl, q10, rfl, hq10, rfl⟩; refine ⟨okF, ?_⟩)
      repeat (refine aI ?_)
      refine bI (φ := dJ q10 K) aS (aQ _ _ _ aO aF aD ⟨b10, q10, hq10, rfl, rfl, rfl⟩)
    ·(refine aB rfl rfl ?_; intro b10; refine ⟨okF, ?_⟩)
     refine aJ ?_
     refine aG [11, 12, 13, 14, 15, 16, 18, 19] [0, 0, 0, 0, 0, 1, 0, 0] aF aD (by kernel_rfl) (by kernel_rfl) rfl rfl ?_
     repeat (refine aI ?_)
     (refine aA rfl (hCo q9 s2 s1 _ _ aS aS aS) rfl rfl ?_; rintro _ _ _ ⟨rfl, c1, rfl, ha1, hb1, rfl⟩; refine ⟨okF, ?_⟩)
     repeat (refine aI ?_)
     (refine aH rfl (fun _ => bE (vals := [cv c0, cv c1]) (cells := recs eC [c0, c1]) rfl ?hpl rfl ?hz) rfl rfl ?_; (case hpl => exact (by intro v hv; repeat (first | exact absurd hv (List.not_mem_nil) | (rcases List.mem_cons.1 hv with rfl | hv; · rfl)))); (case hz => rfl))
     repeat (refine aI ?_)
     (refine aA rfl (hMe2 c0 c1 _ _ ha0 hb0 ha1 hb1 aS aS aS aS) rfl rfl ?_; rintro _ _ _ ⟨rfl, q10, rfl, hq10, rfl⟩; refine ⟨okF, ?_⟩)
     repeat (refine aI ?_)
     refine bI (φ := dJ q10 K) aS (aQ _ _ _ aO aF aD ⟨b10, q10, hq10, rfl, rfl, rfl⟩)
   ·(refine aB rfl rfl ?_; intro b10; refine ⟨okF, ?_⟩)
    refine aJ ?_
    refine aG [5, 11, 12, 13, 14, 15, 16, 18, 19] [0, 0, 0, 0, 0, 0, 1, 0, 0] aF aD (by kernel_rfl) (by kernel_rfl) rfl rfl ?_
    repeat (refine aI ?_)
    (refine aA rfl (hCo q8 s0 s1 _ _ aS aS aS) rfl rfl ?_; rintro _ _ _ ⟨rfl, c0, rfl, ha0, hb0, rfl⟩; refine ⟨okF, ?_⟩)
    repeat (refine aI ?_)
    (refine aA rfl (hCo q9 s2 s1 _ _ aS aS aS) rfl rfl ?_; rintro _ _ _ ⟨rfl, c1, rfl, ha1, hb1, rfl⟩; refine ⟨okF, ?_⟩)
    repeat (refine aI ?_)
    (refine aH rfl (fun _ => bE (vals := [cv c0, cv c1]) (cells := recs eC [c0, c1]) rfl ?hpl rfl ?hz) rfl rfl ?_; (case hpl => exact (by intro v hv; repeat (first | exact absurd hv (List.not_mem_nil) | (rcases List.mem_cons.1 hv with rfl | hv; · rfl)))); (case hz => rfl))
    repeat (refine aI ?_)
    (refine aA rfl (hMe2 c0 c1 _ _ ha0 hb0 ha1 hb1 aS aS aS aS) rfl rfl ?_; rintro _ _ _ ⟨rfl, q10, rfl, hq10, rfl⟩; refine ⟨okF, ?_⟩)
    repeat (refine aI ?_)
    refine bI (φ := dJ q10 K) aS (aQ _ _ _ aO aF aD ⟨b10, q10, hq10, rfl, rfl, rfl⟩)
  ·rintro G M I ⟨b10, q10, hq10, rfl, rfl, rfl⟩
   repeat (refine aI ?_)
   (refine aA rfl (hMc q10 q8 _ _ aS aS) rfl rfl ?_; rintro _ _ _ ⟨rfl, d0, rfl, hd0, rfl⟩; refine ⟨okF, ?_⟩)
   have z0 : ¬ d0.v.z0 := by rw [hd0, hq10, hq8]; exact hn0
   have hZ0 := fun M0 I0 => hZc d0 M0 I0
   rw [aY z0] at hZ0
   repeat (refine aI ?_)
   (refine aA rfl (hZ0 _ _ aS) rfl rfl ?_; rintro _ _ _ ⟨rfl, rfl, rfl⟩; refine ⟨okF, ?_⟩)
   repeat (refine aI ?_)
   (refine aA rfl (hMc q10 q9 _ _ aS aS) rfl rfl ?_; rintro _ _ _ ⟨rfl, d2, rfl, hd2, rfl⟩; refine ⟨okF, ?_⟩)
   have z2 : ¬ d2.v.z0 := by rw [hd2, hq10, hq9]; exact hn2
   have hZ2 := fun M0 I0 => hZc d2 M0 I0
   rw [aY z2] at hZ2
   repeat (refine aI ?_)
   (refine aA rfl (hZ2 _ _ aS) rfl rfl ?_; rintro _ _ _ ⟨rfl, rfl, rfl⟩; refine ⟨okF, ?_⟩)
   repeat (refine aI ?_)
   refine lU (fun G M I => ∃ (b12 : Nat) (q12 : PE), q12.v = q10.v.scl (-1) ∧ G = [(2, .pointer (some ⟨b2, 0, none⟩)), (3, .pointer (some ⟨b3, 0, none⟩)), (4, .pointer (some ⟨b4, 0, none⟩)), (5, .pointer (some ⟨b5, 0, none⟩)), (7, .pointer (some ⟨b7, 0, none⟩)), (10, .pointer (some ⟨b10, 0, none⟩)), (12, .pointer (some ⟨b12, 0, none⟩))] ∧ M = .blk b12 (eP q12) 47 :: .blk b10 (eP q10) 47 :: .blk b7 (eP p1) 47 :: .blk b5 zPc 47 :: .blk b4 zPc 47 :: M0 ∧ I = dJ q12 K :: dJ q10 K :: bH (some ⟨b3, 0, none⟩) (recs eR [s0, s1, s2]) :: bH (some ⟨b2, 0, none⟩) (recs eP [p0, p1, p2]) :: I1) ?_ ?_
   ·have e1 : (((-1 : Int) : Rat)) = -1 := rfl
    ((repeat refine aK ?_); refine kD (.blk b10 (eP q10) 47 :: M0) (dJ q10 K :: bH (some ⟨b3, 0, none⟩) (recs eR [s0, s1, s2]) :: bH (some ⟨b2, 0, none⟩) (recs eP [p0, p1, p2]) :: I1) mixed ?_)
    refine bR (fuel := 4) (listed' := #[true, false, false, false, false]) [0] [2] aF aD (by kernel_rfl) (by kernel_rfl) rfl rfl ?_
    repeat (refine aI ?_)
    refine aM (fuel := 3) (i := 1) (j := 3) (by kernel_rfl) ?_ ?_
    ·(refine aA rfl (hW _ _) rfl rfl ?_; rintro _ _ _ ⟨rfl, e12, rfl, he12, rfl⟩; refine ⟨okF, ?_⟩)
     refine aJ ?_
     repeat (refine aI ?_)
     refine aM (fuel := 2) (i := 2) (j := 3) (by kernel_rfl) ?_ ?_
     ·(refine aA rfl (hSt q10 e12 _ _ aS aS) rfl rfl ?_; rintro _ _ _ ⟨rfl, q12, rfl, hq12, rfl⟩; refine ⟨okF, ?_⟩)
      refine aJ ?_
      refine aG [3, 4] [0, 0] aF aD (by kernel_rfl) (by kernel_rfl) rfl rfl ?_
      repeat (refine aI ?_)
      (refine aB rfl rfl ?_; intro b12; refine ⟨okF, ?_⟩)
      repeat (refine aI ?_)
      refine bI (φ := dJ q12 K) aS (aQ _ _ _ aO aF aD ⟨b12, q12, by rw [hq12, he12, e1], rfl, rfl, rfl⟩)
     ·(refine aB rfl rfl ?_; intro b12; refine ⟨okF, ?_⟩)
      refine aJ ?_
      refine aG [2, 4] [0, 0] aF aD (by kernel_rfl) (by kernel_rfl) rfl rfl ?_
      repeat (refine aI ?_)
      (refine aA rfl (hSt q10 e12 _ _ aS aS) rfl rfl ?_; rintro _ _ _ ⟨rfl, q12, rfl, hq12, rfl⟩; refine ⟨okF, ?_⟩)
      repeat (refine aI ?_)
      refine bI (φ := dJ q12 K) aS (aQ _ _ _ aO aF aD ⟨b12, q12, by rw [hq12, he12, e1], rfl, rfl, rfl⟩)
    ·(refine aB rfl rfl ?_; intro b12; refine ⟨okF, ?_⟩)
     refine aJ ?_
     refine aG [1, 2, 4] [0, 0, 0] aF aD (by kernel_rfl) (by kernel_rfl) rfl rfl ?_
     repeat (refine aI ?_)
     (refine aA rfl (hW _ _) rfl rfl ?_; rintro _ _ _ ⟨rfl, e12, rfl, he12, rfl⟩; refine ⟨okF, ?_⟩)
     repeat (refine aI ?_)
     (refine aA rfl (hSt q10 e12 _ _ aS aS) rfl rfl ?_; rintro _ _ _ ⟨rfl, q12, rfl, hq12, rfl⟩; refine ⟨okF, ?_⟩)
     repeat (refine aI ?_)
     refine bI (φ := dJ q12 K) aS (aQ _ _ _ aO aF aD ⟨b12, q12, by rw [hq12, he12, e1], rfl, rfl, rfl⟩)
   ·rintro G M I ⟨b12, q12, hq12, rfl, rfl, rfl⟩
    refine aK ?_
    (repeat refine aK ?_); refine dI (.blk b12 (eP q12) 47 :: M0) (dJ q12 K :: dJ q10 K :: bH (some ⟨b3, 0, none⟩) (recs eR [s0, s1, s2]) :: bH (some ⟨b2, 0, none⟩) (recs eP [p0, p1, p2]) :: I1) [0, 1, 3, 4, 2, 5, 6, 7] [2, 2, 3, 2, 0, 0, 0, 0] aF aD mixed (by kernel_rfl) ?_
    repeat (refine aI ?_)
    (refine aA rfl (hSd q12 _ _ aS) rfl rfl ?_; rintro _ _ _ ⟨rfl, q13, rfl, hq13, rfl⟩; refine ⟨okF, ?_⟩)
    repeat (refine aI ?_)
    (refine aA rfl (hSs q13 _ _ aS aS) rfl rfl ?_; rintro _ _ _ ⟨rfl, q14, rfl, hq14, rfl⟩; refine ⟨okF, ?_⟩)
    repeat (refine aI ?_)
    (refine aA rfl (hMf q12 q14 _ _ aS aS) rfl rfl ?_; rintro _ _ _ ⟨rfl, fw, rfl, hfw, rfl⟩; refine ⟨okF, ?_⟩)
    repeat (refine aI ?_)
    (refine aA rfl (hPl p1 q10 _ _ aS aS) rfl rfl ?_; rintro _ _ _ ⟨rfl, at', rfl, hat, rfl⟩; refine ⟨okF, ?_⟩)
    repeat (refine aI ?_)
    have efw : fw.v = plF p0.v p1.v p2.v s0.q s1.q s2.q := by rw [hfw, hq14, hq13, hq12, hq10]; rfl
    have eat : at'.v = plA p0.v p1.v p2.v s0.q s1.q s2.q := by rw [hat, hq10]; rfl
    rw [← efw, ← eat] at hf
    rw [← efw] at hf0
    have hpt : ∀ (i : Nat), i < 3 → ∀ I, rW [p0, p1, p2] k ∈ I → Hv I (dJ (gt [p0, p1, p2] (i : Int)) (2 * K + s + k + 1)) := fun i hi I h => ((Hv.mem h).pAt (bN (by simp; omega))).monoP (by omega)
    have hSt2 : ∀ (i : Nat), i < 3 → ∀ M0 I0, Hv I0 (dJ at' (2 * K + s + k + 1)) → Hv I0 (dJ fw (2 * K + s + k + 1)) → rW [p0, p1, p2] k ∈ I0 → CD Tryz.prog 65 [pv at', pv fw, pv (gt [p0, p1, p2] (i : Int))] X w0 M0 I0 (fun v M I => M0 = M ∧ ∃ e : RE, v = .tuple #[rv e, .bool true, .int .i64 0] ∧ I = bP e (12 * (2 * K + s + k + 1) + 6) :: I0) := fun i hi M0 I0 h1 h2 h3 => by
     have hpos := hf _ (bN (ms := [p0, p1, p2]) (i := (i : Int)) (by simp; omega))
     have hh := hSl at' fw (gt [p0, p1, p2] (i : Int)) M0 I0 h1 h2 (hpt i hi I0 h3) hf0 (by intro e; rw [e] at hpos; exact absurd hpos (by decide))
     rw [bS hpos] at hh
     refine hh.mono ?_
     rintro v M I ⟨a1, e, a2, a3, a4⟩
     exact ⟨a1, e, a2, a4⟩
    clear hV hVc hMi hCo hMe hMc hZc hW hSt hSd hSs hMf hPl hSl hZ0 hZ2
    refine dC (φ := dJ fw (2 * K + s + 1)) aS (dC (φ := dJ at' (2 * K + s + k + 1)) aS (dC (φ := dJ fw (2 * K + s + k + 1)) aS ?_))
    obtain ⟨kk, hkk⟩ : ∃ kk, kk = 2 * K + s + k + 1 := ⟨_, rfl⟩
    obtain ⟨ka, hka⟩ : ∃ ka, ka = k + K + 1 := ⟨_, rfl⟩
    obtain ⟨kf, hkf⟩ : ∃ kf, kf = 2 * K + s + 1 := ⟨_, rfl⟩
    rw [← hkk] at hSt2 ⊢
    rw [← hka, ← hkf]
    refine aV [4, 5, 84] rfl (fun k G M I => ∃ i : Nat, i ≤ 3 ∧ k = 3 - i ∧ G = [(85, .int .i64 i)] ∧ M = .blk b5 (eP fw) 47 :: .blk b4 (eP at') 47 :: M0 ∧ I = dJ fw kk :: dJ at' kk :: dJ at' ka :: dJ fw kf :: I1) (3) _ _ _ aO aF aD (⟨0, by omega, rfl, rfl, rfl, rfl⟩) ?_
    rintro k' G M I ⟨i, hi, rfl, rfl, rfl, rfl⟩
    by_cases hin : i < 3
    ·have hSi := hSt2 i hin
     repeat (refine aI ?_)
     refine aH rfl (fun _ => aCK (vs := eP (gt [p0, p1, p2] (i : Int))) rfl rfl (by omega) (aJF (by simp; omega))) rfl rfl ?_
     (refine aB rfl rfl ?_; intro b14; refine ⟨okF, ?_⟩)
     repeat (refine aI ?_)
     (refine aA rfl (hSi _ _ aS aS aC) rfl rfl ?_; rintro _ _ _ ⟨rfl, e15, rfl, rfl⟩; refine ⟨okF, ?_⟩)
     repeat (refine aI ?_)
     (refine aB rfl rfl ?_; intro b15; refine ⟨okF, ?_⟩)
     repeat (refine aI ?_)
     refine aP (3 - (i + 1)) _ _ _ (by first | omega | (simp only [List.length_append, List.length_cons, List.length_nil]; omega)) aO aF aD (⟨i + 1, by omega, rfl, rfl, rfl, rfl⟩)
    ·repeat (refine aI ?_)
     (repeat refine aK ?_); refine dI (.blk b5 (eP fw) 47 :: .blk b4 (eP at') 47 :: M0) (dJ fw kk :: dJ at' kk :: dJ at' ka :: dJ fw kf :: I1) [0, 1, 2, 3, 4] [0, 1, 0, 0, 0] aF aD mixed (by kernel_rfl) ?_
     repeat (refine aI ?_)
     refine kI (rs := [.cell 4 47, .cell 5 47, .tmp 6]) (vs := [pv at', pv fw, .int .i64 0]) (.inl rfl) rfl (.cellN (cs := eP at') inferInstance rfl aC rfl (.cellN (cs := eP fw) inferInstance rfl aC rfl (.tmp rfl .nil))) rfl M0 (dJ fw kf :: dJ at' ka :: I0) aF (Inc.cons aC (Inc.cons aC (.of (fun φ hp => List.mem_cons_of_mem _ (List.mem_cons_of_mem _ (List.mem_cons_of_mem _ (List.mem_cons_of_mem _ (f9.mem φ hp)))))))) ⟨rfl, at', fw, rfl, eat, efw, rfl⟩
end
end Go.Proofs.YtgeagiikkeiioaaGreat
