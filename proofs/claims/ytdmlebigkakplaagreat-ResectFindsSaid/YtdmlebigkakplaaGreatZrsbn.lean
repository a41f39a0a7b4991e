/- The law's second solution (chapter 30): axis, the curve through two sights, position where there is not exactly one. -/
import Derived.Test.YtdmlebigkakplaaGreatZrsbm
import Derived.Test.YtdmlebigkakplaaGreatZrsbg
set_option linter.unusedSimpArgs false
set_option linter.unusedVariables false
namespace Go.Proofs.YtdmlebigkakplaaGreat
open Go Go.Fx
def axV (c p : V2) (t : Rat) : V2 := ⟨(p.sub c).x - t * (p.sub c).y, (p.sub c).y + t * (p.sub c).x⟩
def cuF (q : V2) (t s : Rat) (c : V2) : Rat := (axV c q t).crs (axV c ⟨0, 0⟩ s)
theorem cu_a (q : V2) (t s : Rat) : 1 / 2 * (cuF q t s ⟨1, 0⟩ + cuF q t s ⟨-1, 0⟩) = -(cnA t s) := by
  simp only [cuF, axV, V2.crs, V2.sub, cnA]; grind
theorem cu_x (q : V2) (t s : Rat) : 1 / 2 * (cuF q t s ⟨1, 0⟩ - cuF q t s ⟨-1, 0⟩) = -((cnB q t s).x) := by
  simp only [cuF, axV, V2.crs, V2.sub, cnB, V2.scl, V2.sd]; grind
theorem cu_y (q : V2) (t s : Rat) : cuF q t s ⟨0, 1⟩ - -(cnA t s) = -((cnB q t s).y) := by
  simp only [cuF, axV, V2.crs, V2.sub, cnA, cnB, V2.scl, V2.sd]; grind
theorem cast0 : (((0 : Int) : Rat)) = 0 := rfl
theorem cast1 : (((1 : Int) : Rat)) = 1 := rfl
theorem castN1 : (((-1 : Int) : Rat)) = -1 := rfl
theorem cast2 : (((2 : Int) : Rat)) = 2 := rfl
section
variable {X : List Nat} {w0 : World} {M0 : List Ent} {I0 : List Imm}
set_option maxRecDepth 100000 in
set_option maxHeartbeats 1000000 in
theorem gAxis_ok {c p : PE} {t : RE} {k s : Nat} (hk : 4 * k + s + 10 ≤ 50000000) (hc : Hv I0 (isP c k)) (hp : Hv I0 (isP p k)) (ht : Hv I0 (isR t s)) :
    CD Tryz.prog 119 [pv c, pv p, rv t] X w0 M0 I0 (PQ (axV c.v p.v t.q) (4 * k + s + 3) M0 I0) := by
  have hMi := fun M0 I0 => gMinus_ok (X := X) (w0 := w0) (M0 := M0) (I0 := I0) (a := p) (b := c) (k := k) (m := k) (by omega)
  have hMu := fun e M0 I0 => gMul_ok (X := X) (w0 := w0) (M0 := M0) (I0 := I0) (a := t) (b := e) (k := s) (m := k + k + 1) (by omega)
  have hSu := fun a b M0 I0 => gSub_ok (X := X) (w0 := w0) (M0 := M0) (I0 := I0) (a := a) (b := b) (k := k + k + 1) (m := s + (k + k + 1)) (by omega)
  have hAd := fun a b M0 I0 => gAdd_ok (X := X) (w0 := w0) (M0 := M0) (I0 := I0) (a := a) (b := b) (k := k + k + 1) (m := s + (k + k + 1)) (by omega)
  refine CD_hv hc (CD_hv hp.cons (CD_hv ht.cons.cons ?_))
  refine enterD3 Tryz.func119 rfl Tryz.ntmps119 rfl ?_
  refine TD_seq ?_
  refine TD_region ?_
  (refine RD_boxA rfl rfl rfl ?_; intro b3; refine ⟨okF, ?_⟩)
  (refine RD_boxA rfl rfl rfl ?_; intro b4; refine ⟨okF, ?_⟩)
  (refine RD_boxA rfl rfl rfl ?_; intro b5; refine ⟨okF, ?_⟩)
  (refine RD_alloc rfl rfl ?_; intro b6; refine ⟨okF, ?_⟩)
  repeat (refine wXh ?_)
  (refine RD_callS rfl (hMi _ _ hvY hvY) rfl rfl ?_; rintro _ _ _ ⟨rfl, d, rfl, hd, rfl⟩; refine ⟨okF, ?_⟩)
  (refine RD_alloc rfl rfl ?_; intro b7; refine ⟨okF, ?_⟩)
  repeat (refine wXh ?_)
  (repeat refine TD_seq ?_); refine TD_drawnW (.blk b7 (eP d) 28 :: .blk b5 (eR t) 26 :: M0) (isP d (k + k + 1) :: isR t s :: isP p k :: isP c k :: I0) [0, 1, 2, 3, 4, 7, 8, 9, 10, 11, 5, 6, 12, 13, 14, 15] [4, 3, 3, 4, 3, 4, 3, 3, 4, 3, 0, 0, 0, 0, 0, 0] subF incF mixed (by kernel_rfl) ?_
  repeat (refine wXh ?_)
  (refine RD_callS rfl (hMu d.y _ _ hvY hvY) rfl rfl ?_; rintro _ _ _ ⟨rfl, e1, rfl, he1, rfl⟩; refine ⟨okF, ?_⟩)
  repeat (refine wXh ?_)
  (refine RD_callS rfl (hSu d.x e1 _ _ hvY hvY) rfl rfl ?_; rintro _ _ _ ⟨rfl, e2, rfl, he2, rfl⟩; refine ⟨okF, ?_⟩)
  repeat (refine wXh ?_)
  (refine RD_callS rfl (hMu d.x _ _ hvY hvY) rfl rfl ?_; rintro _ _ _ ⟨rfl, e3, rfl, he3, rfl⟩; refine ⟨okF, ?_⟩)
  repeat (refine wXh ?_)
  (refine RD_callS rfl (hAd d.y e3 _ _ hvY hvY) rfl rfl ?_; rintro _ _ _ ⟨rfl, e4, rfl, he4, rfl⟩; refine ⟨okF, ?_⟩)
  repeat (refine wXh ?_)
  (refine RD_c rfl (fun _ => Const_structC (vals := [rv e2, rv e4]) (cells := eP ⟨e2, e4⟩) rfl ?hpl rfl ?hz) rfl rfl ?_; (case hpl => repeat (first | exact True.intro | refine ⟨rfl, ?_⟩)); (case hz => rfl))
  repeat (refine wXh ?_)
  have hx : d.x.q = (p.v.sub c.v).x := by rw [← hd]; rfl
  have hy : d.y.q = (p.v.sub c.v).y := by rw [← hd]; rfl
  refine ND_closeP (a := e2) (b := e4) (k := 4 * k + s + 3) hvY hvY ?_
  refine ND_retC (cs := eP ⟨e2, e4⟩) (.inl rfl) rfl rfl memF rfl M0 (isP ⟨e2, e4⟩ (4 * k + s + 3) :: I0) subF incF ⟨rfl, ⟨e2, e4⟩, rfl, by simp only [PE.v, axV, he2, he4, he1, he3, hx, hy], rfl⟩
set_option maxRecDepth 100000 in
set_option maxHeartbeats 1000000 in
theorem gAt_ok {q : PE} {t s0 s1 s2 : RE} {x y : Int} {k s b8 b5 b3 : Nat} (hk : 40 * k + 10 * s + 100 ≤ 50000000) (hx : x.natAbs ≤ 1) (hy : y.natAbs ≤ 1) (m8 : slI (some ⟨b8, 0, none⟩) (eP q) ∈ I0) (m5 : slI (some ⟨b5, 0, none⟩) (eR t) ∈ I0) (m3 : slI (some ⟨b3, 0, none⟩) (recs eR [s0, s1, s2]) ∈ I0) (hq : isP q k ∈ I0) (ht : isR t s ∈ I0) (h1 : isR s1 s ∈ I0) :
    CD Tryz.prog 118 [.int .i64 x, .int .i64 y, .pointer (some ⟨b8, 0, none⟩), .pointer (some ⟨b5, 0, none⟩), .pointer (some ⟨b3, 0, none⟩)] X w0 M0 I0 (RQ (cuF q.v t.q s1.q ⟨(x : Rat), (y : Rat)⟩) (16 * k + 4 * s + 13) M0 I0) := by
  have hRx := fun M0 I0 => gRat_ok (X := X) (w0 := w0) (M0 := M0) (I0 := I0) (x := x) (by omega) (k := 0) hx
  have hRy := fun M0 I0 => gRat_ok (X := X) (w0 := w0) (M0 := M0) (I0 := I0) (x := y) (by omega) (k := 0) hy
  have hR0 := fun M0 I0 => gRat_ok (X := X) (w0 := w0) (M0 := M0) (I0 := I0) (x := 0) (by decide) (k := 0) (by decide)
  have hAx := fun c p e M0 I0 => gAxis_ok (X := X) (w0 := w0) (M0 := M0) (I0 := I0) (c := c) (p := p) (t := e) (k := k) (s := s) (by omega)
  have hCr := fun a b M0 I0 => gCross_ok (X := X) (w0 := w0) (M0 := M0) (I0 := I0) (a := a) (b := b) (k := 4 * k + s + 3) (m := 4 * k + s + 3) (by omega)
  refine enterD5 Tryz.func118 rfl Tryz.ntmps118 rfl ?_
  refine TD_seq ?_
  refine TD_region ?_
  (refine RD_alloc rfl rfl ?_; intro b7; refine ⟨okF, ?_⟩)
  repeat (refine wXh ?_)
  (refine RD_callS rfl (hRx _ _) rfl rfl ?_; rintro _ _ _ ⟨rfl, e1, rfl, he1, rfl⟩; refine ⟨okF, ?_⟩)
  repeat (refine wXh ?_)
  (refine RD_callS rfl (hRy _ _) rfl rfl ?_; rintro _ _ _ ⟨rfl, e2, rfl, he2, rfl⟩; refine ⟨okF, ?_⟩)
  repeat (refine wXh ?_)
  (refine RD_c rfl (fun _ => Const_structC (vals := [rv e1, rv e2]) (cells := eP ⟨e1, e2⟩) rfl ?hpl rfl ?hz) rfl rfl ?_; (case hpl => repeat (first | exact True.intro | refine ⟨rfl, ?_⟩)); (case hz => rfl))
  (refine RD_alloc rfl rfl ?_; intro b9; refine ⟨okF, ?_⟩)
  repeat (refine wXh ?_)
  refine TD_hv (φ := isP ⟨e1, e2⟩ k) (Hv.mkP hvY hvY) ?_
  have hc : PE.v ⟨e1, e2⟩ = ⟨(x : Rat), (y : Rat)⟩ := by simp only [PE.v, he1, he2]
  generalize hcc : PE.mk e1 e2 = c at *
  (repeat refine TD_seq ?_); refine TD_drawnW (.blk b9 (eP c) 28 :: M0) (isP c k :: I0) [0, 1, 2, 4, 8, 9, 3, 5, 6, 7, 10, 11, 12] [4, 4, 4, 4, 5, 4, 0, 0, 0, 1, 0, 0, 0] subF incF mixed (by kernel_rfl) ?_
  repeat (refine wXh ?_)
  (refine RD_callS rfl (hAx c q t _ _ hvY hvY hvY) rfl rfl ?_; rintro _ _ _ ⟨rfl, a1, rfl, ha1, rfl⟩; refine ⟨okF, ?_⟩)
  repeat (refine wXh ?_)
  (refine RD_callS rfl (hR0 _ _) rfl rfl ?_; rintro _ _ _ ⟨rfl, e3, rfl, he3, rfl⟩; refine ⟨okF, ?_⟩)
  (refine RD_callS rfl (hR0 _ _) rfl rfl ?_; rintro _ _ _ ⟨rfl, e4, rfl, he4, rfl⟩; refine ⟨okF, ?_⟩)
  repeat (refine wXh ?_)
  (refine RD_c rfl (fun _ => Const_structC (vals := [rv e3, rv e4]) (cells := eP ⟨e3, e4⟩) rfl ?hpl rfl ?hz) rfl rfl ?_; (case hpl => repeat (first | exact True.intro | refine ⟨rfl, ?_⟩)); (case hz => rfl))
  repeat (refine wXh ?_)
  refine RD_hv (φ := isP ⟨e3, e4⟩ k) (Hv.mkP hvY hvY) ?_
  have hz : PE.v ⟨e3, e4⟩ = ⟨0, 0⟩ := by simp only [PE.v, he3, he4, cast0]
  (refine RD_callS rfl (hAx c ⟨e3, e4⟩ s1 _ _ hvY hvY hvY) rfl rfl ?_; rintro _ _ _ ⟨rfl, a2, rfl, ha2, rfl⟩; refine ⟨okF, ?_⟩)
  repeat (refine wXh ?_)
  (refine RD_callS rfl (hCr a1 a2 _ _ hvY hvY) rfl rfl ?_; rintro _ _ _ ⟨rfl, e5, rfl, he5, rfl⟩; refine ⟨okF, ?_⟩)
  repeat (refine wXh ?_)
  refine ND_hv (φ := isR e5 (16 * k + 4 * s + 13)) hvY ?_
  refine ND_retC (cs := eR e5) (.inl rfl) rfl rfl memF rfl M0 (isR e5 (16 * k + 4 * s + 13) :: I0) subF incF ⟨rfl, e5, rfl, by rw [he5, ha1, ha2, hz, hc]; rfl, rfl⟩
set_option maxRecDepth 100000 in
set_option maxHeartbeats 2000000 in
theorem gCurve_ok {p og : PE} {t s0 s1 s2 : RE} {k s b7 b3 : Nat} (hk : 400 * k + 100 * s + 1000 ≤ 50000000) (m7 : slI (some ⟨b7, 0, none⟩) (eP og) ∈ I0) (m3 : slI (some ⟨b3, 0, none⟩) (recs eR [s0, s1, s2]) ∈ I0) (ho : isP og k ∈ I0) (hp : isP p k ∈ I0) (ht : isR t s ∈ I0) (h1 : isR s1 s ∈ I0) :
    CD Tryz.prog 117 [pv p, rv t, .pointer (some ⟨b7, 0, none⟩), .pointer (some ⟨b3, 0, none⟩)] X w0 M0 I0 (fun v M I => M0 = M ∧ ∃ (a : RE) (b : PE), v = .tuple #[rv a, pv b] ∧ a.q = -(cnA t.q s1.q) ∧ b.v = ⟨-((cnB (p.v.sub og.v) t.q s1.q).x), -((cnB (p.v.sub og.v) t.q s1.q).y)⟩ ∧ I = isP b (200 * k + 20 * s + 200) :: isR a (200 * k + 20 * s + 200) :: I0) := by
  have hMi := fun M0 I0 => gMinus_ok (X := X) (w0 := w0) (M0 := M0) (I0 := I0) (a := p) (b := og) (k := k) (m := k) (by omega)
  have hR1 := fun M0 I0 => gRat_ok (X := X) (w0 := w0) (M0 := M0) (I0 := I0) (x := 1) (by decide) (k := 0) (by decide)
  have hR2 := fun M0 I0 => gRat_ok (X := X) (w0 := w0) (M0 := M0) (I0 := I0) (x := 2) (by decide) (k := 2) (by decide)
  have hDv := fun a b M0 I0 (hb : b.q ≠ 0) => gDiv_ok (X := X) (w0 := w0) (M0 := M0) (I0 := I0) (a := a) (b := b) (k := 0) (m := 2) (by omega) hb
  have hAt := fun q b8 b5 (x y : Int) (hx : x.natAbs ≤ 1) (hy : y.natAbs ≤ 1) M0 I0 m8 m5 m3 hq ht h1 => gAt_ok (X := X) (w0 := w0) (M0 := M0) (I0 := I0) (q := q) (t := t) (s0 := s0) (s1 := s1) (s2 := s2) (b8 := b8) (b5 := b5) (b3 := b3) (k := k + k + 1) (s := s) (by omega) hx hy m8 m5 m3 hq ht h1
  obtain ⟨F, hF⟩ : ∃ F, F = 16 * (k + k + 1) + 4 * s + 13 := ⟨_, rfl⟩
  rw [← hF] at hAt
  have hAd := fun a b M0 I0 => gAdd_ok (X := X) (w0 := w0) (M0 := M0) (I0 := I0) (a := a) (b := b) (k := F) (m := F) (by omega)
  have hSu := fun a b M0 I0 => gSub_ok (X := X) (w0 := w0) (M0 := M0) (I0 := I0) (a := a) (b := b) (k := F) (m := F) (by omega)
  have hMu := fun a b M0 I0 => gMul_ok (X := X) (w0 := w0) (M0 := M0) (I0 := I0) (a := a) (b := b) (k := 0 + 2) (m := F + F + 1) (by omega)
  have hSw := fun a b M0 I0 => gSub_ok (X := X) (w0 := w0) (M0 := M0) (I0 := I0) (a := a) (b := b) (k := F) (m := 0 + 2 + (F + F + 1)) (by omega)
  refine enterD4 Tryz.func117 rfl Tryz.ntmps117 rfl ?_
  refine TD_seq ?_
  refine TD_region ?_
  (refine RD_boxA rfl rfl rfl ?_; intro b4; refine ⟨okF, ?_⟩)
  (refine RD_boxA rfl rfl rfl ?_; intro b5; refine ⟨okF, ?_⟩)
  (refine RD_alloc rfl rfl ?_; intro b6; refine ⟨okF, ?_⟩)
  (refine RD_alloc rfl rfl ?_; intro b7'; refine ⟨okF, ?_⟩)
  refine RD_freezeB (b := b5) remF ?_
  repeat (refine wXh ?_)
  (refine RD_callS rfl (hMi _ _ hvY hvY) rfl rfl ?_; rintro _ _ _ ⟨rfl, q, rfl, hq, rfl⟩; refine ⟨okF, ?_⟩)
  (refine RD_alloc rfl rfl ?_; intro b8; refine ⟨okF, ?_⟩)
  repeat (refine wXh ?_)
  refine RD_freezeB (b := b8) remF ?_
  (refine RD_callS rfl (hR1 _ _) rfl rfl ?_; rintro _ _ _ ⟨rfl, e1, rfl, he1, rfl⟩; refine ⟨okF, ?_⟩)
  (refine RD_callS rfl (hR2 _ _) rfl rfl ?_; rintro _ _ _ ⟨rfl, e2, rfl, he2, rfl⟩; refine ⟨okF, ?_⟩)
  (refine RD_callS rfl (hDv e1 e2 _ _ (by rw [he2, cast2]; decide) hvY hvY) rfl rfl ?_; rintro _ _ _ ⟨rfl, e10, rfl, he10, rfl⟩; refine ⟨okF, ?_⟩)
  (refine RD_alloc rfl rfl ?_; intro b10; refine ⟨okF, ?_⟩)
  repeat (refine wXh ?_)
  (refine RD_callVS rfl rfl (hAt q b8 b5 1 0 (by decide) (by decide) _ _ memF memF memF memF memF memF) rfl rfl rfl ?_; rintro _ _ _ ⟨rfl, u, rfl, hu, rfl⟩; refine ⟨okF, ?_⟩)
  repeat (refine wXh ?_)
  (refine RD_callVS rfl rfl (hAt q b8 b5 (-1) 0 (by decide) (by decide) _ _ memF memF memF memF memF memF) rfl rfl rfl ?_; rintro _ _ _ ⟨rfl, v, rfl, hv, rfl⟩; refine ⟨okF, ?_⟩)
  repeat (refine wXh ?_)
  (refine RD_callVS rfl rfl (hAt q b8 b5 0 1 (by decide) (by decide) _ _ memF memF memF memF memF memF) rfl rfl rfl ?_; rintro _ _ _ ⟨rfl, w, rfl, hw, rfl⟩; refine ⟨okF, ?_⟩)
  (refine RD_alloc rfl rfl ?_; intro b11; refine ⟨okF, ?_⟩)
  (refine RD_alloc rfl rfl ?_; intro b12; refine ⟨okF, ?_⟩)
  (refine RD_alloc rfl rfl ?_; intro b13; refine ⟨okF, ?_⟩)
  repeat (refine wXh ?_)
  have eu : u.q = cuF q.v t.q s1.q ⟨1, 0⟩ := hu
  have ev : v.q = cuF q.v t.q s1.q ⟨-1, 0⟩ := hv
  have ew : w.q = cuF q.v t.q s1.q ⟨0, 1⟩ := hw
  have e10q : e10.q = 1 / 2 := by rw [he10, he1, he2]; rfl
  clear hu hv hw he10 hAt hDv hR1 hR2 hMi
  refine TD_cutT (fun G M I => ∃ (b14 : Nat) (a : RE), a.q = -(cnA t.q s1.q) ∧ G = [(6, .pointer (some ⟨b6, 0, none⟩)), (7, .pointer (some ⟨b7', 0, none⟩)), (10, .pointer (some ⟨b10, 0, none⟩)), (11, .pointer (some ⟨b11, 0, none⟩)), (12, .pointer (some ⟨b12, 0, none⟩)), (13, .pointer (some ⟨b13, 0, none⟩)), (14, .pointer (some ⟨b14, 0, none⟩))] ∧ M = .blk b14 (eR a) 26 :: .blk b13 (eR w) 26 :: .blk b12 (eR v) 26 :: .blk b11 (eR u) 26 :: .blk b10 (eR e10) 26 :: .blk b7' zPc 28 :: .blk b6 zRc 26 :: M0 ∧ I = isR a (0 + 2 + (F + F + 1)) :: isR w F :: isR v F :: isR u F :: isR e10 (0 + 2) :: I0) ?_ ?_
  · ((repeat refine TD_seq ?_); refine TD_rest (.blk b12 (eR v) 26 :: .blk b11 (eR u) 26 :: .blk b10 (eR e10) 26 :: M0) (isR w F :: isR v F :: isR u F :: isR e10 (0 + 2) :: I0) mixed ?_)
    refine ND_restPre (fuel := 4) (listed' := #[true, true, true, false, false, false, false]) [0, 1, 2] [2, 2, 2] subF incF (by kernel_rfl) (by kernel_rfl) rfl rfl ?_
    repeat (refine wXh ?_)
    refine ND_restFork (fuel := 3) (i := 3) (j := 5) (by kernel_rfl) ?_ ?_
    · (refine RD_callS rfl (hAd u v _ _ hvY hvY) rfl rfl ?_; rintro _ _ _ ⟨rfl, e3, rfl, he3, rfl⟩; refine ⟨okF, ?_⟩)
      refine RD_nil ?_
      repeat (refine wXh ?_)
      refine ND_restFork (fuel := 2) (i := 4) (j := 5) (by kernel_rfl) ?_ ?_
      · (refine RD_callS rfl (hMu e10 e3 _ _ hvY hvY) rfl rfl ?_; rintro _ _ _ ⟨rfl, a, rfl, ha, rfl⟩; refine ⟨okF, ?_⟩)
        refine RD_nil ?_
        refine ND_restEnd [5, 6] [0, 0] subF incF (by kernel_rfl) (by kernel_rfl) rfl rfl ?_
        repeat (refine wXh ?_)
        (refine RD_alloc rfl rfl ?_; intro b14; refine ⟨okF, ?_⟩)
        repeat (refine wXh ?_)
        refine ND_cut _ _ _ subG subF incF ⟨b14, a, by rw [ha, he3, eu, ev, e10q, cu_a], rfl, rfl, rfl⟩
      · (refine RD_alloc rfl rfl ?_; intro b14; refine ⟨okF, ?_⟩)
        refine RD_nil ?_
        refine ND_restEnd [4, 6] [0, 0] subF incF (by kernel_rfl) (by kernel_rfl) rfl rfl ?_
        repeat (refine wXh ?_)
        (refine RD_callS rfl (hMu e10 e3 _ _ hvY hvY) rfl rfl ?_; rintro _ _ _ ⟨rfl, a, rfl, ha, rfl⟩; refine ⟨okF, ?_⟩)
        repeat (refine wXh ?_)
        refine ND_cut _ _ _ subG subF incF ⟨b14, a, by rw [ha, he3, eu, ev, e10q, cu_a], rfl, rfl, rfl⟩
    · (refine RD_alloc rfl rfl ?_; intro b14; refine ⟨okF, ?_⟩)
      refine RD_nil ?_
      refine ND_restEnd [3, 4, 6] [0, 0, 0] subF incF (by kernel_rfl) (by kernel_rfl) rfl rfl ?_
      repeat (refine wXh ?_)
      (refine RD_callS rfl (hAd u v _ _ hvY hvY) rfl rfl ?_; rintro _ _ _ ⟨rfl, e3, rfl, he3, rfl⟩; refine ⟨okF, ?_⟩)
      repeat (refine wXh ?_)
      (refine RD_callS rfl (hMu e10 e3 _ _ hvY hvY) rfl rfl ?_; rintro _ _ _ ⟨rfl, a, rfl, ha, rfl⟩; refine ⟨okF, ?_⟩)
      repeat (refine wXh ?_)
      refine ND_cut _ _ _ subG subF incF ⟨b14, a, by rw [ha, he3, eu, ev, e10q, cu_a], rfl, rfl, rfl⟩
  · rintro G M I ⟨b14, a, ha, rfl, rfl, rfl⟩
    refine TD_seq ?_
    (repeat refine TD_seq ?_); refine TD_drawnW (.blk b14 (eR a) 26 :: .blk b13 (eR w) 26 :: .blk b12 (eR v) 26 :: .blk b11 (eR u) 26 :: .blk b10 (eR e10) 26 :: M0) (isR a (0 + 2 + (F + F + 1)) :: isR w F :: isR v F :: isR u F :: isR e10 (0 + 2) :: I0) [0, 1, 2, 3, 6, 7, 4, 5, 8, 9, 10, 11] [3, 3, 3, 3, 3, 3, 0, 0, 0, 1, 0, 0] subF incF mixed (by kernel_rfl) ?_
    repeat (refine wXh ?_)
    (refine RD_callS rfl (hSu u v _ _ hvY hvY) rfl rfl ?_; rintro _ _ _ ⟨rfl, e3, rfl, he3, rfl⟩; refine ⟨okF, ?_⟩)
    repeat (refine wXh ?_)
    (refine RD_callS rfl (hMu e10 e3 _ _ hvY hvY) rfl rfl ?_; rintro _ _ _ ⟨rfl, e4, rfl, he4, rfl⟩; refine ⟨okF, ?_⟩)
    repeat (refine wXh ?_)
    (refine RD_callS rfl (hSw w a _ _ hvY hvY) rfl rfl ?_; rintro _ _ _ ⟨rfl, e5, rfl, he5, rfl⟩; refine ⟨okF, ?_⟩)
    repeat (refine wXh ?_)
    (refine RD_c rfl (fun _ => Const_structC (vals := [rv e4, rv e5]) (cells := eP ⟨e4, e5⟩) rfl ?hpl rfl ?hz) rfl rfl ?_; (case hpl => repeat (first | exact True.intro | refine ⟨rfl, ?_⟩)); (case hz => rfl))
    repeat (refine wXh ?_)
    refine ND_closeP (a := e4) (b := e5) (k := 200 * k + 20 * s + 200) hvY hvY (ND_hv (φ := isR a (200 * k + 20 * s + 200)) hvY ?_)
    refine ND_retsC (rs := [.cell 6 26, .cell 7 28]) (vs := [rv a, pv ⟨e4, e5⟩]) (.inl rfl) rfl (.cellN (cs := eR a) inferInstance rfl memF rfl (.cellN (cs := eP ⟨e4, e5⟩) inferInstance rfl memF rfl .nil)) rfl M0 (isP ⟨e4, e5⟩ (200 * k + 20 * s + 200) :: isR a (200 * k + 20 * s + 200) :: I0) subF incF ⟨rfl, a, ⟨e4, e5⟩, rfl, ha, ?_, rfl⟩
    show (⟨e4.q, e5.q⟩ : V2) = _
    rw [he4, he5, he3, e10q, eu, ev, ew, ha, cu_x, cu_y, hq]
set_option maxRecDepth 100000 in
set_option maxHeartbeats 1000000 in
theorem gExplains_no {c p0 p1 p2 : PE} {s0 s1 s2 : RE} {kk m : Nat} (hk : kk + m + 1 ≤ 50000000) (hc : Hv I0 (isP c m)) (h0 : Hv I0 (isP p0 kk)) (h1 : Hv I0 (isP p1 kk)) (he : p1.v = c.v) :
    CD Tryz.prog 122 [pv c, .agg (recs eP [p0, p1, p2]).toArray, .agg (recs eR [s0, s1, s2]).toArray] X w0 M0 I0 (fun v M I => M0 = M ∧ I0 = I ∧ v = .tuple #[zP, .bool false]) := by
  have hS0 := fun M0 I0 => gSame_ok (X := X) (w0 := w0) (M0 := M0) (I0 := I0) (a := p0) (b := c) (k := kk) (m := m) (by omega)
  have hS1 := fun M0 I0 => gSame_ok (X := X) (w0 := w0) (M0 := M0) (I0 := I0) (a := p1) (b := c) (k := kk) (m := m) (by omega)
  rw [B_true he] at hS1
  refine CD_hv hc (CD_hv h0.cons (CD_hv h1.cons.cons ?_))
  refine enterD3 Tryz.func122 rfl Tryz.ntmps122 rfl ?_
  refine TD_seq ?_
  refine TD_region ?_
  (refine RD_boxA rfl rfl rfl ?_; intro b3; refine ⟨okF, ?_⟩)
  (refine RD_boxA rfl rfl rfl ?_; intro b4; refine ⟨okF, ?_⟩)
  (refine RD_boxA rfl rfl rfl ?_; intro b5; refine ⟨okF, ?_⟩)
  (refine RD_alloc rfl rfl ?_; intro b6; refine ⟨okF, ?_⟩)
  repeat (refine wXh ?_)
  refine TD_loop [3, 4, 5, 6, 12] rfl (fun k G M I => ∃ i : Nat, i ≤ 1 ∧ k = 3 - i ∧ G = [(13, .int .i64 i)] ∧ M = .blk b6 zPc 28 :: .blk b5 (recs eR [s0, s1, s2]) 41 :: .blk b4 (recs eP [p0, p1, p2]) 39 :: .blk b3 (eP c) 28 :: M0 ∧ I = isP p1 kk :: isP p0 kk :: isP c m :: I0) (3) _ _ _ subG subF incF (⟨0, by omega, rfl, rfl, rfl, rfl⟩) ?_
  rintro k' G M I ⟨i, hi, rfl, rfl, rfl, rfl⟩
  have hi2 : i = 0 ∨ i = 1 := by omega
  rcases hi2 with rfl | rfl
  · repeat (refine wXh ?_)
    refine RD_c rfl (fun _ => Const_indexV (vs := eP p0) rfl rfl (by omega) rfl) rfl rfl ?_
    (refine RD_alloc rfl rfl ?_; intro b9; refine ⟨okF, ?_⟩)
    repeat (refine wXh ?_)
    (refine RD_callS rfl (hS0 _ _ hvY hvY) rfl rfl ?_; rintro _ _ _ ⟨rfl, rfl, rfl⟩; refine ⟨okF, ?_⟩)
    repeat' (first | refine wXh ?_ | (refine TD_isCo ?_; first | refine TD_dec rfl (fun h => ?_) (fun h => ?_) | refine TD_cond rfl (fun h => ?_) (fun h => ?_)) | (refine RD_isGu ?_; first | refine RD_grd rfl rfl (fun h => ?_) (fun h => ?_) | (fail_if_success (refine RD_isW rfl ?_); refine RD_grdB rfl rfl (fun h => ?_) (fun h => ?_))))
    · (refine RD_c rfl (fun _ => Const_struct (pvs := ([]).zipIdx.map (fun p => (p.2, p.1))) (cells := zPc) rfl rfl) rfl rfl ?_)
      repeat (refine wXh ?_)
      refine ND_retsC (rs := [.cell 6 28, .tmp 7]) (vs := [zP, .bool false]) (.inl rfl) rfl (.cellN (cs := zPc) inferInstance rfl memF rfl (.tmp rfl .nil)) rfl M0 I0 subF incF ⟨rfl, rfl, rfl⟩
    · refine ND_again (3 - (0 + 1)) _ _ _ (by first | omega | (simp only [List.length_append, List.length_cons, List.length_nil]; omega)) subG subF incF (⟨0 + 1, by omega, rfl, rfl, rfl, rfl⟩)
  · repeat (refine wXh ?_)
    refine RD_c rfl (fun _ => Const_indexV (vs := eP p1) rfl rfl (by omega) rfl) rfl rfl ?_
    (refine RD_alloc rfl rfl ?_; intro b9; refine ⟨okF, ?_⟩)
    repeat (refine wXh ?_)
    (refine RD_callS rfl (hS1 _ _ hvY hvY) rfl rfl ?_; rintro _ _ _ ⟨rfl, rfl, rfl⟩; refine ⟨okF, ?_⟩)
    repeat (refine wXh ?_)
    (refine RD_c rfl (fun _ => Const_struct (pvs := ([]).zipIdx.map (fun p => (p.2, p.1))) (cells := zPc) rfl rfl) rfl rfl ?_)
    repeat (refine wXh ?_)
    refine ND_retsC (rs := [.cell 6 28, .tmp 7]) (vs := [zP, .bool false]) (.inl rfl) rfl (.cellN (cs := zPc) inferInstance rfl memF rfl (.tmp rfl .nil)) rfl M0 I0 subF incF ⟨rfl, rfl, rfl⟩
theorem pos_b (b e : V2) (a d : Rat) (h : b.crs e = 0) : b.dot (V2.sd ⟨d * b.x - a * e.x, d * b.y - a * e.y⟩) = 0 ∧ e.dot (V2.sd ⟨d * b.x - a * e.x, d * b.y - a * e.y⟩) = 0 := by
  simp only [V2.dot, V2.sd, V2.crs] at *
  constructor <;> grind
theorem pos_n {b e : V2} {a d : Rat} (h : ¬ V2.z0 ⟨d * b.x - a * e.x, d * b.y - a * e.y⟩) (ha : a = 0) : d ≠ 0 := fun hd => h (by
  simp only [V2.z0]
  subst ha; subst hd
  constructor <;> grind)
theorem neg_crs (b e : V2) : V2.crs ⟨-b.x, -b.y⟩ ⟨-e.x, -e.y⟩ = b.crs e := by
  simp only [V2.crs]; grind
theorem sd_dot (n : V2) (h : ¬ n.z0) : n.sd.dot n.sd ≠ 0 := by
  have := sq_pos h
  simp only [V2.dot, V2.sd]
  grind
def posOut (v : Value) (M0 : List Ent) (I0 : List Imm) (M : List Ent) (I : List Imm) : Prop := M0 = M ∧ I0 = I ∧ ∃ cs : List Value, v = .tuple #[.agg cs.toArray, zP, .bool false] ∧ cs.length = 8 ∧ ∀ u ∈ cs, u.oneCell' = true
theorem zPc_one : ∀ u ∈ zPc, u.oneCell' = true := by
  intro u hu
  simp only [zPc, List.mem_cons, List.not_mem_nil, or_false] at hu
  rcases hu with rfl | rfl | rfl | rfl | rfl | rfl | rfl | rfl <;> rfl
set_option maxRecDepth 100000 in
set_option maxHeartbeats 4000000 in
theorem gPosition_deg {p0 p1 p2 : PE} {s0 s1 s2 : RE} {k s : Nat} (hk : 100 * (200 * k + 20 * s + 200) ≤ 40000000) (h0 : Hv I0 (isP p0 k)) (h1 : Hv I0 (isP p1 k)) (h2 : Hv I0 (isP p2 k)) (g0 : Hv I0 (isR s0 s)) (g1 : Hv I0 (isR s1 s)) (g2 : Hv I0 (isR s2 s)) (hd : plD p0.v p1.v p2.v s0.q s1.q s2.q = 0) :
    CD Tryz.prog 25 [.agg (recs eP [p0, p1, p2]).toArray, .agg (recs eR [s0, s1, s2]).toArray] X w0 M0 I0 (fun v M I => posOut v M0 I0 M I) := by
  have hCu := fun p b7 b3 (e : RE) M0 I0 m7 m3 ho hp ht h1 => gCurve_ok (X := X) (w0 := w0) (M0 := M0) (I0 := I0) (p := p) (og := p1) (t := e) (s0 := s0) (s1 := s1) (s2 := s2) (k := k) (s := s) (b7 := b7) (b3 := b3) (by omega) m7 m3 ho hp ht h1
  obtain ⟨C, hC⟩ : ∃ C, C = 200 * k + 20 * s + 200 := ⟨_, rfl⟩
  rw [← hC] at hCu hk
  have hkC : k ≤ C := by omega
  have hMu := fun a b M0 I0 => gMul_ok (X := X) (w0 := w0) (M0 := M0) (I0 := I0) (a := a) (b := b) (k := C) (m := C) (by omega)
  have hSu := fun a b M0 I0 => gSub_ok (X := X) (w0 := w0) (M0 := M0) (I0 := I0) (a := a) (b := b) (k := C + C) (m := C + C) (by omega)
  have hZn := fun a M0 I0 => gZero_ok (X := X) (w0 := w0) (M0 := M0) (I0 := I0) (a := a) (k := C + C + (C + C) + 1) (by omega)
  have hZa := fun a M0 I0 => gZero_ok (X := X) (w0 := w0) (M0 := M0) (I0 := I0) (a := a) (k := C) (by omega)
  obtain ⟨N, hN⟩ : ∃ N, N = C + C + (C + C) + 1 := ⟨_, rfl⟩
  rw [← hN] at hSu hZn
  have hNg := fun a M0 I0 => rQNeg_ok (X := X) (w0 := w0) (M0 := M0) (I0 := I0) (e := a) (k := N) (by omega)
  have hDb := fun a b M0 I0 => gDot_ok (X := X) (w0 := w0) (M0 := M0) (I0 := I0) (a := a) (b := b) (k := C) (m := N) (by omega)
  have hDn := fun a b M0 I0 => gDot_ok (X := X) (w0 := w0) (M0 := M0) (I0 := I0) (a := a) (b := b) (k := N) (m := N) (by omega)
  have hM2 := fun a b M0 I0 => gMul_ok (X := X) (w0 := w0) (M0 := M0) (I0 := I0) (a := a) (b := b) (k := C) (m := N + N + (N + N) + 1) (by omega)
  have hDv := fun a b M0 I0 (hb : b.q ≠ 0) => gDiv_ok (X := X) (w0 := w0) (M0 := M0) (I0 := I0) (a := a) (b := b) (k := C + N + (C + N) + 1) (m := C + (N + N + (N + N) + 1)) (by omega) hb
  obtain ⟨D, hD⟩ : ∃ D, D = C + N + (C + N) + 1 + (C + (N + N + (N + N) + 1)) := ⟨_, rfl⟩
  rw [← hD] at hDv
  have hNd := fun a M0 I0 => rQNeg_ok (X := X) (w0 := w0) (M0 := M0) (I0 := I0) (e := a) (k := D) (by omega)
  have hMs := fun a b M0 I0 => gMul_ok (X := X) (w0 := w0) (M0 := M0) (I0 := I0) (a := a) (b := b) (k := D) (m := N) (by omega)
  have hAs := fun a b M0 I0 => gAdd_ok (X := X) (w0 := w0) (M0 := M0) (I0 := I0) (a := a) (b := b) (k := k) (m := D + N) (by omega)
  have hEx := fun c M0 I0 a1 a2 a3 e => gExplains_no (X := X) (w0 := w0) (M0 := M0) (I0 := I0) (c := c) (p0 := p0) (p1 := p1) (p2 := p2) (s0 := s0) (s1 := s1) (s2 := s2) (kk := k) (m := k + (D + N) + 1) (by omega) a1 a2 a3 e
  refine CD_hv h0 (CD_hv h1.cons (CD_hv h2.cons.cons (CD_hv g0.cons.cons.cons (CD_hv g1.cons.cons.cons.cons (CD_hv g2.cons.cons.cons.cons.cons ?_)))))
  generalize hI1 : isR s2 s :: isR s1 s :: isR s0 s :: isP p2 k :: isP p1 k :: isP p0 k :: I0 = I1
  have f0 : isP p0 k ∈ I1 := by rw [← hI1]; exact memF
  have f1 : isP p1 k ∈ I1 := by rw [← hI1]; exact memF
  have f2 : isP p2 k ∈ I1 := by rw [← hI1]; exact memF
  have f3 : isR s0 s ∈ I1 := by rw [← hI1]; exact memF
  have f4 : isR s1 s ∈ I1 := by rw [← hI1]; exact memF
  have f5 : isR s2 s ∈ I1 := by rw [← hI1]; exact memF
  have f9 : Inc I1 I0 := by rw [← hI1]; exact incF
  clear hI1
  refine enterD2 Tryz.func25 rfl Tryz.ntmps25 rfl ?_
  refine TD_seq ?_
  refine TD_region ?_
  (refine RD_boxA rfl rfl rfl ?_; intro b2; refine ⟨okF, ?_⟩)
  (refine RD_boxA rfl rfl rfl ?_; intro b3; refine ⟨okF, ?_⟩)
  (refine RD_alloc rfl rfl ?_; intro b4; refine ⟨okF, ?_⟩)
  (refine RD_alloc rfl rfl ?_; intro b5; refine ⟨okF, ?_⟩)
  refine RD_freezeB (b := b2) remF ?_
  refine RD_freezeB (b := b3) remF ?_
  repeat (refine wXh ?_)
  (refine RD_alloc rfl rfl ?_; intro b7; refine ⟨okF, ?_⟩)
  repeat (refine wXh ?_)
  refine RD_freezeB (b := b7) remF ?_
  (refine RD_callVS rfl rfl (hCu p0 b7 b3 s0 _ _ memF memF memF memF memF memF) rfl rfl rfl ?_; rintro _ _ _ ⟨rfl, a, b, rfl, ha, hb, rfl⟩; refine ⟨okF, ?_⟩)
  repeat (refine wXh ?_)
  (refine RD_alloc rfl rfl ?_; intro b9; refine ⟨okF, ?_⟩)
  (refine RD_alloc rfl rfl ?_; intro b10; refine ⟨okF, ?_⟩)
  repeat (refine wXh ?_)
  (refine RD_callVS rfl rfl (hCu p2 b7 b3 s2 _ _ memF memF memF memF memF memF) rfl rfl rfl ?_; rintro _ _ _ ⟨rfl, d, e, rfl, hd2, he, rfl⟩; refine ⟨okF, ?_⟩)
  repeat (refine wXh ?_)
  (refine RD_alloc rfl rfl ?_; intro b11; refine ⟨okF, ?_⟩)
  (refine RD_alloc rfl rfl ?_; intro b12; refine ⟨okF, ?_⟩)
  repeat (refine wXh ?_)
  clear hCu
  have hcr : b.v.crs e.v = 0 := by rw [hb, he, neg_crs]; exact hd
  refine TD_cutT (fun G M I => ∃ (b13 : Nat) (n : PE), n.v = ⟨d.q * b.v.x - a.q * e.v.x, d.q * b.v.y - a.q * e.v.y⟩ ∧ G = [(2, .pointer (some ⟨b2, 0, none⟩)), (3, .pointer (some ⟨b3, 0, none⟩)), (4, .pointer (some ⟨b4, 0, none⟩)), (5, .pointer (some ⟨b5, 0, none⟩)), (7, .pointer (some ⟨b7, 0, none⟩)), (9, .pointer (some ⟨b9, 0, none⟩)), (10, .pointer (some ⟨b10, 0, none⟩)), (11, .pointer (some ⟨b11, 0, none⟩)), (12, .pointer (some ⟨b12, 0, none⟩)), (13, .pointer (some ⟨b13, 0, none⟩))] ∧ M = .blk b13 (eP n) 28 :: .blk b12 (eP e) 28 :: .blk b11 (eR d) 26 :: .blk b10 (eP b) 28 :: .blk b9 (eR a) 26 :: .blk b5 zPc 28 :: .blk b4 zPc 28 :: M0 ∧ I = isP n N :: isP e C :: isR d C :: isP b C :: isR a C :: slI (some ⟨b7, 0, none⟩) (eP p1) :: slI (some ⟨b3, 0, none⟩) (recs eR [s0, s1, s2]) :: slI (some ⟨b2, 0, none⟩) (recs eP [p0, p1, p2]) :: I1) ?_ ?_
  · ((repeat refine TD_seq ?_); refine TD_rest (.blk b12 (eP e) 28 :: .blk b11 (eR d) 26 :: .blk b10 (eP b) 28 :: .blk b9 (eR a) 26 :: M0) (isP e C :: isR d C :: isP b C :: isR a C :: slI (some ⟨b7, 0, none⟩) (eP p1) :: slI (some ⟨b3, 0, none⟩) (recs eR [s0, s1, s2]) :: slI (some ⟨b2, 0, none⟩) (recs eP [p0, p1, p2]) :: I1) mixed ?_)
    refine ND_restPre (fuel := 9) (listed' := #[true, true, true, false, true, true, true, false, false, true, true, true, false, true, true, true, false, false, false, false, false]) [0, 1, 2, 4, 5, 6, 9, 10, 11, 13, 14, 15] [6, 7, 6, 6, 7, 6, 6, 7, 6, 6, 7, 6] subF incF (by kernel_rfl) (by kernel_rfl) rfl rfl ?_
    repeat (refine wXh ?_)
    refine ND_restFork (fuel := 8) (i := 3) (j := 19) (by kernel_rfl) ?_ ?_
    · (refine RD_callS rfl (hMu d b.x _ _ hvY hvY) rfl rfl ?_; rintro _ _ _ ⟨rfl, m1, rfl, hm1, rfl⟩; refine ⟨okF, ?_⟩)
      refine RD_nil ?_
      repeat (refine wXh ?_)
      refine ND_restFork (fuel := 7) (i := 7) (j := 19) (by kernel_rfl) ?_ ?_
      · (refine RD_callS rfl (hMu a e.x _ _ hvY hvY) rfl rfl ?_; rintro _ _ _ ⟨rfl, m2, rfl, hm2, rfl⟩; refine ⟨okF, ?_⟩)
        refine RD_nil ?_
        repeat (refine wXh ?_)
        refine ND_restFork (fuel := 6) (i := 8) (j := 19) (by kernel_rfl) ?_ ?_
        · (refine RD_callS rfl (hSu m1 m2 _ _ hvY hvY) rfl rfl ?_; rintro _ _ _ ⟨rfl, m3, rfl, hm3, rfl⟩; refine ⟨okF, ?_⟩)
          refine RD_nil ?_
          repeat (refine wXh ?_)
          refine ND_restFork (fuel := 5) (i := 12) (j := 19) (by kernel_rfl) ?_ ?_
          · (refine RD_callS rfl (hMu d b.y _ _ hvY hvY) rfl rfl ?_; rintro _ _ _ ⟨rfl, m4, rfl, hm4, rfl⟩; refine ⟨okF, ?_⟩)
            refine RD_nil ?_
            repeat (refine wXh ?_)
            refine ND_restFork (fuel := 4) (i := 16) (j := 19) (by kernel_rfl) ?_ ?_
            · (refine RD_callS rfl (hMu a e.y _ _ hvY hvY) rfl rfl ?_; rintro _ _ _ ⟨rfl, m5, rfl, hm5, rfl⟩; refine ⟨okF, ?_⟩)
              refine RD_nil ?_
              repeat (refine wXh ?_)
              refine ND_restFork (fuel := 3) (i := 17) (j := 19) (by kernel_rfl) ?_ ?_
              · (refine RD_callS rfl (hSu m4 m5 _ _ hvY hvY) rfl rfl ?_; rintro _ _ _ ⟨rfl, m6, rfl, hm6, rfl⟩; refine ⟨okF, ?_⟩)
                refine RD_nil ?_
                refine ND_restEnd [18, 19, 20] [1, 0, 0] subF incF (by kernel_rfl) (by kernel_rfl) rfl rfl ?_
                repeat (refine wXh ?_)
                (refine RD_c rfl (fun _ => Const_structC (vals := [rv m3, rv m6]) (cells := eP ⟨m3, m6⟩) rfl ?hpl rfl ?hz) rfl rfl ?_; (case hpl => repeat (first | exact True.intro | refine ⟨rfl, ?_⟩)); (case hz => rfl))
                repeat (refine wXh ?_)
                (refine RD_alloc rfl rfl ?_; intro b13; refine ⟨okF, ?_⟩)
                repeat (refine wXh ?_)
                refine ND_closeP (a := m3) (b := m6) (k := N) hvY hvY (ND_cut _ _ _ subG subF incF ⟨b13, ⟨m3, m6⟩, by simp only [PE.v, hm3, hm6, hm1, hm2, hm4, hm5], rfl, rfl, rfl⟩)
              · (refine RD_alloc rfl rfl ?_; intro b13; refine ⟨okF, ?_⟩)
                refine RD_nil ?_
                refine ND_restEnd [17, 18, 20] [0, 0, 0] subF incF (by kernel_rfl) (by kernel_rfl) rfl rfl ?_
                repeat (refine wXh ?_)
                (refine RD_callS rfl (hSu m4 m5 _ _ hvY hvY) rfl rfl ?_; rintro _ _ _ ⟨rfl, m6, rfl, hm6, rfl⟩; refine ⟨okF, ?_⟩)
                repeat (refine wXh ?_)
                (refine RD_c rfl (fun _ => Const_structC (vals := [rv m3, rv m6]) (cells := eP ⟨m3, m6⟩) rfl ?hpl rfl ?hz) rfl rfl ?_; (case hpl => repeat (first | exact True.intro | refine ⟨rfl, ?_⟩)); (case hz => rfl))
                repeat (refine wXh ?_)
                refine ND_closeP (a := m3) (b := m6) (k := N) hvY hvY (ND_cut _ _ _ subG subF incF ⟨b13, ⟨m3, m6⟩, by simp only [PE.v, hm3, hm6, hm1, hm2, hm4, hm5], rfl, rfl, rfl⟩)
            · (refine RD_alloc rfl rfl ?_; intro b13; refine ⟨okF, ?_⟩)
              refine RD_nil ?_
              refine ND_restEnd [16, 17, 18, 20] [0, 0, 0, 0] subF incF (by kernel_rfl) (by kernel_rfl) rfl rfl ?_
              repeat (refine wXh ?_)
              (refine RD_callS rfl (hMu a e.y _ _ hvY hvY) rfl rfl ?_; rintro _ _ _ ⟨rfl, m5, rfl, hm5, rfl⟩; refine ⟨okF, ?_⟩)
              repeat (refine wXh ?_)
              (refine RD_callS rfl (hSu m4 m5 _ _ hvY hvY) rfl rfl ?_; rintro _ _ _ ⟨rfl, m6, rfl, hm6, rfl⟩; refine ⟨okF, ?_⟩)
              repeat (refine wXh ?_)
              (refine RD_c rfl (fun _ => Const_structC (vals := [rv m3, rv m6]) (cells := eP ⟨m3, m6⟩) rfl ?hpl rfl ?hz) rfl rfl ?_; (case hpl => repeat (first | exact True.intro | refine ⟨rfl, ?_⟩)); (case hz => rfl))
              repeat (refine wXh ?_)
              refine ND_closeP (a := m3) (b := m6) (k := N) hvY hvY (ND_cut _ _ _ subG subF incF ⟨b13, ⟨m3, m6⟩, by simp only [PE.v, hm3, hm6, hm1, hm2, hm4, hm5], rfl, rfl, rfl⟩)
          · (refine RD_alloc rfl rfl ?_; intro b13; refine ⟨okF, ?_⟩)
            refine RD_nil ?_
            refine ND_restEnd [12, 16, 17, 18, 20] [0, 0, 0, 0, 0] subF incF (by kernel_rfl) (by kernel_rfl) rfl rfl ?_
            repeat (refine wXh ?_)
            (refine RD_callS rfl (hMu d b.y _ _ hvY hvY) rfl rfl ?_; rintro _ _ _ ⟨rfl, m4, rfl, hm4, rfl⟩; refine ⟨okF, ?_⟩)
            repeat (refine wXh ?_)
            (refine RD_callS rfl (hMu a e.y _ _ hvY hvY) rfl rfl ?_; rintro _ _ _ ⟨rfl, m5, rfl, hm5, rfl⟩; refine ⟨okF, ?_⟩)
            repeat (refine wXh ?_)
            (refine RD_callS rfl (hSu m4 m5 _ _ hvY hvY) rfl rfl ?_; rintro _ _ _ ⟨rfl, m6, rfl, hm6, rfl⟩; refine ⟨okF, ?_⟩)
            repeat (refine wXh ?_)
            (refine RD_c rfl (fun _ => Const_structC (vals := [rv m3, rv m6]) (cells := eP ⟨m3, m6⟩) rfl ?hpl rfl ?hz) rfl rfl ?_; (case hpl => repeat (first | exact True.intro | refine ⟨rfl, ?_⟩)); (case hz => rfl))
            repeat (refine wXh ?_)
            refine ND_closeP (a := m3) (b := m6) (k := N) hvY hvY (ND_cut _ _ _ subG subF incF ⟨b13, ⟨m3, m6⟩, by simp only [PE.v, hm3, hm6, hm1, hm2, hm4, hm5], rfl, rfl, rfl⟩)
        · (refine RD_alloc rfl rfl ?_; intro b13; refine ⟨okF, ?_⟩)
          refine RD_nil ?_
          refine ND_restEnd [8, 12, 16, 17, 18, 20] [0, 0, 0, 0, 0, 0] subF incF (by kernel_rfl) (by kernel_rfl) rfl rfl ?_
          repeat (refine wXh ?_)
          (refine RD_callS rfl (hSu m1 m2 _ _ hvY hvY) rfl rfl ?_; rintro _ _ _ ⟨rfl, m3, rfl, hm3, rfl⟩; refine ⟨okF, ?_⟩)
          repeat (refine wXh ?_)
          (refine RD_callS rfl (hMu d b.y _ _ hvY hvY) rfl rfl ?_; rintro _ _ _ ⟨rfl, m4, rfl, hm4, rfl⟩; refine ⟨okF, ?_⟩)
          repeat (refine wXh ?_)
          (refine RD_callS rfl (hMu a e.y _ _ hvY hvY) rfl rfl ?_; rintro _ _ _ ⟨rfl, m5, rfl, hm5, rfl⟩; refine ⟨okF, ?_⟩)
          repeat (refine wXh ?_)
          (refine RD_callS rfl (hSu m4 m5 _ _ hvY hvY) rfl rfl ?_; rintro _ _ _ ⟨rfl, m6, rfl, hm6, rfl⟩; refine ⟨okF, ?_⟩)
          repeat (refine wXh ?_)
          (refine RD_c rfl (fun _ => Const_structC (vals := [rv m3, rv m6]) (cells := eP ⟨m3, m6⟩) rfl ?hpl rfl ?hz) rfl rfl ?_; (case hpl => repeat (first | exact True.intro | refine ⟨rfl, ?_⟩)); (case hz => rfl))
          repeat (refine wXh ?_)
          refine ND_closeP (a := m3) (b := m6) (k := N) hvY hvY (ND_cut _ _ _ subG subF incF ⟨b13, ⟨m3, m6⟩, by simp only [PE.v, hm3, hm6, hm1, hm2, hm4, hm5], rfl, rfl, rfl⟩)
      · (refine RD_alloc rfl rfl ?_; intro b13; refine ⟨okF, ?_⟩)
        refine RD_nil ?_
        refine ND_restEnd [7, 8, 12, 16, 17, 18, 20] [0, 0, 0, 0, 0, 0, 0] subF incF (by kernel_rfl) (by kernel_rfl) rfl rfl ?_
        repeat (refine wXh ?_)
        (refine RD_callS rfl (hMu a e.x _ _ hvY hvY) rfl rfl ?_; rintro _ _ _ ⟨rfl, m2, rfl, hm2, rfl⟩; refine ⟨okF, ?_⟩)
        repeat (refine wXh ?_)
        (refine RD_callS rfl (hSu m1 m2 _ _ hvY hvY) rfl rfl ?_; rintro _ _ _ ⟨rfl, m3, rfl, hm3, rfl⟩; refine ⟨okF, ?_⟩)
        repeat (refine wXh ?_)
        (refine RD_callS rfl (hMu d b.y _ _ hvY hvY) rfl rfl ?_; rintro _ _ _ ⟨rfl, m4, rfl, hm4, rfl⟩; refine ⟨okF, ?_⟩)
        repeat (refine wXh ?_)
        (refine RD_callS rfl (hMu a e.y _ _ hvY hvY) rfl rfl ?_; rintro _ _ _ ⟨rfl, m5, rfl, hm5, rfl⟩; refine ⟨okF, ?_⟩)
        repeat (refine wXh ?_)
        (refine RD_callS rfl (hSu m4 m5 _ _ hvY hvY) rfl rfl ?_; rintro _ _ _ ⟨rfl, m6, rfl, hm6, rfl⟩; refine ⟨okF, ?_⟩)
        repeat (refine wXh ?_)
        (refine RD_c rfl (fun _ => Const_structC (vals := [rv m3, rv m6]) (cells := eP ⟨m3, m6⟩) rfl ?hpl rfl ?hz) rfl rfl ?_; (case hpl => repeat (first | exact True.intro | refine ⟨rfl, ?_⟩)); (case hz => rfl))
        repeat (refine wXh ?_)
        refine ND_closeP (a := m3) (b := m6) (k := N) hvY hvY (ND_cut _ _ _ subG subF incF ⟨b13, ⟨m3, m6⟩, by simp only [PE.v, hm3, hm6, hm1, hm2, hm4, hm5], rfl, rfl, rfl⟩)
    · (refine RD_alloc rfl rfl ?_; intro b13; refine ⟨okF, ?_⟩)
      refine RD_nil ?_
      refine ND_restEnd [3, 7, 8, 12, 16, 17, 18, 20] [0, 0, 0, 0, 0, 0, 0, 0] subF incF (by kernel_rfl) (by kernel_rfl) rfl rfl ?_
      repeat (refine wXh ?_)
      (refine RD_callS rfl (hMu d b.x _ _ hvY hvY) rfl rfl ?_; rintro _ _ _ ⟨rfl, m1, rfl, hm1, rfl⟩; refine ⟨okF, ?_⟩)
      repeat (refine wXh ?_)
      (refine RD_callS rfl (hMu a e.x _ _ hvY hvY) rfl rfl ?_; rintro _ _ _ ⟨rfl, m2, rfl, hm2, rfl⟩; refine ⟨okF, ?_⟩)
      repeat (refine wXh ?_)
      (refine RD_callS rfl (hSu m1 m2 _ _ hvY hvY) rfl rfl ?_; rintro _ _ _ ⟨rfl, m3, rfl, hm3, rfl⟩; refine ⟨okF, ?_⟩)
      repeat (refine wXh ?_)
      (refine RD_callS rfl (hMu d b.y _ _ hvY hvY) rfl rfl ?_; rintro _ _ _ ⟨rfl, m4, rfl, hm4, rfl⟩; refine ⟨okF, ?_⟩)
      repeat (refine wXh ?_)
      (refine RD_callS rfl (hMu a e.y _ _ hvY hvY) rfl rfl ?_; rintro _ _ _ ⟨rfl, m5, rfl, hm5, rfl⟩; refine ⟨okF, ?_⟩)
      repeat (refine wXh ?_)
      (refine RD_callS rfl (hSu m4 m5 _ _ hvY hvY) rfl rfl ?_; rintro _ _ _ ⟨rfl, m6, rfl, hm6, rfl⟩; refine ⟨okF, ?_⟩)
      repeat (refine wXh ?_)
      (refine RD_c rfl (fun _ => Const_structC (vals := [rv m3, rv m6]) (cells := eP ⟨m3, m6⟩) rfl ?hpl rfl ?hz) rfl rfl ?_; (case hpl => repeat (first | exact True.intro | refine ⟨rfl, ?_⟩)); (case hz => rfl))
      repeat (refine wXh ?_)
      refine ND_closeP (a := m3) (b := m6) (k := N) hvY hvY (ND_cut _ _ _ subG subF incF ⟨b13, ⟨m3, m6⟩, by simp only [PE.v, hm3, hm6, hm1, hm2, hm4, hm5], rfl, rfl, rfl⟩)
  · rintro G M I ⟨b13, n, hn, rfl, rfl, rfl⟩
    have hZx := fun M0 I0 => hZn n.x M0 I0
    have hZy := fun M0 I0 => hZn n.y M0 I0
    by_cases hz : n.v.z0
    · rw [B_true (show n.x.q = 0 from hz.1)] at hZx
      rw [B_true (show n.y.q = 0 from hz.2)] at hZy
      repeat (refine wXh ?_)
      (refine RD_callS rfl (hZx _ _ hvY) rfl rfl ?_; rintro _ _ _ ⟨rfl, rfl, rfl⟩; refine ⟨okF, ?_⟩)
      repeat (refine wXh ?_)
      (refine RD_callS rfl (hZy _ _ hvY) rfl rfl ?_; rintro _ _ _ ⟨rfl, rfl, rfl⟩; refine ⟨okF, ?_⟩)
      repeat (refine wXh ?_)
      (repeat refine TD_seq ?_); refine TD_drawnW (.blk b5 zPc 28 :: .blk b4 zPc 28 :: M0) (I1) [0, 1, 2, 3, 4] [0, 1, 0, 0, 0] subF incF mixed (by kernel_rfl) ?_
      repeat (refine wXh ?_)
      refine ND_retsC (rs := [.cell 4 28, .cell 5 28, .tmp 6]) (vs := [zP, zP, .bool false]) (.inl rfl) rfl (.cellN (cs := zPc) inferInstance rfl memF rfl (.cellN (cs := zPc) inferInstance rfl memF rfl (.tmp rfl .nil))) rfl M0 I0 subF (.of (fun φ hp => by repeat (first | exact f9.mem φ hp | refine List.mem_cons_of_mem _ ?_))) ⟨rfl, rfl, zPc, rfl, rfl, zPc_one⟩
    · have hzn := hz
      rw [hn] at hzn
      obtain ⟨pb, pe⟩ := pos_b b.v e.v a.q d.q hcr
      rw [← hn] at pb pe
      have hd0 := pos_n hzn
      have hnn := sd_dot _ hz
      refine TD_cut (fun G M I => G = (63, .bool false) :: [(2, .pointer (some ⟨b2, 0, none⟩)), (3, .pointer (some ⟨b3, 0, none⟩)), (4, .pointer (some ⟨b4, 0, none⟩)), (5, .pointer (some ⟨b5, 0, none⟩)), (7, .pointer (some ⟨b7, 0, none⟩)), (9, .pointer (some ⟨b9, 0, none⟩)), (10, .pointer (some ⟨b10, 0, none⟩)), (11, .pointer (some ⟨b11, 0, none⟩)), (12, .pointer (some ⟨b12, 0, none⟩)), (13, .pointer (some ⟨b13, 0, none⟩))] ∧ M = .blk b13 (eP n) 28 :: .blk b12 (eP e) 28 :: .blk b11 (eR d) 26 :: .blk b10 (eP b) 28 :: .blk b9 (eR a) 26 :: .blk b5 zPc 28 :: .blk b4 zPc 28 :: M0 ∧ I = isP n N :: isP e C :: isR d C :: isP b C :: isR a C :: slI (some ⟨b7, 0, none⟩) (eP p1) :: slI (some ⟨b3, 0, none⟩) (recs eR [s0, s1, s2]) :: slI (some ⟨b2, 0, none⟩) (recs eP [p0, p1, p2]) :: I1) ?_ ?_
      · by_cases hx : n.x.q = 0
        · have hy : ¬ n.y.q = 0 := fun e => hz ⟨hx, e⟩
          rw [B_true hx] at hZx
          rw [B_false hy] at hZy
          repeat (refine wXh ?_)
          (refine RD_callS rfl (hZx _ _ hvY) rfl rfl ?_; rintro _ _ _ ⟨rfl, rfl, rfl⟩; refine ⟨okF, ?_⟩)
          repeat (refine wXh ?_)
          (refine RD_callS rfl (hZy _ _ hvY) rfl rfl ?_; rintro _ _ _ ⟨rfl, rfl, rfl⟩; refine ⟨okF, ?_⟩)
          repeat (refine wXh ?_)
          refine ND_cut _ _ _ subG subF incF ⟨rfl, rfl, rfl⟩
        · rw [B_false hx] at hZx
          repeat (refine wXh ?_)
          (refine RD_callS rfl (hZx _ _ hvY) rfl rfl ?_; rintro _ _ _ ⟨rfl, rfl, rfl⟩; refine ⟨okF, ?_⟩)
          repeat (refine wXh ?_)
          refine ND_cut _ _ _ subG subF incF ⟨rfl, rfl, rfl⟩
      · rintro G M I ⟨rfl, rfl, rfl⟩
        clear hZx hZy hZn hMu hSu
        repeat (refine wXh ?_)
        refine TD_cutT (fun G M I => ∃ (b14 : Nat) (al : PE), al.v = n.v.sd ∧ G = [(2, .pointer (some ⟨b2, 0, none⟩)), (3, .pointer (some ⟨b3, 0, none⟩)), (4, .pointer (some ⟨b4, 0, none⟩)), (5, .pointer (some ⟨b5, 0, none⟩)), (7, .pointer (some ⟨b7, 0, none⟩)), (9, .pointer (some ⟨b9, 0, none⟩)), (10, .pointer (some ⟨b10, 0, none⟩)), (11, .pointer (some ⟨b11, 0, none⟩)), (12, .pointer (some ⟨b12, 0, none⟩)), (14, .pointer (some ⟨b14, 0, none⟩))] ∧ M = .blk b14 (eP al) 28 :: .blk b12 (eP e) 28 :: .blk b11 (eR d) 26 :: .blk b10 (eP b) 28 :: .blk b9 (eR a) 26 :: .blk b5 zPc 28 :: .blk b4 zPc 28 :: M0 ∧ I = isP al N :: isP e C :: isR d C :: isP b C :: isR a C :: slI (some ⟨b7, 0, none⟩) (eP p1) :: slI (some ⟨b3, 0, none⟩) (recs eR [s0, s1, s2]) :: slI (some ⟨b2, 0, none⟩) (recs eP [p0, p1, p2]) :: I1) ?_ ?_
        · ((repeat refine TD_seq ?_); refine TD_rest (.blk b13 (eP n) 28 :: M0) (isP n N :: isP e C :: isR d C :: isP b C :: isR a C :: slI (some ⟨b7, 0, none⟩) (eP p1) :: slI (some ⟨b3, 0, none⟩) (recs eR [s0, s1, s2]) :: slI (some ⟨b2, 0, none⟩) (recs eP [p0, p1, p2]) :: I1) mixed ?_)
          refine ND_restPre (fuel := 4) (listed' := #[true, true, true, true, false, false, false, false]) [0, 1, 2, 3] [2, 2, 2, 1] subF incF (by kernel_rfl) (by kernel_rfl) rfl rfl ?_
          repeat (refine wXh ?_)
          refine ND_restFork (fuel := 3) (i := 4) (j := 6) (by kernel_rfl) ?_ ?_
          · (refine RD_callS rfl (hNg n.x _ _ hvY) rfl rfl ?_; rintro _ _ _ ⟨rfl, e1, rfl, he1, rfl⟩; refine ⟨okF, ?_⟩)
            refine RD_nil ?_
            refine ND_restEnd [5, 6, 7] [1, 0, 0] subF incF (by kernel_rfl) (by kernel_rfl) rfl rfl ?_
            repeat (refine wXh ?_)
            (refine RD_c rfl (fun _ => Const_structC (vals := [rv n.y, rv e1]) (cells := eP ⟨n.y, e1⟩) rfl ?hpl rfl ?hz) rfl rfl ?_; (case hpl => repeat (first | exact True.intro | refine ⟨rfl, ?_⟩)); (case hz => rfl))
            repeat (refine wXh ?_)
            (refine RD_alloc rfl rfl ?_; intro b14; refine ⟨okF, ?_⟩)
            repeat (refine wXh ?_)
            refine ND_closeP (a := n.y) (b := e1) (k := N) hvY hvY (ND_cut _ _ _ subG subF incF ⟨b14, ⟨n.y, e1⟩, by simp only [PE.v, V2.sd, he1], rfl, rfl, rfl⟩)
          · (refine RD_alloc rfl rfl ?_; intro b14; refine ⟨okF, ?_⟩)
            refine RD_nil ?_
            refine ND_restEnd [4, 5, 7] [0, 0, 0] subF incF (by kernel_rfl) (by kernel_rfl) rfl rfl ?_
            repeat (refine wXh ?_)
            (refine RD_callS rfl (hNg n.x _ _ hvY) rfl rfl ?_; rintro _ _ _ ⟨rfl, e1, rfl, he1, rfl⟩; refine ⟨okF, ?_⟩)
            repeat (refine wXh ?_)
            (refine RD_c rfl (fun _ => Const_structC (vals := [rv n.y, rv e1]) (cells := eP ⟨n.y, e1⟩) rfl ?hpl rfl ?hz) rfl rfl ?_; (case hpl => repeat (first | exact True.intro | refine ⟨rfl, ?_⟩)); (case hz => rfl))
            repeat (refine wXh ?_)
            refine ND_closeP (a := n.y) (b := e1) (k := N) hvY hvY (ND_cut _ _ _ subG subF incF ⟨b14, ⟨n.y, e1⟩, by simp only [PE.v, V2.sd, he1], rfl, rfl, rfl⟩)
        · rintro G M I ⟨b14, al, hal, rfl, rfl, rfl⟩
          rw [← hal] at pb pe hnn
          refine TD_cut (fun G M I => ∃ (a' : RE) (b' : PE), a'.q ≠ 0 ∧ b'.v.dot al.v = 0 ∧ G = [(2, .pointer (some ⟨b2, 0, none⟩)), (3, .pointer (some ⟨b3, 0, none⟩)), (4, .pointer (some ⟨b4, 0, none⟩)), (5, .pointer (some ⟨b5, 0, none⟩)), (7, .pointer (some ⟨b7, 0, none⟩)), (9, .pointer (some ⟨b9, 0, none⟩)), (10, .pointer (some ⟨b10, 0, none⟩)), (14, .pointer (some ⟨b14, 0, none⟩))] ∧ M = .blk b14 (eP al) 28 :: .blk b10 (eP b') 28 :: .blk b9 (eR a') 26 :: .blk b5 zPc 28 :: .blk b4 zPc 28 :: M0 ∧ I = isP al N :: isP b' C :: isR a' C :: slI (some ⟨b7, 0, none⟩) (eP p1) :: slI (some ⟨b3, 0, none⟩) (recs eR [s0, s1, s2]) :: slI (some ⟨b2, 0, none⟩) (recs eP [p0, p1, p2]) :: I1) ?_ ?_
          · repeat refine TD_seq ?_
            refine TD_region ?_
            repeat (first | (refine RD_isGu ?_; first | refine RD_skip rfl rfl rfl ?_ | (refine RD_isEf rfl rfl ?_; refine RD_skipE rfl rfl rfl okF ?_) | refine RD_grdY rfl rfl (by omega) ?_ | refine RD_grdN rfl rfl (by omega) ?_) | (refine RD_isUn ?_; refine RD_c rfl (fun _ => Const_notB rfl) rfl rfl ?_) | refine RD_c rfl (fun _ => Const_pure rfl) rfl rfl ?_ | (refine RD_isBi ?_; first | refine RD_c rfl (fun _ => Const_add rfl rfl wF) rfl rfl ?_ | refine RD_c rfl (fun _ => Const_sub rfl rfl wF) rfl rfl ?_ | refine RD_c rfl (fun _ => Const_mul rfl rfl wF) rfl rfl ?_ | refine RD_c rfl (fun _ => Const_quo rfl rfl (by omega) qF) rfl rfl ?_ | refine RD_c rfl (fun _ => Const_rem rfl rfl (by omega) rfl) rfl rfl ?_ | refine RD_c rfl (fun _ => Const_half rfl rfl) rfl rfl ?_ | refine RD_c rfl (fun _ => Const_eqBB rfl rfl) rfl rfl ?_ | refine RD_c rfl (fun _ => Const_neBB rfl rfl) rfl rfl ?_ | refine RD_c rfl (fun _ => Const_eqB rfl rfl) rfl rfl ?_ | refine RD_c rfl (fun _ => Const_neB rfl rfl) rfl rfl ?_) | (refine RD_isUn ?_; first | refine RD_c rfl (fun _ => Const_neg rfl wF) rfl rfl ?_) | (refine RD_isCv ?_; first | refine RD_c rfl (fun _ => Const_conv rfl wF) rfl rfl ?_) | (refine RD_isCa ?_; first | refine RD_c rfl (fun _ => Const_len rfl) rfl rfl ?_ | refine RD_c rfl (fun _ => Const_minM rfl rfl) rfl rfl ?_ | refine RD_c rfl (fun _ => Const_maxM rfl rfl) rfl rfl ?_ | refine RD_c rfl (fun _ => Const_min3 rfl rfl rfl) rfl rfl ?_) | (refine RD_isFa ?_; first | refine RD_fldP rfl (by decide) rfl rfl ?_ | refine RD_fld rfl (by decide) rfl rfl ?_) | (refine RD_isIx ?_; first | refine RD_ixB rfl rfl bdI rfl rfl ?_ | refine RD_ixI vwF rfl rfl bdI memF posC rfl rfl ?_ | refine RD_ixR vwF rfl rfl bdI memF posC rfl rfl ?_ | refine RD_c rfl (fun _ => Const_indexA rfl rfl bdI) rfl rfl ?_) | (refine RD_isLd ?_; first | (apply RD_ldZB; exact vwF; exact rfl; (focus ((repeat (first | with_reducible exact List.mem_cons_self | with_reducible assumption | with_reducible refine List.mem_cons_of_mem _ ?_)); done)); exact atY; exact rfl; exact rfl) | (apply RD_ldZIB; exact vwF; exact rfl; (focus ((repeat (first | with_reducible exact List.mem_cons_self | with_reducible assumption | with_reducible refine List.mem_cons_of_mem _ ?_)); done)); exact atY; exact rfl; exact rfl) | (apply RD_ldZI; exact vwF; exact rfl; (focus ((repeat (first | with_reducible exact List.mem_cons_self | with_reducible assumption | with_reducible refine List.mem_cons_of_mem _ ?_)); done)); exact atY; exact rfl; exact rfl) | (apply RD_ldZR; exact vwF; exact rfl; (focus ((repeat (first | with_reducible exact List.mem_cons_self | with_reducible assumption | with_reducible refine List.mem_cons_of_mem _ ?_)); done)); exact atY; exact rfl; exact rfl) | (apply RD_ldB; exact vwF; exact rfl; (focus ((repeat (first | with_reducible exact List.mem_cons_self | with_reducible assumption | with_reducible refine List.mem_cons_of_mem _ ?_)); done)); exact atF; exact rfl; exact rfl) | (apply RD_ldIB; exact vwF; exact rfl; (focus ((repeat (first | with_reducible exact List.mem_cons_self | with_reducible assumption | with_reducible refine List.mem_cons_of_mem _ ?_)); done)); exact atF; exact rfl; exact rfl) | (apply RD_ldI; exact vwF; exact rfl; (focus ((repeat (first | with_reducible exact List.mem_cons_self | with_reducible assumption | with_reducible refine List.mem_cons_of_mem _ ?_)); done)); exact atF; exact rfl; exact rfl) | (apply RD_ldR; exact vwF; exact rfl; (focus ((repeat (first | with_reducible exact List.mem_cons_self | with_reducible assumption | with_reducible refine List.mem_cons_of_mem _ ?_)); done)); exact atF; exact rfl; exact rfl)) | (refine RD_isFd ?_; first | refine RD_c rfl (fun _ => Const_field1 rfl rfl) rfl rfl ?_ | refine RD_c rfl (fun _ => Const_fieldN rfl) rfl rfl ?_) | (refine RD_isSt ?_; first | refine RD_st rfl rfl rfl repF stC rfl rfl ⟨okF, ?_⟩ | refine RD_stN rfl rfl lenC oneC repF stsC rfl rfl ⟨okF, ?_⟩))
            (refine RD_callS rfl (hZa a _ _ hvY) rfl rfl ?_; rintro _ _ _ ⟨rfl, rfl, rfl⟩; refine ⟨okF, ?_⟩)
            repeat (first | (refine RD_isGu ?_; first | refine RD_skip rfl rfl rfl ?_ | (refine RD_isEf rfl rfl ?_; refine RD_skipE rfl rfl rfl okF ?_) | refine RD_grdY rfl rfl (by omega) ?_ | refine RD_grdN rfl rfl (by omega) ?_) | (refine RD_isUn ?_; refine RD_c rfl (fun _ => Const_notB rfl) rfl rfl ?_) | refine RD_c rfl (fun _ => Const_pure rfl) rfl rfl ?_ | (refine RD_isBi ?_; first | refine RD_c rfl (fun _ => Const_add rfl rfl wF) rfl rfl ?_ | refine RD_c rfl (fun _ => Const_sub rfl rfl wF) rfl rfl ?_ | refine RD_c rfl (fun _ => Const_mul rfl rfl wF) rfl rfl ?_ | refine RD_c rfl (fun _ => Const_quo rfl rfl (by omega) qF) rfl rfl ?_ | refine RD_c rfl (fun _ => Const_rem rfl rfl (by omega) rfl) rfl rfl ?_ | refine RD_c rfl (fun _ => Const_half rfl rfl) rfl rfl ?_ | refine RD_c rfl (fun _ => Const_eqBB rfl rfl) rfl rfl ?_ | refine RD_c rfl (fun _ => Const_neBB rfl rfl) rfl rfl ?_ | refine RD_c rfl (fun _ => Const_eqB rfl rfl) rfl rfl ?_ | refine RD_c rfl (fun _ => Const_neB rfl rfl) rfl rfl ?_) | (refine RD_isUn ?_; first | refine RD_c rfl (fun _ => Const_neg rfl wF) rfl rfl ?_) | (refine RD_isCv ?_; first | refine RD_c rfl (fun _ => Const_conv rfl wF) rfl rfl ?_) | (refine RD_isCa ?_; first | refine RD_c rfl (fun _ => Const_len rfl) rfl rfl ?_ | refine RD_c rfl (fun _ => Const_minM rfl rfl) rfl rfl ?_ | refine RD_c rfl (fun _ => Const_maxM rfl rfl) rfl rfl ?_ | refine RD_c rfl (fun _ => Const_min3 rfl rfl rfl) rfl rfl ?_) | (refine RD_isFa ?_; first | refine RD_fldP rfl (by decide) rfl rfl ?_ | refine RD_fld rfl (by decide) rfl rfl ?_) | (refine RD_isIx ?_; first | refine RD_ixB rfl rfl bdI rfl rfl ?_ | refine RD_ixI vwF rfl rfl bdI memF posC rfl rfl ?_ | refine RD_ixR vwF rfl rfl bdI memF posC rfl rfl ?_ | refine RD_c rfl (fun _ => Const_indexA rfl rfl bdI) rfl rfl ?_) | (refine RD_isLd ?_; first | (apply RD_ldZB; exact vwF; exact rfl; (focus ((repeat (first | with_reducible exact List.mem_cons_self | with_reducible assumption | with_reducible refine List.mem_cons_of_mem _ ?_)); done)); exact atY; exact rfl; exact rfl) | (apply RD_ldZIB; exact vwF; exact rfl; (focus ((repeat (first | with_reducible exact List.mem_cons_self | with_reducible assumption | with_reducible refine List.mem_cons_of_mem _ ?_)); done)); exact atY; exact rfl; exact rfl) | (apply RD_ldZI; exact vwF; exact rfl; (focus ((repeat (first | with_reducible exact List.mem_cons_self | with_reducible assumption | with_reducible refine List.mem_cons_of_mem _ ?_)); done)); exact atY; exact rfl; exact rfl) | (apply RD_ldZR; exact vwF; exact rfl; (focus ((repeat (first | with_reducible exact List.mem_cons_self | with_reducible assumption | with_reducible refine List.mem_cons_of_mem _ ?_)); done)); exact atY; exact rfl; exact rfl) | (apply RD_ldB; exact vwF; exact rfl; (focus ((repeat (first | with_reducible exact List.mem_cons_self | with_reducible assumption | with_reducible refine List.mem_cons_of_mem _ ?_)); done)); exact atF; exact rfl; exact rfl) | (apply RD_ldIB; exact vwF; exact rfl; (focus ((repeat (first | with_reducible exact List.mem_cons_self | with_reducible assumption | with_reducible refine List.mem_cons_of_mem _ ?_)); done)); exact atF; exact rfl; exact rfl) | (apply RD_ldI; exact vwF; exact rfl; (focus ((repeat (first | with_reducible exact List.mem_cons_self | with_reducible assumption | with_reducible refine List.mem_cons_of_mem _ ?_)); done)); exact atF; exact rfl; exact rfl) | (apply RD_ldR; exact vwF; exact rfl; (focus ((repeat (first | with_reducible exact List.mem_cons_self | with_reducible assumption | with_reducible refine List.mem_cons_of_mem _ ?_)); done)); exact atF; exact rfl; exact rfl)) | (refine RD_isFd ?_; first | refine RD_c rfl (fun _ => Const_field1 rfl rfl) rfl rfl ?_ | refine RD_c rfl (fun _ => Const_fieldN rfl) rfl rfl ?_) | (refine RD_isSt ?_; first | refine RD_st rfl rfl rfl repF stC rfl rfl ⟨okF, ?_⟩ | refine RD_stN rfl rfl lenC oneC repF stsC rfl rfl ⟨okF, ?_⟩))
            refine RD_nil ?_
            refine ND_then ?_
            refine TD_dec rfl (fun h => ?_) (fun h => ?_)
            · (repeat refine TD_seq ?_); refine TD_drawnW (.blk b12 (eP e) 28 :: .blk b11 (eR d) 26 :: M0) (isP e C :: isR d C :: isP b C :: isR a C :: slI (some ⟨b7, 0, none⟩) (eP p1) :: slI (some ⟨b3, 0, none⟩) (recs eR [s0, s1, s2]) :: slI (some ⟨b2, 0, none⟩) (recs eP [p0, p1, p2]) :: I1) [0, 1, 2, 3] [0, 1, 0, 0] subF incF mixed (by kernel_rfl) ?_
              repeat (refine wXh ?_)
              refine ND_cut _ _ _ subG subF incF ⟨d, e, hd0 h, pe, rfl, rfl, rfl⟩
            · repeat (refine wXh ?_)
              refine ND_cut _ _ _ subG subF incF ⟨a, b, h, pb, rfl, rfl, rfl⟩
          · rintro G M I ⟨a', b', ha', hb', rfl, rfl, rfl⟩
            refine TD_cut (fun G M I => ∃ (b15 : Nat) (s : RE), s.q = 0 ∧ G = [(2, .pointer (some ⟨b2, 0, none⟩)), (3, .pointer (some ⟨b3, 0, none⟩)), (4, .pointer (some ⟨b4, 0, none⟩)), (5, .pointer (some ⟨b5, 0, none⟩)), (7, .pointer (some ⟨b7, 0, none⟩)), (14, .pointer (some ⟨b14, 0, none⟩)), (15, .pointer (some ⟨b15, 0, none⟩))] ∧ M = .blk b15 (eR s) 26 :: .blk b14 (eP al) 28 :: .blk b5 zPc 28 :: .blk b4 zPc 28 :: M0 ∧ I = isR s D :: isP al N :: slI (some ⟨b7, 0, none⟩) (eP p1) :: slI (some ⟨b3, 0, none⟩) (recs eR [s0, s1, s2]) :: slI (some ⟨b2, 0, none⟩) (recs eP [p0, p1, p2]) :: I1) ?_ ?_
            · have hne : ∀ x y : RE, x.q = al.v.dot al.v → y.q = a'.q * x.q → y.q ≠ 0 := fun x y e1 e2 => by
                rw [e2, e1]
                intro e; rcases Rat.mul_eq_zero.1 e with e | e
                · exact ha' e
                · exact hnn e
              ((repeat refine TD_seq ?_); refine TD_rest (.blk b14 (eP al) 28 :: .blk b10 (eP b') 28 :: .blk b9 (eR a') 26 :: M0) (isP al N :: isP b' C :: isR a' C :: slI (some ⟨b7, 0, none⟩) (eP p1) :: slI (some ⟨b3, 0, none⟩) (recs eR [s0, s1, s2]) :: slI (some ⟨b2, 0, none⟩) (recs eP [p0, p1, p2]) :: I1) mixed ?_)
              refine ND_restPre (fuel := 7) (listed' := #[true, true, false, true, true, true, false, false, false, false, false, false]) [0, 1, 3, 4, 5] [5, 5, 5, 5, 5] subF incF (by kernel_rfl) (by kernel_rfl) rfl rfl ?_
              repeat (refine wXh ?_)
              refine ND_restFork (fuel := 6) (i := 2) (j := 10) (by kernel_rfl) ?_ ?_
              · (refine RD_callS rfl (hDb b' al _ _ hvY hvY) rfl rfl ?_; rintro _ _ _ ⟨rfl, x1, rfl, hx1, rfl⟩; refine ⟨okF, ?_⟩)
                refine RD_nil ?_
                repeat (refine wXh ?_)
                refine ND_restFork (fuel := 5) (i := 6) (j := 10) (by kernel_rfl) ?_ ?_
                · (refine RD_callS rfl (hDn al al _ _ hvY hvY) rfl rfl ?_; rintro _ _ _ ⟨rfl, x2, rfl, hx2, rfl⟩; refine ⟨okF, ?_⟩)
                  refine RD_nil ?_
                  repeat (refine wXh ?_)
                  refine ND_restFork (fuel := 4) (i := 7) (j := 10) (by kernel_rfl) ?_ ?_
                  · (refine RD_callS rfl (hM2 a' x2 _ _ hvY hvY) rfl rfl ?_; rintro _ _ _ ⟨rfl, x3, rfl, hx3, rfl⟩; refine ⟨okF, ?_⟩)
                    refine RD_nil ?_
                    repeat (refine wXh ?_)
                    refine ND_restFork (fuel := 3) (i := 8) (j := 10) (by kernel_rfl) ?_ ?_
                    · (refine RD_callS rfl (hDv x1 x3 _ _ (hne x2 x3 hx2 hx3) hvY hvY) rfl rfl ?_; rintro _ _ _ ⟨rfl, x4, rfl, hx4, rfl⟩; refine ⟨okF, ?_⟩)
                      refine RD_nil ?_
                      repeat (refine wXh ?_)
                      refine ND_restFork (fuel := 2) (i := 9) (j := 10) (by kernel_rfl) ?_ ?_
                      · (refine RD_callS rfl (hNd x4 _ _ hvY) rfl rfl ?_; rintro _ _ _ ⟨rfl, s, rfl, hs, rfl⟩; refine ⟨okF, ?_⟩)
                        refine RD_nil ?_
                        refine ND_restEnd [10, 11] [0, 0] subF incF (by kernel_rfl) (by kernel_rfl) rfl rfl ?_
                        repeat (refine wXh ?_)
                        (refine RD_alloc rfl rfl ?_; intro b15; refine ⟨okF, ?_⟩)
                        repeat (refine wXh ?_)
                        refine ND_cut _ _ _ subG subF incF ⟨b15, s, by rw [hs, hx4, hx1, hb', Rat.div_def, Rat.zero_mul]; rfl, rfl, rfl, rfl⟩
                      · (refine RD_alloc rfl rfl ?_; intro b15; refine ⟨okF, ?_⟩)
                        refine RD_nil ?_
                        refine ND_restEnd [9, 11] [0, 0] subF incF (by kernel_rfl) (by kernel_rfl) rfl rfl ?_
                        repeat (refine wXh ?_)
                        (refine RD_callS rfl (hNd x4 _ _ hvY) rfl rfl ?_; rintro _ _ _ ⟨rfl, s, rfl, hs, rfl⟩; refine ⟨okF, ?_⟩)
                        repeat (refine wXh ?_)
                        refine ND_cut _ _ _ subG subF incF ⟨b15, s, by rw [hs, hx4, hx1, hb', Rat.div_def, Rat.zero_mul]; rfl, rfl, rfl, rfl⟩
                    · (refine RD_alloc rfl rfl ?_; intro b15; refine ⟨okF, ?_⟩)
                      refine RD_nil ?_
                      refine ND_restEnd [8, 9, 11] [0, 0, 0] subF incF (by kernel_rfl) (by kernel_rfl) rfl rfl ?_
                      repeat (refine wXh ?_)
                      (refine RD_callS rfl (hDv x1 x3 _ _ (hne x2 x3 hx2 hx3) hvY hvY) rfl rfl ?_; rintro _ _ _ ⟨rfl, x4, rfl, hx4, rfl⟩; refine ⟨okF, ?_⟩)
                      repeat (refine wXh ?_)
                      (refine RD_callS rfl (hNd x4 _ _ hvY) rfl rfl ?_; rintro _ _ _ ⟨rfl, s, rfl, hs, rfl⟩; refine ⟨okF, ?_⟩)
                      repeat (refine wXh ?_)
                      refine ND_cut _ _ _ subG subF incF ⟨b15, s, by rw [hs, hx4, hx1, hb', Rat.div_def, Rat.zero_mul]; rfl, rfl, rfl, rfl⟩
                  · (refine RD_alloc rfl rfl ?_; intro b15; refine ⟨okF, ?_⟩)
                    refine RD_nil ?_
                    refine ND_restEnd [7, 8, 9, 11] [0, 0, 0, 0] subF incF (by kernel_rfl) (by kernel_rfl) rfl rfl ?_
                    repeat (refine wXh ?_)
                    (refine RD_callS rfl (hM2 a' x2 _ _ hvY hvY) rfl rfl ?_; rintro _ _ _ ⟨rfl, x3, rfl, hx3, rfl⟩; refine ⟨okF, ?_⟩)
                    repeat (refine wXh ?_)
                    (refine RD_callS rfl (hDv x1 x3 _ _ (hne x2 x3 hx2 hx3) hvY hvY) rfl rfl ?_; rintro _ _ _ ⟨rfl, x4, rfl, hx4, rfl⟩; refine ⟨okF, ?_⟩)
                    repeat (refine wXh ?_)
                    (refine RD_callS rfl (hNd x4 _ _ hvY) rfl rfl ?_; rintro _ _ _ ⟨rfl, s, rfl, hs, rfl⟩; refine ⟨okF, ?_⟩)
                    repeat (refine wXh ?_)
                    refine ND_cut _ _ _ subG subF incF ⟨b15, s, by rw [hs, hx4, hx1, hb', Rat.div_def, Rat.zero_mul]; rfl, rfl, rfl, rfl⟩
                · (refine RD_alloc rfl rfl ?_; intro b15; refine ⟨okF, ?_⟩)
                  refine RD_nil ?_
                  refine ND_restEnd [6, 7, 8, 9, 11] [0, 0, 0, 0, 0] subF incF (by kernel_rfl) (by kernel_rfl) rfl rfl ?_
                  repeat (refine wXh ?_)
                  (refine RD_callS rfl (hDn al al _ _ hvY hvY) rfl rfl ?_; rintro _ _ _ ⟨rfl, x2, rfl, hx2, rfl⟩; refine ⟨okF, ?_⟩)
                  repeat (refine wXh ?_)
                  (refine RD_callS rfl (hM2 a' x2 _ _ hvY hvY) rfl rfl ?_; rintro _ _ _ ⟨rfl, x3, rfl, hx3, rfl⟩; refine ⟨okF, ?_⟩)
                  repeat (refine wXh ?_)
                  (refine RD_callS rfl (hDv x1 x3 _ _ (hne x2 x3 hx2 hx3) hvY hvY) rfl rfl ?_; rintro _ _ _ ⟨rfl, x4, rfl, hx4, rfl⟩; refine ⟨okF, ?_⟩)
                  repeat (refine wXh ?_)
                  (refine RD_callS rfl (hNd x4 _ _ hvY) rfl rfl ?_; rintro _ _ _ ⟨rfl, s, rfl, hs, rfl⟩; refine ⟨okF, ?_⟩)
                  repeat (refine wXh ?_)
                  refine ND_cut _ _ _ subG subF incF ⟨b15, s, by rw [hs, hx4, hx1, hb', Rat.div_def, Rat.zero_mul]; rfl, rfl, rfl, rfl⟩
              · (refine RD_alloc rfl rfl ?_; intro b15; refine ⟨okF, ?_⟩)
                refine RD_nil ?_
                refine ND_restEnd [2, 6, 7, 8, 9, 11] [0, 0, 0, 0, 0, 0] subF incF (by kernel_rfl) (by kernel_rfl) rfl rfl ?_
                repeat (refine wXh ?_)
                (refine RD_callS rfl (hDb b' al _ _ hvY hvY) rfl rfl ?_; rintro _ _ _ ⟨rfl, x1, rfl, hx1, rfl⟩; refine ⟨okF, ?_⟩)
                repeat (refine wXh ?_)
                (refine RD_callS rfl (hDn al al _ _ hvY hvY) rfl rfl ?_; rintro _ _ _ ⟨rfl, x2, rfl, hx2, rfl⟩; refine ⟨okF, ?_⟩)
                repeat (refine wXh ?_)
                (refine RD_callS rfl (hM2 a' x2 _ _ hvY hvY) rfl rfl ?_; rintro _ _ _ ⟨rfl, x3, rfl, hx3, rfl⟩; refine ⟨okF, ?_⟩)
                repeat (refine wXh ?_)
                (refine RD_callS rfl (hDv x1 x3 _ _ (hne x2 x3 hx2 hx3) hvY hvY) rfl rfl ?_; rintro _ _ _ ⟨rfl, x4, rfl, hx4, rfl⟩; refine ⟨okF, ?_⟩)
                repeat (refine wXh ?_)
                (refine RD_callS rfl (hNd x4 _ _ hvY) rfl rfl ?_; rintro _ _ _ ⟨rfl, s, rfl, hs, rfl⟩; refine ⟨okF, ?_⟩)
                repeat (refine wXh ?_)
                refine ND_cut _ _ _ subG subF incF ⟨b15, s, by rw [hs, hx4, hx1, hb', Rat.div_def, Rat.zero_mul]; rfl, rfl, rfl, rfl⟩
            · rintro G M I ⟨b15, s, hs, rfl, rfl, rfl⟩
              refine TD_seq ?_
              (repeat refine TD_seq ?_); refine TD_drawnW (.blk b15 (eR s) 26 :: .blk b14 (eP al) 28 :: M0) (isR s D :: isP al N :: slI (some ⟨b7, 0, none⟩) (eP p1) :: slI (some ⟨b3, 0, none⟩) (recs eR [s0, s1, s2]) :: slI (some ⟨b2, 0, none⟩) (recs eP [p0, p1, p2]) :: I1) [0, 1, 2, 3, 4, 7, 8, 9, 10, 11, 5, 6, 12, 13, 14, 15] [4, 3, 3, 4, 3, 4, 3, 3, 4, 3, 0, 0, 0, 0, 0, 0] subF incF mixed (by kernel_rfl) ?_
              repeat (refine wXh ?_)
              (refine RD_callS rfl (hMs s al.x _ _ hvY hvY) rfl rfl ?_; rintro _ _ _ ⟨rfl, y1, rfl, hy1, rfl⟩; refine ⟨okF, ?_⟩)
              repeat (refine wXh ?_)
              (refine RD_callS rfl (hAs p1.x y1 _ _ hvY hvY) rfl rfl ?_; rintro _ _ _ ⟨rfl, y2, rfl, hy2, rfl⟩; refine ⟨okF, ?_⟩)
              repeat (refine wXh ?_)
              (refine RD_callS rfl (hMs s al.y _ _ hvY hvY) rfl rfl ?_; rintro _ _ _ ⟨rfl, y3, rfl, hy3, rfl⟩; refine ⟨okF, ?_⟩)
              repeat (refine wXh ?_)
              (refine RD_callS rfl (hAs p1.y y3 _ _ hvY hvY) rfl rfl ?_; rintro _ _ _ ⟨rfl, y4, rfl, hy4, rfl⟩; refine ⟨okF, ?_⟩)
              repeat (refine wXh ?_)
              (refine RD_c rfl (fun _ => Const_structC (vals := [rv y2, rv y4]) (cells := eP ⟨y2, y4⟩) rfl ?hpl rfl ?hz) rfl rfl ?_; (case hpl => repeat (first | exact True.intro | refine ⟨rfl, ?_⟩)); (case hz => rfl))
              have hc : p1.v = PE.v ⟨y2, y4⟩ := by
                show (⟨p1.x.q, p1.y.q⟩ : V2) = ⟨y2.q, y4.q⟩
                rw [hy2, hy4, hy1, hy3, hs, Rat.zero_mul, Rat.zero_mul, Rat.add_zero, Rat.add_zero]
              refine RD_hv (φ := isP ⟨y2, y4⟩ (k + (D + N) + 1)) (Hv.mkP hvY hvY) ?_
              repeat (refine wXh ?_)
              (refine RD_callS rfl (hEx ⟨y2, y4⟩ _ _ hvY hvY hvY hc) rfl rfl ?_; rintro _ _ _ ⟨rfl, rfl, rfl⟩; refine ⟨okF, ?_⟩)
              repeat (refine wXh ?_)
              (repeat refine TD_seq ?_); refine TD_drawnW (.blk b5 zPc 28 :: .blk b4 (eP ⟨y2, y4⟩) 28 :: M0) (I1) [0, 1, 2, 3, 4, 5] [0, 1, 2, 0, 0, 0] subF incF mixed (by kernel_rfl) ?_
              repeat (refine wXh ?_)
              refine ND_retsC (rs := [.cell 4 28, .cell 5 28, .tmp 6]) (vs := [pv ⟨y2, y4⟩, zP, .bool false]) (.inl rfl) rfl (.cellN (cs := eP ⟨y2, y4⟩) inferInstance rfl memF rfl (.cellN (cs := zPc) inferInstance rfl memF rfl (.tmp rfl .nil))) rfl M0 I0 subF (.of (fun φ hp => by repeat (first | exact f9.mem φ hp | refine List.mem_cons_of_mem _ ?_))) ⟨rfl, rfl, eP ⟨y2, y4⟩, rfl, rfl, Ones.one (enc := eP) ⟨y2, y4⟩⟩
end
end Go.Proofs.YtdmlebigkakplaaGreat
