/- Vectors and matrices of integers: cross products, rows, columns, products of matrices with vectors. -/
import Derived.Test.YtmmmfphealhapaaGreatZrax
import Derived.Test.YtmmmfphealhapaaGreatZraw
set_option linter.unusedSimpArgs false
set_option linter.unusedVariables false
set_option maxRecDepth 100000
set_option maxHeartbeats 4000000
namespace Go.Proofs.YtmmmfphealhapaaGreat
open Go Go.Fx
structure HZ where
 x : TZ
 y : TZ
 z : TZ
instance HZ.inh : Inhabited HZ := ⟨⟨default, default, default⟩⟩
abbrev nQ (h : HZ) : List Value := recs eN [h.x.x, h.x.y, h.x.z, h.y.x, h.y.y, h.y.z, h.z.x, h.z.y, h.z.z]
abbrev sN (h : HZ) : Value := .agg (recs eN [h.x.x, h.x.y, h.x.z, h.y.x, h.y.y, h.y.z, h.z.x, h.z.y, h.z.z]).toArray
def HZ.m (h : HZ) : M9 Int := ⟨h.x.t, h.y.t, h.z.t⟩
def HZ.tr (h : HZ) : HZ := ⟨⟨h.x.x, h.y.x, h.z.x⟩, ⟨h.x.y, h.y.y, h.z.y⟩, ⟨h.x.z, h.y.z, h.z.z⟩⟩
theorem HZ.tr_m (h : HZ) : h.tr.m = h.m.tr := rfl
structure IsHZ (h : HZ) (k : Nat) (X : List Nat) (w : World) : Prop where
 x : IsTZ h.x k X w
 y : IsTZ h.y k X w
 z : IsTZ h.z k X w
abbrev eX (h : HZ) (k : Nat) : bA := IsHZ h k
instance (h : HZ) (k : Nat) : Fx.Good (IsHZ h k) := ⟨fun X Y w w' h he hY => ⟨Fx.Good.go (φ := IsTZ _ _) X Y w w' h.x he hY, Fx.Good.go (φ := IsTZ _ _) X Y w w' h.y he hY, Fx.Good.go (φ := IsTZ _ _) X Y w w' h.z he hY⟩⟩
theorem Hv.hx {I : List bA} {h : HZ} {k : Nat} (hh : eX h k ∈ I) : Hv I (aY h.x k) := ⟨fun X w hw => (hw _ hh : IsHZ h k X w).x⟩
theorem Hv.hy {I : List bA} {h : HZ} {k : Nat} (hh : eX h k ∈ I) : Hv I (aY h.y k) := ⟨fun X w hw => (hw _ hh : IsHZ h k X w).y⟩
theorem Hv.hz {I : List bA} {h : HZ} {k : Nat} (hh : eX h k ∈ I) : Hv I (aY h.z k) := ⟨fun X w hw => (hw _ hh : IsHZ h k X w).z⟩
theorem Hv.mkH {I : List bA} {a b c : TZ} {k : Nat} (ha : aY a k ∈ I) (hb : aY b k ∈ I) (hc : aY c k ∈ I) : Hv I (eX ⟨a, b, c⟩ k) := ⟨fun X w hw => ⟨hw _ ha, hw _ hb, hw _ hc⟩⟩
theorem Hv.htr {I : List bA} {h : HZ} {k : Nat} (hh : eX h k ∈ I) : Hv I (eX h.tr k) := ⟨fun X w hw => by
 have h1 : IsHZ h k X w := hw _ hh
 exact ⟨⟨h1.x.x, h1.y.x, h1.z.x⟩, ⟨h1.x.y, h1.y.y, h1.z.y⟩, ⟨h1.x.z, h1.y.z, h1.z.z⟩⟩⟩
def HQ (q : M9 Int) (k : Nat) (M0 : List Ent) (I0 : List bA) (v : Value) (M : List Ent) (I : List bA) : Prop := M0 = M ∧ ∃ h : HZ, v = sN h ∧ h.m = q ∧ I = eX h k :: I0
def TZ.cr (p q : TZ) (i : Nat) : Int := if i = 0 then (p.t.cross q.t).a else if i = 1 then (p.t.cross q.t).b else (p.t.cross q.t).c
theorem aPT {i : Nat} (h : i < 3) : ∃ k j : Int, Int.tmod ((i : Int) + 1) 3 = k ∧ Int.tmod ((i : Int) + 2) 3 = j ∧ (0 ≤ k ∧ k < 3) ∧ (0 ≤ j ∧ j < 3) ∧ ∀ p q : TZ, (gt [p.x, p.y, p.z] k).z * (gt [q.x, q.y, q.z] j).z - (gt [p.x, p.y, p.z] j).z * (gt [q.x, q.y, q.z] k).z = p.cr q i := by
 obtain rfl | rfl | rfl : i = 0 ∨ i = 1 ∨ i = 2 := by omega
 ·exact ⟨1, 2, rfl, rfl, by decide, by decide, fun p q => rfl⟩
 ·exact ⟨2, 0, rfl, rfl, by decide, by decide, fun p q => rfl⟩
 ·exact ⟨0, 1, rfl, rfl, by decide, by decide, fun p q => rfl⟩
section
variable {X : List Nat} {w0 : World} {M0 : List Ent} {I0 : List bA}
theorem aBF {p q : TZ} {u : Nat} (hu : u ≤ 100000000000) (hp : aY p u ∈ I0) (hq : aY q u ∈ I0) : CD Tryz.prog 116 [dE p, dE q] X w0 M0 I0 (VQ (p.t.cross q.t) (u + u + 1) M0 I0) := by
 have hM := fun (a b : ZE) M0 I0 h1 h2 => aLU (X := X) (w0 := w0) (M0 := M0) (I0 := I0) (a := a) (b := b) (k := u) (m := u) (by omega) h1 h2
 have hS := fun (a b : ZE) M0 I0 h1 h2 => NSub (X := X) (w0 := w0) (M0 := M0) (I0 := I0) (a := a) (b := b) (k := u + u) (c := u + u + 1) (by omega) (by omega) h1 h2
 refine bX (φ := aY p u) (Hv.mem hp) (bX (φ := aY q u) (Hv.mem (List.mem_cons_of_mem _ hq)) ?_)
 refine bI Tryz.func116 rfl Tryz.ntmps116 rfl ?_
 refine aH ?_
 refine aI ?_
 (refine aK rfl rfl rfl ?_; intro b2; refine ⟨okF, ?_⟩)
 refine aO (cs := kW p) .here ?_
 (refine aK rfl rfl rfl ?_; intro b3; refine ⟨okF, ?_⟩)
 refine aO (cs := kW q) .here ?_
 (refine aC rfl rfl ?_; intro b4; refine ⟨okF, ?_⟩)
 repeat (refine aJ ?_)
 (refine aC rfl rfl ?_; intro b5; refine ⟨okF, ?_⟩)
 repeat (refine aJ ?_)
 refine dV (φ := kD [none, none, none] (u + u + 1)) (Hv.oNil (n := 3)) ?_
 refine bG [2, 3, 4, 5] rfl (fun k G M I => ∃ (i : Nat) (os : List (Option ZE)), i ≤ 3 ∧ k = 3 - i ∧ os.length = 3 ∧ (∀ j : Nat, j < i → ∃ e : ZE, gt os (j : Int) = some e ∧ e.z = p.cr q j) ∧ G = [(9, .int .i64 i)] ∧ M = .blk b5 (recs wN os) 100 :: .blk b4 (zN ++ (zN ++ zN)) 100 :: M0 ∧ I = kD os (u + u + 1) :: aX (some ⟨b3, 0, none⟩) (kW q) :: aX (some ⟨b2, 0, none⟩) (kW p) :: aY q u :: aY p u :: I0) (3) _ _ _ aS aG aF (⟨0, [none, none, none], by omega, rfl, rfl, fun j hj => absurd hj (by omega), rfl, rfl, rfl⟩) ?_
 rintro kk G M I ⟨i, os, hi, rfl, hol, ho, rfl, rfl, rfl⟩
 by_cases hii : i < 3
 ·obtain ⟨k, j, hk, hj, hk3, hj3, hX⟩ := aPT hii
  refine dV (φ := fZ (gt [p.x, p.y, p.z] k) u) (Hv.zAt aB hk3) ?_
  refine dV (φ := fZ (gt [p.x, p.y, p.z] j) u) (Hv.zAt (p := p) (k := u) aB hj3) ?_
  refine dV (φ := fZ (gt [q.x, q.y, q.z] k) u) (Hv.zAt (p := q) (k := u) aB hk3) ?_
  refine dV (φ := fZ (gt [q.x, q.y, q.z] j) u) (Hv.zAt (p := q) (k := u) aB hj3) ?_
  repeat (refine aJ ?_)
  rw [hk, hj]
  (repeat refine aH ?_); refine bB (M0) (aX (some ⟨b3, 0, none⟩) (kW q) :: aX (some ⟨b2, 0, none⟩) (kW p) :: I0) [0, 1, 2, 3, 4, 5, 6, 8, 9, 10, 11, 12, 13, 7, 14, 15, 16, 17] [3, 3, 3, 2, 3, 3, 2, 3, 3, 2, 3, 3, 2, 0, 0, 0, 0, 0] aG aF mixed (by kernel_rfl) ?_
  repeat (refine aJ ?_)
  (apply dW; exact fV; exact rfl; exact aB; exact AtsZ.o0 (enc := eN) (sz := 2) (ms := [p.x, p.y, p.z]) (i := k) hk3; exact rfl; exact rfl)
  repeat (refine aJ ?_)
  (apply dW; exact fV; exact rfl; exact aB; exact AtsZ.o0 (enc := eN) (sz := 2) (ms := [q.x, q.y, q.z]) (i := j) hj3; exact rfl; exact rfl)
  repeat (refine aJ ?_)
  (apply dW; exact fV; exact rfl; exact aB; exact AtsZ.o0 (enc := eN) (sz := 2) (ms := [p.x, p.y, p.z]) (i := j) hj3; exact rfl; exact rfl)
  repeat (refine aJ ?_)
  (apply dW; exact fV; exact rfl; exact aB; exact AtsZ.o0 (enc := eN) (sz := 2) (ms := [q.x, q.y, q.z]) (i := k) hk3; exact rfl; exact rfl)
  repeat (refine aJ ?_)
  (refine aA rfl (hM (gt [p.x, p.y, p.z] k) (gt [q.x, q.y, q.z] j) _ _ aB aB) rfl rfl ?_; rintro _ _ _ ⟨rfl, g0, rfl, hg0, rfl⟩; refine ⟨okF, ?_⟩)
  (refine aA rfl (hM (gt [p.x, p.y, p.z] j) (gt [q.x, q.y, q.z] k) _ _ aB aB) rfl rfl ?_; rintro _ _ _ ⟨rfl, g1, rfl, hg1, rfl⟩; refine ⟨okF, ?_⟩)
  (refine aA rfl (hS g0 g1 _ _ aB aB) rfl rfl ?_; rintro _ _ _ ⟨rfl, g, rfl, hg, rfl⟩; refine ⟨okF, ?_⟩)
  repeat (refine yXh ?_)
  refine gF (vs := eN g) rfl rfl rfl (Ones.one g) lN (StAts.o0 (enc := wN) (sz := 2) (ms := os) (i := (i : Int)) (some g) ⟨by omega, by omega⟩ rfl) rfl rfl ⟨okF, ?_⟩
  repeat (refine aJ ?_)
  refine rO (φ := kD (st os (i : Int) (some g)) (u + u + 1)) (Hv.oSet aB aB) ?_
  refine aQ (3 - (i + 1)) _ _ _ (by first | omega | (simp only [List.length_append, List.length_cons, List.length_nil]; omega)) aS aG aF (⟨i + 1, st os (i : Int) (some g), by omega, rfl, by rw [nT]; exact hol, fun t ht => by
   rw [pK (by omega) (by omega)]
   by_cases e : t = i
   ·subst e
    rw [if_pos rfl]
    exact ⟨g, rfl, by rw [hg, hg0, hg1]; exact hX p q⟩
   ·rw [if_neg e]
    exact ho t (by omega), rfl, rfl, rfl⟩)
 ·obtain rfl : i = 3 := by omega
  obtain ⟨a, ha, hza⟩ := ho 0 (by omega)
  obtain ⟨b, hb, hzb⟩ := ho 1 (by omega)
  obtain ⟨c, hc, hzc⟩ := ho 2 (by omega)
  refine dV (φ := fZ a (u + u + 1)) (Hv.oAt (os := os) (i := ((0 : Nat) : Int)) aB ⟨by omega, by omega⟩ ha) ?_
  refine dV (φ := fZ b (u + u + 1)) (Hv.oAt (os := os) (i := ((1 : Nat) : Int)) aB ⟨by omega, by omega⟩ hb) ?_
  refine dV (φ := fZ c (u + u + 1)) (Hv.oAt (os := os) (i := ((2 : Nat) : Int)) aB ⟨by omega, by omega⟩ hc) ?_
  refine dV (φ := aY ⟨a, b, c⟩ (u + u + 1)) (Hv.mkZ aB aB aB) ?_
  have e3 : recs wN os = recs eN [a, b, c] := by rw [os3 hol, show gt os 0 = some a from ha, show gt os 1 = some b from hb, show gt os 2 = some c from hc]; rfl
  rw [e3]
  repeat (refine aJ ?_)
  refine bC (cs := recs eN [a, b, c]) (.inl rfl) rfl rfl aB rfl M0 (aY ⟨a, b, c⟩ (u + u + 1) :: I0) aG aF ⟨rfl, ⟨a, b, c⟩, rfl, by show (⟨a.z, b.z, c.z⟩ : T3 Int) = _; rw [hza, hzb, hzc]; rfl, rfl⟩
theorem aCH {p q r : TZ} {u : Nat} (hu : 63 ≤ u) (hu2 : u ≤ 20000000000) (hp : aY p u ∈ I0) (hq : aY q u ∈ I0) (hr : aY r u ∈ I0) : CD Tryz.prog 62 [dE p, dE q, dE r] X w0 M0 I0 (NQ (d3 p.t q.t r.t) (u + u + 1 + u + 3) M0 I0) := by
 have hC := fun M0 I0 h1 h2 => aBF (X := X) (w0 := w0) (M0 := M0) (I0 := I0) (p := p) (q := q) (u := u) (by omega) h1 h2
 have hD := fun (c : TZ) M0 I0 h1 h2 => aHG (X := X) (w0 := w0) (M0 := M0) (I0 := I0) (p := c) (q := r) (k := u + u + 1) (m := u) (by omega) (by omega) h1 h2
 refine bX (φ := aY p u) (Hv.mem hp) (bX (φ := aY q u) (Hv.mem (List.mem_cons_of_mem _ hq)) (bX (φ := aY r u) (Hv.mem (List.mem_cons_of_mem _ (List.mem_cons_of_mem _ hr))) ?_))
 refine oU Tryz.func62 rfl Tryz.ntmps62 rfl ?_
 refine aH ?_
 refine aI ?_
 (refine aK rfl rfl rfl ?_; intro b3; refine ⟨okF, ?_⟩)
 refine aO (cs := kW p) .here ?_
 (refine aK rfl rfl rfl ?_; intro b4; refine ⟨okF, ?_⟩)
 refine aO (cs := kW q) .here ?_
 (refine aK rfl rfl rfl ?_; intro b5; refine ⟨okF, ?_⟩)
 refine aO (cs := kW r) .here ?_
 (refine aC rfl rfl ?_; intro b6; refine ⟨okF, ?_⟩)
 repeat (refine aJ ?_)
 (repeat refine aH ?_); refine bB (M0) (aX (some ⟨b5, 0, none⟩) (kW r) :: aX (some ⟨b4, 0, none⟩) (kW q) :: aX (some ⟨b3, 0, none⟩) (kW p) :: I0) [0, 1, 3, 2, 4, 5] [1, 1, 1, 0, 0, 0] aG aF mixed (by kernel_rfl) ?_
 repeat (refine aJ ?_)
 (refine aA rfl (hC _ _ aB aB) rfl rfl ?_; rintro _ _ _ ⟨rfl, c, rfl, hc, rfl⟩; refine ⟨okF, ?_⟩)
 (refine aA rfl (hD c _ _ aB aB) rfl rfl ?_; rintro _ _ _ ⟨rfl, g, rfl, hg, rfl⟩; refine ⟨okF, ?_⟩)
 repeat (refine aJ ?_)
 refine bC (cs := eN g) (.inl rfl) rfl rfl aB rfl M0 (fZ g (u + u + 1 + u + 3) :: I0) aG aF ⟨rfl, g, rfl, by rw [hg, hc]; rfl, rfl⟩
theorem uX {h : HZ} {u : Nat} (hh : eX h u ∈ I0) : CD Tryz.prog 63 [sN h, .int .i64 0] X w0 M0 I0 (fun v M I => M0 = M ∧ v = dE h.x ∧ I = aY h.x u :: I0) := by
 refine bX (φ := aY h.x u) (Hv.hx hh) ?_
 refine bI Tryz.func63 rfl Tryz.ntmps63 rfl ?_
 refine aH ?_
 refine aI ?_
 (refine aK rfl rfl rfl ?_; intro b2; refine ⟨okF, ?_⟩)
 refine aO (cs := nQ h) .here ?_
 (refine aC rfl rfl ?_; intro b4; refine ⟨okF, ?_⟩)
 repeat (refine aJ ?_)
 (repeat refine aH ?_); refine bB (M0) (aX (some ⟨b2, 0, none⟩) (nQ h) :: I0) [0, 1, 2, 3, 4, 5, 6, 7, 8, 9, 10, 11, 12, 13, 14, 15] [0, 0, 0, 0, 0, 0, 0, 0, 0, 0, 0, 0, 0, 0, 0, 0] aG aF mixed (by kernel_rfl) ?_
 repeat (refine aJ ?_)
 (refine aD rfl (fun _ => iW (vals := [nv h.x.x, nv h.x.y, nv h.x.z]) (cells := kW h.x) rfl ?hpl rfl ?hz) rfl rfl ?_; (case hpl => exact (by intro v hv; repeat (first | exact absurd hv (List.not_mem_nil) | (rcases List.mem_cons.1 hv with rfl | hv; · rfl)))); (case hz => rfl))
 repeat (refine aJ ?_)
 refine bC (cs := kW h.x) (.inl rfl) rfl rfl aB rfl M0 (aY h.x u :: I0) aG aF ⟨rfl, rfl, rfl⟩
theorem vK {h : HZ} {u : Nat} (hh : eX h u ∈ I0) : CD Tryz.prog 63 [sN h, .int .i64 1] X w0 M0 I0 (fun v M I => M0 = M ∧ v = dE h.y ∧ I = aY h.y u :: I0) := by
 refine bX (φ := aY h.y u) (Hv.hy hh) ?_
 refine bI Tryz.func63 rfl Tryz.ntmps63 rfl ?_
 refine aH ?_
 refine aI ?_
 (refine aK rfl rfl rfl ?_; intro b2; refine ⟨okF, ?_⟩)
 refine aO (cs := nQ h) .here ?_
 (refine aC rfl rfl ?_; intro b4; refine ⟨okF, ?_⟩)
 repeat (refine aJ ?_)
 (repeat refine aH ?_); refine bB (M0) (aX (some ⟨b2, 0, none⟩) (nQ h) :: I0) [0, 1, 2, 3, 4, 5, 6, 7, 8, 9, 10, 11, 12, 13, 14, 15] [0, 0, 0, 0, 0, 0, 0, 0, 0, 0, 0, 0, 0, 0, 0, 0] aG aF mixed (by kernel_rfl) ?_
 repeat (refine aJ ?_)
 (refine aD rfl (fun _ => iW (vals := [nv h.y.x, nv h.y.y, nv h.y.z]) (cells := kW h.y) rfl ?hpl rfl ?hz) rfl rfl ?_; (case hpl => exact (by intro v hv; repeat (first | exact absurd hv (List.not_mem_nil) | (rcases List.mem_cons.1 hv with rfl | hv; · rfl)))); (case hz => rfl))
 repeat (refine aJ ?_)
 refine bC (cs := kW h.y) (.inl rfl) rfl rfl aB rfl M0 (aY h.y u :: I0) aG aF ⟨rfl, rfl, rfl⟩
theorem vE {h : HZ} {u : Nat} (hh : eX h u ∈ I0) : CD Tryz.prog 63 [sN h, .int .i64 2] X w0 M0 I0 (fun v M I => M0 = M ∧ v = dE h.z ∧ I = aY h.z u :: I0) := by
 refine bX (φ := aY h.z u) (Hv.hz hh) ?_
 refine bI Tryz.func63 rfl Tryz.ntmps63 rfl ?_
 refine aH ?_
 refine aI ?_
 (refine aK rfl rfl rfl ?_; intro b2; refine ⟨okF, ?_⟩)
 refine aO (cs := nQ h) .here ?_
 (refine aC rfl rfl ?_; intro b4; refine ⟨okF, ?_⟩)
 repeat (refine aJ ?_)
 (repeat refine aH ?_); refine bB (M0) (aX (some ⟨b2, 0, none⟩) (nQ h) :: I0) [0, 1, 2, 3, 4, 5, 6, 7, 8, 9, 10, 11, 12, 13, 14, 15] [0, 0, 0, 0, 0, 0, 0, 0, 0, 0, 0, 0, 0, 0, 0, 0] aG aF mixed (by kernel_rfl) ?_
 repeat (refine aJ ?_)
 (refine aD rfl (fun _ => iW (vals := [nv h.z.x, nv h.z.y, nv h.z.z]) (cells := kW h.z) rfl ?hpl rfl ?hz) rfl rfl ?_; (case hpl => exact (by intro v hv; repeat (first | exact absurd hv (List.not_mem_nil) | (rcases List.mem_cons.1 hv with rfl | hv; · rfl)))); (case hz => rfl))
 repeat (refine aJ ?_)
 refine bC (cs := kW h.z) (.inl rfl) rfl rfl aB rfl M0 (aY h.z u :: I0) aG aF ⟨rfl, rfl, rfl⟩
theorem aCU {h : HZ} {u : Nat} (hh : eX h u ∈ I0) : CD Tryz.prog 115 [sN h, .int .i64 0] X w0 M0 I0 (fun v M I => M0 = M ∧ v = dE h.tr.x ∧ I = aY h.tr.x u :: I0) := by
 refine bX (φ := eX h.tr u) (Hv.htr hh) ?_
 refine bX (φ := aY h.tr.x u) (Hv.hx (List.Mem.head _)) ?_
 refine bI Tryz.func115 rfl Tryz.ntmps115 rfl ?_
 refine aH ?_
 refine aI ?_
 (refine aK rfl rfl rfl ?_; intro b2; refine ⟨okF, ?_⟩)
 refine aO (cs := nQ h) .here ?_
 (refine aC rfl rfl ?_; intro b4; refine ⟨okF, ?_⟩)
 repeat (refine aJ ?_)
 (repeat refine aH ?_); refine bB (M0) (aX (some ⟨b2, 0, none⟩) (nQ h) :: I0) [0, 1, 2, 3, 4, 5, 6, 7, 8, 9, 10, 11, 12] [0, 0, 0, 0, 0, 0, 0, 0, 0, 0, 0, 0, 0] aG aF mixed (by kernel_rfl) ?_
 repeat (refine aJ ?_)
 (refine aD rfl (fun _ => iW (vals := [nv h.x.x, nv h.y.x, nv h.z.x]) (cells := kW h.tr.x) rfl ?hpl rfl ?hz) rfl rfl ?_; (case hpl => exact (by intro v hv; repeat (first | exact absurd hv (List.not_mem_nil) | (rcases List.mem_cons.1 hv with rfl | hv; · rfl)))); (case hz => rfl))
 repeat (refine aJ ?_)
 refine bC (cs := kW h.tr.x) (.inl rfl) rfl rfl aB rfl M0 (aY h.tr.x u :: I0) aG aF ⟨rfl, rfl, rfl⟩
theorem aDM {h : HZ} {u : Nat} (hh : eX h u ∈ I0) : CD Tryz.prog 115 [sN h, .int .i64 1] X w0 M0 I0 (fun v M I => M0 = M ∧ v = dE h.tr.y ∧ I = aY h.tr.y u :: I0) := by
 refine bX (φ := eX h.tr u) (Hv.htr hh) ?_
 refine bX (φ := aY h.tr.y u) (Hv.hy (List.Mem.head _)) ?_
 refine bI Tryz.func115 rfl Tryz.ntmps115 rfl ?_
 refine aH ?_
 refine aI ?_
 (refine aK rfl rfl rfl ?_; intro b2; refine ⟨okF, ?_⟩)
 refine aO (cs := nQ h) .here ?_
 (refine aC rfl rfl ?_; intro b4; refine ⟨okF, ?_⟩)
 repeat (refine aJ ?_)
 (repeat refine aH ?_); refine bB (M0) (aX (some ⟨b2, 0, none⟩) (nQ h) :: I0) [0, 1, 2, 3, 4, 5, 6, 7, 8, 9, 10, 11, 12] [0, 0, 0, 0, 0, 0, 0, 0, 0, 0, 0, 0, 0] aG aF mixed (by kernel_rfl) ?_
 repeat (refine aJ ?_)
 (refine aD rfl (fun _ => iW (vals := [nv h.x.y, nv h.y.y, nv h.z.y]) (cells := kW h.tr.y) rfl ?hpl rfl ?hz) rfl rfl ?_; (case hpl => exact (by intro v hv; repeat (first | exact absurd hv (List.not_mem_nil) | (rcases List.mem_cons.1 hv with rfl | hv; · rfl)))); (case hz => rfl))
 repeat (refine aJ ?_)
 refine bC (cs := kW h.tr.y) (.inl rfl) rfl rfl aB rfl M0 (aY h.tr.y u :: I0) aG aF ⟨rfl, rfl, rfl⟩
theorem aCP {h : HZ} {u : Nat} (hh : eX h u ∈ I0) : CD Tryz.prog 115 [sN h, .int .i64 2] X w0 M0 I0 (fun v M I => M0 = M ∧ v = dE h.tr.z ∧ I = aY h.tr.z u :: I0) := by
 refine bX (φ := eX h.tr u) (Hv.htr hh) ?_
 refine bX (φ := aY h.tr.z u) (Hv.hz (List.Mem.head _)) ?_
 refine bI Tryz.func115 rfl Tryz.ntmps115 rfl ?_
 refine aH ?_
 refine aI ?_
 (refine aK rfl rfl rfl ?_; intro b2; refine ⟨okF, ?_⟩)
 refine aO (cs := nQ h) .here ?_
 (refine aC rfl rfl ?_; intro b4; refine ⟨okF, ?_⟩)
 repeat (refine aJ ?_)
 (repeat refine aH ?_); refine bB (M0) (aX (some ⟨b2, 0, none⟩) (nQ h) :: I0) [0, 1, 2, 3, 4, 5, 6, 7, 8, 9, 10, 11, 12] [0, 0, 0, 0, 0, 0, 0, 0, 0, 0, 0, 0, 0] aG aF mixed (by kernel_rfl) ?_
 repeat (refine aJ ?_)
 (refine aD rfl (fun _ => iW (vals := [nv h.x.z, nv h.y.z, nv h.z.z]) (cells := kW h.tr.z) rfl ?hpl rfl ?hz) rfl rfl ?_; (case hpl => exact (by intro v hv; repeat (first | exact absurd hv (List.not_mem_nil) | (rcases List.mem_cons.1 hv with rfl | hv; · rfl)))); (case hz => rfl))
 repeat (refine aJ ?_)
 refine bC (cs := kW h.tr.z) (.inl rfl) rfl rfl aB rfl M0 (aY h.tr.z u :: I0) aG aF ⟨rfl, rfl, rfl⟩
theorem wC {p q r : TZ} {u : Nat} (hp : aY p u ∈ I0) (hq : aY q u ∈ I0) (hr : aY r u ∈ I0) : CD Tryz.prog 112 [dE p, dE q, dE r] X w0 M0 I0 (fun v M I => M0 = M ∧ v = sN ⟨p, q, r⟩ ∧ I = eX ⟨p, q, r⟩ u :: I0) := by
 refine bX (φ := aY p u) (Hv.mem hp) (bX (φ := aY q u) (Hv.mem (List.mem_cons_of_mem _ hq)) (bX (φ := aY r u) (Hv.mem (List.mem_cons_of_mem _ (List.mem_cons_of_mem _ hr))) ?_))
 refine bX (φ := eX ⟨p, q, r⟩ u) (Hv.mkH aB aB aB) ?_
 refine oU Tryz.func112 rfl Tryz.ntmps112 rfl ?_
 refine aH ?_
 refine aI ?_
 (refine aK rfl rfl rfl ?_; intro b3; refine ⟨okF, ?_⟩)
 refine aO (cs := kW p) .here ?_
 (refine aK rfl rfl rfl ?_; intro b4; refine ⟨okF, ?_⟩)
 refine aO (cs := kW q) .here ?_
 (refine aK rfl rfl rfl ?_; intro b5; refine ⟨okF, ?_⟩)
 refine aO (cs := kW r) .here ?_
 (refine aC rfl rfl ?_; intro b6; refine ⟨okF, ?_⟩)
 repeat (refine aJ ?_)
 (refine aD rfl (fun _ => iW (vals := [nv p.x, nv p.y, nv p.z, nv q.x, nv q.y, nv q.z, nv r.x, nv r.y, nv r.z]) (cells := nQ ⟨p, q, r⟩) rfl ?hpl rfl ?hz) rfl rfl ?_; (case hpl => exact (by intro v hv; repeat (first | exact absurd hv (List.not_mem_nil) | (rcases List.mem_cons.1 hv with rfl | hv; · rfl)))); (case hz => rfl))
 repeat (refine aJ ?_)
 refine bC (cs := nQ ⟨p, q, r⟩) (.inl rfl) rfl rfl aB rfl M0 (eX ⟨p, q, r⟩ u :: I0) aG aF ⟨rfl, rfl, rfl⟩
theorem aBY {h : HZ} {u : Nat} (hh : eX h u ∈ I0) : CD Tryz.prog 52 [sN h] X w0 M0 I0 (fun v M I => M0 = M ∧ v = sN h.tr ∧ I = eX h.tr u :: I0) := by
 have h0 := fun M0 I0 h1 => aCU (X := X) (w0 := w0) (M0 := M0) (I0 := I0) (h := h) (u := u) h1
 have h1 := fun M0 I0 h1 => aDM (X := X) (w0 := w0) (M0 := M0) (I0 := I0) (h := h) (u := u) h1
 have h2 := fun M0 I0 h1 => aCP (X := X) (w0 := w0) (M0 := M0) (I0 := I0) (h := h) (u := u) h1
 have hR := fun M0 I0 h1 h2 h3 => wC (X := X) (w0 := w0) (M0 := M0) (I0 := I0) (p := h.tr.x) (q := h.tr.y) (r := h.tr.z) (u := u) h1 h2 h3
 refine bX (φ := eX h u) (Hv.mem hh) ?_
 refine bV Tryz.func52 rfl Tryz.ntmps52 rfl ?_
 refine aH ?_
 refine aI ?_
 (refine aK rfl rfl rfl ?_; intro b1; refine ⟨okF, ?_⟩)
 refine aO (cs := nQ h) .here ?_
 (refine aC rfl rfl ?_; intro b2; refine ⟨okF, ?_⟩)
 repeat (refine aJ ?_)
 (repeat refine aH ?_); refine bB (M0) (aX (some ⟨b1, 0, none⟩) (nQ h) :: I0) [0, 2, 4, 1, 3, 5, 6, 7] [3, 3, 3, 0, 0, 0, 0, 0] aG aF mixed (by kernel_rfl) ?_
 repeat (refine aJ ?_)
 (refine aA rfl (h0 _ _ aB) rfl rfl ?_; rintro _ _ _ ⟨rfl, rfl, rfl⟩; refine ⟨okF, ?_⟩)
 (refine aA rfl (h1 _ _ aB) rfl rfl ?_; rintro _ _ _ ⟨rfl, rfl, rfl⟩; refine ⟨okF, ?_⟩)
 (refine aA rfl (h2 _ _ aB) rfl rfl ?_; rintro _ _ _ ⟨rfl, rfl, rfl⟩; refine ⟨okF, ?_⟩)
 (refine aA rfl (hR _ _ aB aB aB) rfl rfl ?_; rintro _ _ _ ⟨rfl, rfl, rfl⟩; refine ⟨okF, ?_⟩)
 repeat (refine aJ ?_)
 refine bC (cs := nQ h.tr) (.inl rfl) rfl rfl aB rfl M0 (eX h.tr u :: I0) aG aF ⟨rfl, rfl, rfl⟩
theorem zV {h : HZ} {p : TZ} {k m : Nat} (hk : 63 ≤ k + m) (hk2 : k + m ≤ 100000000000) (hh : eX h k ∈ I0) (hp : aY p m ∈ I0) : CD Tryz.prog 114 [sN h, dE p] X w0 M0 I0 (VQ (h.m.app p.t) (k + m + 3) M0 I0) := by
 have h0 := fun M0 I0 h1 => uX (X := X) (w0 := w0) (M0 := M0) (I0 := I0) (h := h) (u := k) h1
 have h1 := fun M0 I0 h1 => vK (X := X) (w0 := w0) (M0 := M0) (I0 := I0) (h := h) (u := k) h1
 have h2 := fun M0 I0 h1 => vE (X := X) (w0 := w0) (M0 := M0) (I0 := I0) (h := h) (u := k) h1
 have hD := fun (c : TZ) M0 I0 h1 h2 => aHG (X := X) (w0 := w0) (M0 := M0) (I0 := I0) (p := c) (q := p) (k := k) (m := m) hk hk2 h1 h2
 refine bX (φ := eX h k) (Hv.mem hh) (bX (φ := aY p m) (Hv.mem (List.mem_cons_of_mem _ hp)) ?_)
 refine bI Tryz.func114 rfl Tryz.ntmps114 rfl ?_
 refine aH ?_
 refine aI ?_
 (refine aK rfl rfl rfl ?_; intro b2; refine ⟨okF, ?_⟩)
 refine aO (cs := nQ h) .here ?_
 (refine aK rfl rfl rfl ?_; intro b3; refine ⟨okF, ?_⟩)
 refine aO (cs := kW p) .here ?_
 (refine aC rfl rfl ?_; intro b4; refine ⟨okF, ?_⟩)
 repeat (refine aJ ?_)
 (repeat refine aH ?_); refine bB (M0) (aX (some ⟨b3, 0, none⟩) (kW p) :: aX (some ⟨b2, 0, none⟩) (nQ h) :: I0) [0, 2, 4, 6, 8, 10, 1, 3, 5, 7, 9, 11, 12, 13] [5, 5, 5, 5, 5, 5, 0, 0, 0, 0, 0, 0, 0, 0] aG aF mixed (by kernel_rfl) ?_
 repeat (refine aJ ?_)
 (refine aA rfl (h0 _ _ aB) rfl rfl ?_; rintro _ _ _ ⟨rfl, rfl, rfl⟩; refine ⟨okF, ?_⟩)
 (refine aA rfl (hD h.x _ _ aB aB) rfl rfl ?_; rintro _ _ _ ⟨rfl, g0, rfl, hg0, rfl⟩; refine ⟨okF, ?_⟩)
 (refine aA rfl (h1 _ _ aB) rfl rfl ?_; rintro _ _ _ ⟨rfl, rfl, rfl⟩; refine ⟨okF, ?_⟩)
 (refine aA rfl (hD h.y _ _ aB aB) rfl rfl ?_; rintro _ _ _ ⟨rfl, g1, rfl, hg1, rfl⟩; refine ⟨okF, ?_⟩)
 (refine aA rfl (h2 _ _ aB) rfl rfl ?_; rintro _ _ _ ⟨rfl, rfl, rfl⟩; refine ⟨okF, ?_⟩)
 (refine aA rfl (hD h.z _ _ aB aB) rfl rfl ?_; rintro _ _ _ ⟨rfl, g2, rfl, hg2, rfl⟩; refine ⟨okF, ?_⟩)
 refine tO (φ := aY ⟨g0, g1, g2⟩ (k + m + 3)) (Hv.mkZ aB aB aB) ?_
 (refine aD rfl (fun _ => iW (vals := [nv g0, nv g1, nv g2]) (cells := kW ⟨g0, g1, g2⟩) rfl ?hpl rfl ?hz) rfl rfl ?_; (case hpl => exact (by intro v hv; repeat (first | exact absurd hv (List.not_mem_nil) | (rcases List.mem_cons.1 hv with rfl | hv; · rfl)))); (case hz => rfl))
 repeat (refine aJ ?_)
 refine bC (cs := kW ⟨g0, g1, g2⟩) (.inl rfl) rfl rfl aB rfl M0 (aY ⟨g0, g1, g2⟩ (k + m + 3) :: I0) aG aF ⟨rfl, ⟨g0, g1, g2⟩, rfl, by show (⟨g0.z, g1.z, g2.z⟩ : T3 Int) = _; rw [hg0, hg1, hg2]; rfl, rfl⟩
end
end Go.Proofs.YtmmmfphealhapaaGreat
