/- Vectors and matrices of integers: cross products, rows, columns, products of matrices with vectors. -/
import Derived.Test.YtjbhdfpjnjedhaaGreatZqay
import Derived.Test.YtjbhdfpjnjedhaaGreatZqau
set_option linter.unusedSimpArgs false
set_option linter.unusedVariables false
set_option maxRecDepth 100000
set_option maxHeartbeats 4000000
namespace Go.Proofs.YtjbhdfpjnjedhaaGreat
open Go Go.Fx
structure HZ where
 x : TZ
 y : TZ
 z : TZ
instance HZ.inh : Inhabited HZ := ⟨⟨default, default, default⟩⟩
abbrev lV (h : HZ) : List Value := recs eN [h.x.x, h.x.y, h.x.z, h.y.x, h.y.y, h.y.z, h.z.x, h.z.y, h.z.z]
abbrev gZ (h : HZ) : Value := .agg (recs eN [h.x.x, h.x.y, h.x.z, h.y.x, h.y.y, h.y.z, h.z.x, h.z.y, h.z.z]).toArray
def HZ.m (h : HZ) : M9 Int := ⟨h.x.t, h.y.t, h.z.t⟩
def HZ.tr (h : HZ) : HZ := ⟨⟨h.x.x, h.y.x, h.z.x⟩, ⟨h.x.y, h.y.y, h.z.y⟩, ⟨h.x.z, h.y.z, h.z.z⟩⟩
theorem HZ.tr_m (h : HZ) : h.tr.m = h.m.tr := rfl
structure IsHZ (h : HZ) (k : Nat) (X : List Nat) (w : World) : Prop where
 x : IsTZ h.x k X w
 y : IsTZ h.y k X w
 z : IsTZ h.z k X w
abbrev dY (h : HZ) (k : Nat) : aT := IsHZ h k
instance (h : HZ) (k : Nat) : Fx.Good (IsHZ h k) := ⟨fun X Y w w' h he hY => ⟨Fx.Good.go (φ := IsTZ _ _) X Y w w' h.x he hY, Fx.Good.go (φ := IsTZ _ _) X Y w w' h.y he hY, Fx.Good.go (φ := IsTZ _ _) X Y w w' h.z he hY⟩⟩
theorem Hv.hx {I : List aT} {h : HZ} {k : Nat} (hh : dY h k ∈ I) : Hv I (aX h.x k) := ⟨fun X w hw => (hw _ hh : IsHZ h k X w).x⟩
theorem Hv.hy {I : List aT} {h : HZ} {k : Nat} (hh : dY h k ∈ I) : Hv I (aX h.y k) := ⟨fun X w hw => (hw _ hh : IsHZ h k X w).y⟩
theorem Hv.hz {I : List aT} {h : HZ} {k : Nat} (hh : dY h k ∈ I) : Hv I (aX h.z k) := ⟨fun X w hw => (hw _ hh : IsHZ h k X w).z⟩
theorem Hv.mkH {I : List aT} {a b c : TZ} {k : Nat} (ha : aX a k ∈ I) (hb : aX b k ∈ I) (hc : aX c k ∈ I) : Hv I (dY ⟨a, b, c⟩ k) := ⟨fun X w hw => ⟨hw _ ha, hw _ hb, hw _ hc⟩⟩
theorem Hv.htr {I : List aT} {h : HZ} {k : Nat} (hh : dY h k ∈ I) : Hv I (dY h.tr k) := ⟨fun X w hw => by
 have h1 : IsHZ h k X w := hw _ hh
 exact ⟨⟨h1.x.x, h1.y.x, h1.z.x⟩, ⟨h1.x.y, h1.y.y, h1.z.y⟩, ⟨h1.x.z, h1.y.z, h1.z.z⟩⟩⟩
def HQ (q : M9 Int) (k : Nat) (M0 : List Ent) (I0 : List aT) (v : Value) (M : List Ent) (I : List aT) : Prop := M0 = M ∧ ∃ h : HZ, v = gZ h ∧ h.m = q ∧ I = dY h k :: I0
def TZ.cr (p q : TZ) (i : Nat) : Int := if i = 0 then (p.t.cross q.t).a else if i = 1 then (p.t.cross q.t).b else (p.t.cross q.t).c
theorem aYT {i : Nat} (h : i < 3) : ∃ k j : Int, Int.tmod ((i : Int) + 1) 3 = k ∧ Int.tmod ((i : Int) + 2) 3 = j ∧ (0 ≤ k ∧ k < 3) ∧ (0 ≤ j ∧ j < 3) ∧ ∀ p q : TZ, (gt [p.x, p.y, p.z] k).z * (gt [q.x, q.y, q.z] j).z - (gt [p.x, p.y, p.z] j).z * (gt [q.x, q.y, q.z] k).z = p.cr q i := by
 obtain rfl | rfl | rfl : i = 0 ∨ i = 1 ∨ i = 2 := by omega
 ·exact ⟨1, 2, rfl, rfl, by decide, by decide, fun p q => rfl⟩
 ·exact ⟨2, 0, rfl, rfl, by decide, by decide, fun p q => rfl⟩
 ·exact ⟨0, 1, rfl, rfl, by decide, by decide, fun p q => rfl⟩
section
variable {X : List Nat} {w0 : World} {M0 : List Ent} {I0 : List aT}
theorem aDH {p q : TZ} {u : Nat} (hu : u ≤ 100000) (hp : aX p u ∈ I0) (hq : aX q u ∈ I0) : CD Tryz.prog 191 [dK p, dK q] X w0 M0 I0 (VQ (p.t.cross q.t) (u + u + 1) M0 I0) := by
 have hM := fun (a b : ZE) M0 I0 h1 h2 => NMul (X := X) (w0 := w0) (M0 := M0) (I0 := I0) (a := a) (b := b) (k := u) (m := u) (by omega) h1 h2
 have hS := fun (a b : ZE) M0 I0 h1 h2 => NSub (X := X) (w0 := w0) (M0 := M0) (I0 := I0) (a := a) (b := b) (k := u + u) (c := u + u + 1) (by omega) (by omega) h1 h2
 refine bK (φ := aX p u) (Hv.mem hp) (bK (φ := aX q u) (Hv.mem (List.mem_cons_of_mem _ hq)) ?_)
 refine bL Tryz.func191 rfl Tryz.ntmps191 rfl ?_
 refine aH ?_
 refine aI ?_
 (refine aV rfl rfl rfl ?_; intro b2; refine ⟨okF, ?_⟩)
 refine aO (cs := lW p) .here ?_
 (refine aV rfl rfl rfl ?_; intro b3; refine ⟨okF, ?_⟩)
 refine aO (cs := lW q) .here ?_
 (refine aF rfl rfl ?_; intro b4; refine ⟨okF, ?_⟩)
 repeat (refine aJ ?_)
 (refine aF rfl rfl ?_; intro b5; refine ⟨okF, ?_⟩)
 repeat (refine aJ ?_)
 refine dV (φ := nS [none, none, none] (u + u + 1)) (Hv.oNil (n := 3)) ?_
 refine aZ [2, 3, 4, 5] rfl (fun k G M I => ∃ (i : Nat) (os : List (Option ZE)), i ≤ 3 ∧ k = 3 - i ∧ os.length = 3 ∧ (∀ j : Nat, j < i → ∃ e : ZE, gt os (j : Int) = some e ∧ e.z = p.cr q j) ∧ G = [(9, .int .i64 i)] ∧ M = .blk b5 (recs wN os) 166 :: .blk b4 (zN ++ (zN ++ zN)) 166 :: M0 ∧ I = nS os (u + u + 1) :: aR (some ⟨b3, 0, none⟩) (lW q) :: aR (some ⟨b2, 0, none⟩) (lW p) :: aX q u :: aX p u :: I0) (3) _ _ _ aL aG aD (⟨0, [none, none, none], by omega, rfl, rfl, fun j hj => absurd hj (by omega), rfl, rfl, rfl⟩) ?_
 rintro kk G M I ⟨i, os, hi, rfl, hol, ho, rfl, rfl, rfl⟩
 by_cases hii : i < 3
 ·obtain ⟨k, j, hk, hj, hk3, hj3, hX⟩ := aYT hii
  refine dV (φ := jM (gt [p.x, p.y, p.z] k) u) (Hv.zAt aB hk3) ?_
  refine dV (φ := jM (gt [p.x, p.y, p.z] j) u) (Hv.zAt (p := p) (k := u) aB hj3) ?_
  refine dV (φ := jM (gt [q.x, q.y, q.z] k) u) (Hv.zAt (p := q) (k := u) aB hk3) ?_
  refine dV (φ := jM (gt [q.x, q.y, q.z] j) u) (Hv.zAt (p := q) (k := u) aB hj3) ?_
  repeat (refine aJ ?_)
  rw [hk, hj]
  (repeat refine aH ?_); refine bS (M0) (aR (some ⟨b3, 0, none⟩) (lW q) :: aR (some ⟨b2, 0, none⟩) (lW p) :: I0) [0, 1, 2, 3, 4, 5, 6, 8, 9, 10, 11, 12, 13, 7, 14, 15, 16, 17] [3, 3, 3, 2, 3, 3, 2, 3, 3, 2, 3, 3, 2, 0, 0, 0, 0, 0] aG aD mixed (by kernel_rfl) ?_
  repeat (refine aJ ?_)
  (apply dG; exact dX; exact rfl; exact aB; exact AtsZ.o0 (enc := eN) (sz := 2) (ms := [p.x, p.y, p.z]) (i := k) hk3; exact rfl; exact rfl)
  repeat (refine aJ ?_)
  (apply dG; exact dX; exact rfl; exact aB; exact AtsZ.o0 (enc := eN) (sz := 2) (ms := [q.x, q.y, q.z]) (i := j) hj3; exact rfl; exact rfl)
  repeat (refine aJ ?_)
  (apply dG; exact dX; exact rfl; exact aB; exact AtsZ.o0 (enc := eN) (sz := 2) (ms := [p.x, p.y, p.z]) (i := j) hj3; exact rfl; exact rfl)
  repeat (refine aJ ?_)
  (apply dG; exact dX; exact rfl; exact aB; exact AtsZ.o0 (enc := eN) (sz := 2) (ms := [q.x, q.y, q.z]) (i := k) hk3; exact rfl; exact rfl)
  repeat (refine aJ ?_)
  (refine aA rfl (hM (gt [p.x, p.y, p.z] k) (gt [q.x, q.y, q.z] j) _ _ aB aB) rfl rfl ?_; rintro _ _ _ ⟨rfl, g0, rfl, hg0, rfl⟩; refine ⟨okF, ?_⟩)
  (refine aA rfl (hM (gt [p.x, p.y, p.z] j) (gt [q.x, q.y, q.z] k) _ _ aB aB) rfl rfl ?_; rintro _ _ _ ⟨rfl, g1, rfl, hg1, rfl⟩; refine ⟨okF, ?_⟩)
  (refine aA rfl (hS g0 g1 _ _ aB aB) rfl rfl ?_; rintro _ _ _ ⟨rfl, g, rfl, hg, rfl⟩; refine ⟨okF, ?_⟩)
  repeat (refine yXh ?_)
  refine fD (vs := eN g) rfl rfl rfl (Ones.one g) kH (StAts.o0 (enc := wN) (sz := 2) (ms := os) (i := (i : Int)) (some g) ⟨by omega, by omega⟩ rfl) rfl rfl ⟨okF, ?_⟩
  repeat (refine aJ ?_)
  refine iI (φ := nS (st os (i : Int) (some g)) (u + u + 1)) (Hv.oSet aB aB) ?_
  refine aK (3 - (i + 1)) _ _ _ (by first | omega | (simp only [List.length_append, List.length_cons, List.length_nil]; omega)) aL aG aD (⟨i + 1, st os (i : Int) (some g), by omega, rfl, by rw [uX]; exact hol, fun t ht => by
   rw [vG (by omega) (by omega)]
   by_cases e : t = i
   ·subst e
    rw [if_pos rfl]
    exact ⟨g, rfl, by rw [hg, hg0, hg1]; exact hX p q⟩
   ·rw [if_neg e]
    exact ho t (by omega), rfl, rfl, rfl⟩)
 ·obtain rfl : i = 3 := by omega
  obtain ⟨a, ha, hza⟩ := ho 0 (by omega)
  obtain ⟨b, hb, hzb⟩ := ho 1 (by omega)
  obtain ⟨c, hc, hzc⟩ := ho 2 (by omega)
  refine dV (φ := jM a (u + u + 1)) (Hv.oAt (os := os) (i := ((0 : Nat) : Int)) aB ⟨by omega, by omega⟩ ha) ?_
  refine dV (φ := jM b (u + u + 1)) (Hv.oAt (os := os) (i := ((1 : Nat) : Int)) aB ⟨by omega, by omega⟩ hb) ?_
  refine dV (φ := jM c (u + u + 1)) (Hv.oAt (os := os) (i := ((2 : Nat) : Int)) aB ⟨by omega, by omega⟩ hc) ?_
  refine dV (φ := aX ⟨a, b, c⟩ (u + u + 1)) (Hv.mkZ aB aB aB) ?_
  have e3 : recs wN os = recs eN [a, b, c] := by rw [os3 hol, show gt os 0 = some a from ha, show gt os 1 = some b from hb, show gt os 2 = some c from hc]; rfl
  rw [e3]
  repeat (refine aJ ?_)
  refine bJ (cs := recs eN [a, b, c]) (.inl rfl) rfl rfl aB rfl M0 (aX ⟨a, b, c⟩ (u + u + 1) :: I0) aG aD ⟨rfl, ⟨a, b, c⟩, rfl, by show (⟨a.z, b.z, c.z⟩ : T3 Int) = _; rw [hza, hzb, hzc]; rfl, rfl⟩
theorem aVV {p q r : TZ} {u : Nat} (hu : 63 ≤ u) (hu2 : u ≤ 20000) (hp : aX p u ∈ I0) (hq : aX q u ∈ I0) (hr : aX r u ∈ I0) : CD Tryz.prog 184 [dK p, dK q, dK r] X w0 M0 I0 (NQ (d3 p.t q.t r.t) (u + u + 1 + u + 3) M0 I0) := by
 have hC := fun M0 I0 h1 h2 => aDH (X := X) (w0 := w0) (M0 := M0) (I0 := I0) (p := p) (q := q) (u := u) (by omega) h1 h2
 have hD := fun (c : TZ) M0 I0 h1 h2 => aMC (X := X) (w0 := w0) (M0 := M0) (I0 := I0) (p := c) (q := r) (k := u + u + 1) (m := u) (by omega) (by omega) h1 h2
 refine bK (φ := aX p u) (Hv.mem hp) (bK (φ := aX q u) (Hv.mem (List.mem_cons_of_mem _ hq)) (bK (φ := aX r u) (Hv.mem (List.mem_cons_of_mem _ (List.mem_cons_of_mem _ hr))) ?_))
 refine kZ Tryz.func184 rfl Tryz.ntmps184 rfl ?_
 refine aH ?_
 refine aI ?_
 (refine aV rfl rfl rfl ?_; intro b3; refine ⟨okF, ?_⟩)
 refine aO (cs := lW p) .here ?_
 (refine aV rfl rfl rfl ?_; intro b4; refine ⟨okF, ?_⟩)
 refine aO (cs := lW q) .here ?_
 (refine aV rfl rfl rfl ?_; intro b5; refine ⟨okF, ?_⟩)
 refine aO (cs := lW r) .here ?_
 (refine aF rfl rfl ?_; intro b6; refine ⟨okF, ?_⟩)
 repeat (refine aJ ?_)
 (repeat refine aH ?_); refine bS (M0) (aR (some ⟨b5, 0, none⟩) (lW r) :: aR (some ⟨b4, 0, none⟩) (lW q) :: aR (some ⟨b3, 0, none⟩) (lW p) :: I0) [0, 1, 3, 2, 4, 5] [1, 1, 1, 0, 0, 0] aG aD mixed (by kernel_rfl) ?_
 repeat (refine aJ ?_)
 (refine aA rfl (hC _ _ aB aB) rfl rfl ?_; rintro _ _ _ ⟨rfl, c, rfl, hc, rfl⟩; refine ⟨okF, ?_⟩)
 (refine aA rfl (hD c _ _ aB aB) rfl rfl ?_; rintro _ _ _ ⟨rfl, g, rfl, hg, rfl⟩; refine ⟨okF, ?_⟩)
 repeat (refine aJ ?_)
 refine bJ (cs := eN g) (.inl rfl) rfl rfl aB rfl M0 (jM g (u + u + 1 + u + 3) :: I0) aG aD ⟨rfl, g, rfl, by rw [hg, hc]; rfl, rfl⟩
theorem aGY {h : HZ} {u : Nat} (hh : dY h u ∈ I0) : CD Tryz.prog 190 [gZ h, .int .i64 0] X w0 M0 I0 (fun v M I => M0 = M ∧ v = dK h.x ∧ I = aX h.x u :: I0) := by
 refine bK (φ := aX h.x u) (Hv.hx hh) ?_
 refine bL Tryz.func190 rfl Tryz.ntmps190 rfl ?_
 refine aH ?_
 refine aI ?_
 (refine aV rfl rfl rfl ?_; intro b2; refine ⟨okF, ?_⟩)
 refine aO (cs := lV h) .here ?_
 (refine aF rfl rfl ?_; intro b4; refine ⟨okF, ?_⟩)
 repeat (refine aJ ?_)
 (repeat refine aH ?_); refine bS (M0) (aR (some ⟨b2, 0, none⟩) (lV h) :: I0) [0, 1, 2, 3, 4, 5, 6, 7, 8, 9, 10, 11, 12, 13, 14, 15] [0, 0, 0, 0, 0, 0, 0, 0, 0, 0, 0, 0, 0, 0, 0, 0] aG aD mixed (by kernel_rfl) ?_
 repeat (refine aJ ?_)
 (refine aC rfl (fun _ => fG (vals := [nv h.x.x, nv h.x.y, nv h.x.z]) (cells := lW h.x) rfl ?hpl rfl ?hz) rfl rfl ?_; (case hpl => exact (by intro v hv; repeat (first | exact absurd hv (List.not_mem_nil) | (rcases List.mem_cons.1 hv with rfl | hv; · rfl)))); (case hz => rfl))
 repeat (refine aJ ?_)
 refine bJ (cs := lW h.x) (.inl rfl) rfl rfl aB rfl M0 (aX h.x u :: I0) aG aD ⟨rfl, rfl, rfl⟩
theorem aGS {h : HZ} {u : Nat} (hh : dY h u ∈ I0) : CD Tryz.prog 190 [gZ h, .int .i64 1] X w0 M0 I0 (fun v M I => M0 = M ∧ v = dK h.y ∧ I = aX h.y u :: I0) := by
 refine bK (φ := aX h.y u) (Hv.hy hh) ?_
 refine bL Tryz.func190 rfl Tryz.ntmps190 rfl ?_
 refine aH ?_
 refine aI ?_
 (refine aV rfl rfl rfl ?_; intro b2; refine ⟨okF, ?_⟩)
 refine aO (cs := lV h) .here ?_
 (refine aF rfl rfl ?_; intro b4; refine ⟨okF, ?_⟩)
 repeat (refine aJ ?_)
 (repeat refine aH ?_); refine bS (M0) (aR (some ⟨b2, 0, none⟩) (lV h) :: I0) [0, 1, 2, 3, 4, 5, 6, 7, 8, 9, 10, 11, 12, 13, 14, 15] [0, 0, 0, 0, 0, 0, 0, 0, 0, 0, 0, 0, 0, 0, 0, 0] aG aD mixed (by kernel_rfl) ?_
 repeat (refine aJ ?_)
 (refine aC rfl (fun _ => fG (vals := [nv h.y.x, nv h.y.y, nv h.y.z]) (cells := lW h.y) rfl ?hpl rfl ?hz) rfl rfl ?_; (case hpl => exact (by intro v hv; repeat (first | exact absurd hv (List.not_mem_nil) | (rcases List.mem_cons.1 hv with rfl | hv; · rfl)))); (case hz => rfl))
 repeat (refine aJ ?_)
 refine bJ (cs := lW h.y) (.inl rfl) rfl rfl aB rfl M0 (aX h.y u :: I0) aG aD ⟨rfl, rfl, rfl⟩
theorem aHN {h : HZ} {u : Nat} (hh : dY h u ∈ I0) : CD Tryz.prog 190 [gZ h, .int .i64 2] X w0 M0 I0 (fun v M I => M0 = M ∧ v = dK h.z ∧ I = aX h.z u :: I0) := by
 refine bK (φ := aX h.z u) (Hv.hz hh) ?_
 refine bL Tryz.func190 rfl Tryz.ntmps190 rfl ?_
 refine aH ?_
 refine aI ?_
 (refine aV rfl rfl rfl ?_; intro b2; refine ⟨okF, ?_⟩)
 refine aO (cs := lV h) .here ?_
 (refine aF rfl rfl ?_; intro b4; refine ⟨okF, ?_⟩)
 repeat (refine aJ ?_)
 (repeat refine aH ?_); refine bS (M0) (aR (some ⟨b2, 0, none⟩) (lV h) :: I0) [0, 1, 2, 3, 4, 5, 6, 7, 8, 9, 10, 11, 12, 13, 14, 15] [0, 0, 0, 0, 0, 0, 0, 0, 0, 0, 0, 0, 0, 0, 0, 0] aG aD mixed (by kernel_rfl) ?_
 repeat (refine aJ ?_)
 (refine aC rfl (fun _ => fG (vals := [nv h.z.x, nv h.z.y, nv h.z.z]) (cells := lW h.z) rfl ?hpl rfl ?hz) rfl rfl ?_; (case hpl => exact (by intro v hv; repeat (first | exact absurd hv (List.not_mem_nil) | (rcases List.mem_cons.1 hv with rfl | hv; · rfl)))); (case hz => rfl))
 repeat (refine aJ ?_)
 refine bJ (cs := lW h.z) (.inl rfl) rfl rfl aB rfl M0 (aX h.z u :: I0) aG aD ⟨rfl, rfl, rfl⟩
theorem aHG {h : HZ} {u : Nat} (hh : dY h u ∈ I0) : CD Tryz.prog 189 [gZ h, .int .i64 0] X w0 M0 I0 (fun v M I => M0 = M ∧ v = dK h.tr.x ∧ I = aX h.tr.x u :: I0) := by
 refine bK (φ := dY h.tr u) (Hv.htr hh) ?_
 refine bK (φ := aX h.tr.x u) (Hv.hx (List.Mem.head _)) ?_
 refine bL Tryz.func189 rfl Tryz.ntmps189 rfl ?_
 refine aH ?_
 refine aI ?_
 (refine aV rfl rfl rfl ?_; intro b2; refine ⟨okF, ?_⟩)
 refine aO (cs := lV h) .here ?_
 (refine aF rfl rfl ?_; intro b4; refine ⟨okF, ?_⟩)
 repeat (refine aJ ?_)
 (repeat refine aH ?_); refine bS (M0) (aR (some ⟨b2, 0, none⟩) (lV h) :: I0) [0, 1, 2, 3, 4, 5, 6, 7, 8, 9, 10, 11, 12] [0, 0, 0, 0, 0, 0, 0, 0, 0, 0, 0, 0, 0] aG aD mixed (by kernel_rfl) ?_
 repeat (refine aJ ?_)
 (refine aC rfl (fun _ => fG (vals := [nv h.x.x, nv h.y.x, nv h.z.x]) (cells := lW h.tr.x) rfl ?hpl rfl ?hz) rfl rfl ?_; (case hpl => exact (by intro v hv; repeat (first | exact absurd hv (List.not_mem_nil) | (rcases List.mem_cons.1 hv with rfl | hv; · rfl)))); (case hz => rfl))
 repeat (refine aJ ?_)
 refine bJ (cs := lW h.tr.x) (.inl rfl) rfl rfl aB rfl M0 (aX h.tr.x u :: I0) aG aD ⟨rfl, rfl, rfl⟩
theorem aHU {h : HZ} {u : Nat} (hh : dY h u ∈ I0) : CD Tryz.prog 189 [gZ h, .int .i64 1] X w0 M0 I0 (fun v M I => M0 = M ∧ v = dK h.tr.y ∧ I = aX h.tr.y u :: I0) := by
 refine bK (φ := dY h.tr u) (Hv.htr hh) ?_
 refine bK (φ := aX h.tr.y u) (Hv.hy (List.Mem.head _)) ?_
 refine bL Tryz.func189 rfl Tryz.ntmps189 rfl ?_
 refine aH ?_
 refine aI ?_
 (refine aV rfl rfl rfl ?_; intro b2; refine ⟨okF, ?_⟩)
 refine aO (cs := lV h) .here ?_
 (refine aF rfl rfl ?_; intro b4; refine ⟨okF, ?_⟩)
 repeat (refine aJ ?_)
 (repeat refine aH ?_); refine bS (M0) (aR (some ⟨b2, 0, none⟩) (lV h) :: I0) [0, 1, 2, 3, 4, 5, 6, 7, 8, 9, 10, 11, 12] [0, 0, 0, 0, 0, 0, 0, 0, 0, 0, 0, 0, 0] aG aD mixed (by kernel_rfl) ?_
 repeat (refine aJ ?_)
 (refine aC rfl (fun _ => fG (vals := [nv h.x.y, nv h.y.y, nv h.z.y]) (cells := lW h.tr.y) rfl ?hpl rfl ?hz) rfl rfl ?_; (case hpl => exact (by intro v hv; repeat (first | exact absurd hv (List.not_mem_nil) | (rcases List.mem_cons.1 hv with rfl | hv; · rfl)))); (case hz => rfl))
 repeat (refine aJ ?_)
 refine bJ (cs := lW h.tr.y) (.inl rfl) rfl rfl aB rfl M0 (aX h.tr.y u :: I0) aG aD ⟨rfl, rfl, rfl⟩
theorem aFX {h : HZ} {u : Nat} (hh : dY h u ∈ I0) : CD Tryz.prog 189 [gZ h, .int .i64 2] X w0 M0 I0 (fun v M I => M0 = M ∧ v = dK h.tr.z ∧ I = aX h.tr.z u :: I0) := by
 refine bK (φ := dY h.tr u) (Hv.htr hh) ?_
 refine bK (φ := aX h.tr.z u) (Hv.hz (List.Mem.head _)) ?_
 refine bL Tryz.func189 rfl Tryz.ntmps189 rfl ?_
 refine aH ?_
 refine aI ?_
 (refine aV rfl rfl rfl ?_; intro b2; refine ⟨okF, ?_⟩)
 refine aO (cs := lV h) .here ?_
 (refine aF rfl rfl ?_; intro b4; refine ⟨okF, ?_⟩)
 repeat (refine aJ ?_)
 (repeat refine aH ?_); refine bS (M0) (aR (some ⟨b2, 0, none⟩) (lV h) :: I0) [0, 1, 2, 3, 4, 5, 6, 7, 8, 9, 10, 11, 12] [0, 0, 0, 0, 0, 0, 0, 0, 0, 0, 0, 0, 0] aG aD mixed (by kernel_rfl) ?_
 repeat (refine aJ ?_)
 (refine aC rfl (fun _ => fG (vals := [nv h.x.z, nv h.y.z, nv h.z.z]) (cells := lW h.tr.z) rfl ?hpl rfl ?hz) rfl rfl ?_; (case hpl => exact (by intro v hv; repeat (first | exact absurd hv (List.not_mem_nil) | (rcases List.mem_cons.1 hv with rfl | hv; · rfl)))); (case hz => rfl))
 repeat (refine aJ ?_)
 refine bJ (cs := lW h.tr.z) (.inl rfl) rfl rfl aB rfl M0 (aX h.tr.z u :: I0) aG aD ⟨rfl, rfl, rfl⟩
theorem wU {p q r : TZ} {u : Nat} (hp : aX p u ∈ I0) (hq : aX q u ∈ I0) (hr : aX r u ∈ I0) : CD Tryz.prog 185 [dK p, dK q, dK r] X w0 M0 I0 (fun v M I => M0 = M ∧ v = gZ ⟨p, q, r⟩ ∧ I = dY ⟨p, q, r⟩ u :: I0) := by
 refine bK (φ := aX p u) (Hv.mem hp) (bK (φ := aX q u) (Hv.mem (List.mem_cons_of_mem _ hq)) (bK (φ := aX r u) (Hv.mem (List.mem_cons_of_mem _ (List.mem_cons_of_mem _ hr))) ?_))
 refine bK (φ := dY ⟨p, q, r⟩ u) (Hv.mkH aB aB aB) ?_
 refine kZ Tryz.func185 rfl Tryz.ntmps185 rfl ?_
 refine aH ?_
 refine aI ?_
 (refine aV rfl rfl rfl ?_; intro b3; refine ⟨okF, ?_⟩)
 refine aO (cs := lW p) .here ?_
 (refine aV rfl rfl rfl ?_; intro b4; refine ⟨okF, ?_⟩)
 refine aO (cs := lW q) .here ?_
 (refine aV rfl rfl rfl ?_; intro b5; refine ⟨okF, ?_⟩)
 refine aO (cs := lW r) .here ?_
 (refine aF rfl rfl ?_; intro b6; refine ⟨okF, ?_⟩)
 repeat (refine aJ ?_)
 (refine aC rfl (fun _ => fG (vals := [nv p.x, nv p.y, nv p.z, nv q.x, nv q.y, nv q.z, nv r.x, nv r.y, nv r.z]) (cells := lV ⟨p, q, r⟩) rfl ?hpl rfl ?hz) rfl rfl ?_; (case hpl => exact (by intro v hv; repeat (first | exact absurd hv (List.not_mem_nil) | (rcases List.mem_cons.1 hv with rfl | hv; · rfl)))); (case hz => rfl))
 repeat (refine aJ ?_)
 refine bJ (cs := lV ⟨p, q, r⟩) (.inl rfl) rfl rfl aB rfl M0 (dY ⟨p, q, r⟩ u :: I0) aG aD ⟨rfl, rfl, rfl⟩
theorem aET {h : HZ} {u : Nat} (hh : dY h u ∈ I0) : CD Tryz.prog 140 [gZ h] X w0 M0 I0 (fun v M I => M0 = M ∧ v = gZ h.tr ∧ I = dY h.tr u :: I0) := by
 have h0 := fun M0 I0 h1 => aHG (X := X) (w0 := w0) (M0 := M0) (I0 := I0) (h := h) (u := u) h1
 have h1 := fun M0 I0 h1 => aHU (X := X) (w0 := w0) (M0 := M0) (I0 := I0) (h := h) (u := u) h1
 have h2 := fun M0 I0 h1 => aFX (X := X) (w0 := w0) (M0 := M0) (I0 := I0) (h := h) (u := u) h1
 have hR := fun M0 I0 h1 h2 h3 => wU (X := X) (w0 := w0) (M0 := M0) (I0 := I0) (p := h.tr.x) (q := h.tr.y) (r := h.tr.z) (u := u) h1 h2 h3
 refine bK (φ := dY h u) (Hv.mem hh) ?_
 refine bN Tryz.func140 rfl Tryz.ntmps140 rfl ?_
 refine aH ?_
 refine aI ?_
 (refine aV rfl rfl rfl ?_; intro b1; refine ⟨okF, ?_⟩)
 refine aO (cs := lV h) .here ?_
 (refine aF rfl rfl ?_; intro b2; refine ⟨okF, ?_⟩)
 repeat (refine aJ ?_)
 (repeat refine aH ?_); refine bS (M0) (aR (some ⟨b1, 0, none⟩) (lV h) :: I0) [0, 2, 4, 1, 3, 5, 6, 7] [3, 3, 3, 0, 0, 0, 0, 0] aG aD mixed (by kernel_rfl) ?_
 repeat (refine aJ ?_)
 (refine aA rfl (h0 _ _ aB) rfl rfl ?_; rintro _ _ _ ⟨rfl, rfl, rfl⟩; refine ⟨okF, ?_⟩)
 (refine aA rfl (h1 _ _ aB) rfl rfl ?_; rintro _ _ _ ⟨rfl, rfl, rfl⟩; refine ⟨okF, ?_⟩)
 (refine aA rfl (h2 _ _ aB) rfl rfl ?_; rintro _ _ _ ⟨rfl, rfl, rfl⟩; refine ⟨okF, ?_⟩)
 (refine aA rfl (hR _ _ aB aB aB) rfl rfl ?_; rintro _ _ _ ⟨rfl, rfl, rfl⟩; refine ⟨okF, ?_⟩)
 repeat (refine aJ ?_)
 refine bJ (cs := lV h.tr) (.inl rfl) rfl rfl aB rfl M0 (dY h.tr u :: I0) aG aD ⟨rfl, rfl, rfl⟩
theorem aNQ {h : HZ} {p : TZ} {k m : Nat} (hk : 63 ≤ k + m) (hk2 : k + m ≤ 100000) (hh : dY h k ∈ I0) (hp : aX p m ∈ I0) : CD Tryz.prog 188 [gZ h, dK p] X w0 M0 I0 (VQ (h.m.app p.t) (k + m + 3) M0 I0) := by
 have h0 := fun M0 I0 h1 => aGY (X := X) (w0 := w0) (M0 := M0) (I0 := I0) (h := h) (u := k) h1
 have h1 := fun M0 I0 h1 => aGS (X := X) (w0 := w0) (M0 := M0) (I0 := I0) (h := h) (u := k) h1
 have h2 := fun M0 I0 h1 => aHN (X := X) (w0 := w0) (M0 := M0) (I0 := I0) (h := h) (u := k) h1
 have hD := fun (c : TZ) M0 I0 h1 h2 => aMC (X := X) (w0 := w0) (M0 := M0) (I0 := I0) (p := c) (q := p) (k := k) (m := m) hk hk2 h1 h2
 refine bK (φ := dY h k) (Hv.mem hh) (bK (φ := aX p m) (Hv.mem (List.mem_cons_of_mem _ hp)) ?_)
 refine bL Tryz.func188 rfl Tryz.ntmps188 rfl ?_
 refine aH ?_
 refine aI ?_
 (refine aV rfl rfl rfl ?_; intro b2; refine ⟨okF, ?_⟩)
 refine aO (cs := lV h) .here ?_
 (refine aV rfl rfl rfl ?_; intro b3; refine ⟨okF, ?_⟩)
 refine aO (cs := lW p) .here ?_
 (refine aF rfl rfl ?_; intro b4; refine ⟨okF, ?_⟩)
 repeat (refine aJ ?_)
 (repeat refine aH ?_); refine bS (M0) (aR (some ⟨b3, 0, none⟩) (lW p) :: aR (some ⟨b2, 0, none⟩) (lV h) :: I0) [0, 2, 4, 6, 8, 10, 1, 3, 5, 7, 9, 11, 12, 13] [5, 5, 5, 5, 5, 5, 0, 0, 0, 0, 0, 0, 0, 0] aG aD mixed (by kernel_rfl) ?_
 repeat (refine aJ ?_)
 (refine aA rfl (h0 _ _ aB) rfl rfl ?_; rintro _ _ _ ⟨rfl, rfl, rfl⟩; refine ⟨okF, ?_⟩)
 (refine aA rfl (hD h.x _ _ aB aB) rfl rfl ?_; rintro _ _ _ ⟨rfl, g0, rfl, hg0, rfl⟩; refine ⟨okF, ?_⟩)
 (refine aA rfl (h1 _ _ aB) rfl rfl ?_; rintro _ _ _ ⟨rfl, rfl, rfl⟩; refine ⟨okF, ?_⟩)
 (refine aA rfl (hD h.y _ _ aB aB) rfl rfl ?_; rintro _ _ _ ⟨rfl, g1, rfl, hg1, rfl⟩; refine ⟨okF, ?_⟩)
 (refine aA rfl (h2 _ _ aB) rfl rfl ?_; rintro _ _ _ ⟨rfl, rfl, rfl⟩; refine ⟨okF, ?_⟩)
 (refine aA rfl (hD h.z _ _ aB aB) rfl rfl ?_; rintro _ _ _ ⟨rfl, g2, rfl, hg2, rfl⟩; refine ⟨okF, ?_⟩)
 refine iX (φ := aX ⟨g0, g1, g2⟩ (k + m + 3)) (Hv.mkZ aB aB aB) ?_
 (refine aC rfl (fun _ => fG (vals := [nv g0, nv g1, nv g2]) (cells := lW ⟨g0, g1, g2⟩) rfl ?hpl rfl ?hz) rfl rfl ?_; (case hpl => exact (by intro v hv; repeat (first | exact absurd hv (List.not_mem_nil) | (rcases List.mem_cons.1 hv with rfl | hv; · rfl)))); (case hz => rfl))
 repeat (refine aJ ?_)
 refine bJ (cs := lW ⟨g0, g1, g2⟩) (.inl rfl) rfl rfl aB rfl M0 (aX ⟨g0, g1, g2⟩ (k + m + 3) :: I0) aG aD ⟨rfl, ⟨g0, g1, g2⟩, rfl, by show (⟨g0.z, g1.z, g2.z⟩ : T3 Int) = _; rw [hg0, hg1, hg2]; rfl, rfl⟩
end
end Go.Proofs.YtjbhdfpjnjedhaaGreat
