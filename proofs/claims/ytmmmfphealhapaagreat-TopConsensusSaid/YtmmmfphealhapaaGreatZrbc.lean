/- Four points: the basis, the homography of four pairs (package homography). -/
import Derived.Test.YtmmmfphealhapaaGreatZrbb
import Derived.Test.YtmmmfphealhapaaGreatZrba
import Derived.Test.YtmmmfphealhapaaGreatZraw
set_option linter.unusedSimpArgs false
set_option linter.unusedVariables false
set_option maxRecDepth 100000
set_option maxHeartbeats 4000000
namespace Go.Proofs.YtmmmfphealhapaaGreat
open Go Go.Fx
theorem AtsZ.o2 {α : Type} [Inhabited α] {enc : α → List Value} [hz : Sized enc 2] {ms : List α} {i j : Nat} (hi : 3 * i + j < ms.length) : AtsZ (recs enc ms) (0 + (i : Int).toNat * 6 + (j : Int).toNat * 2) (enc (gt ms ((3 * i + j : Nat) : Int))) 2 := by
 have e : 0 + (i : Int).toNat * 6 + (j : Int).toNat * 2 = 0 + (((3 * i + j : Nat) : Int)).toNat * 2 := by simp only [Int.toNat_natCast]; omega
 rw [e]
 exact AtsZ.o0 ⟨by omega, by omega⟩
theorem StAts.o2 {α : Type} {enc : α → List Value} [hz : Sized enc 2] {ms : List α} {i j : Nat} {vs : List Value} (mm : α) (hi : 3 * i + j < ms.length) (hv : vs = enc mm) : StAts (recs enc ms) (0 + (i : Int).toNat * 6 + (j : Int).toNat * 2) vs (recs enc (st ms ((3 * i + j : Nat) : Int) mm)) := by
 have e : 0 + (i : Int).toNat * 6 + (j : Int).toNat * 2 = 0 + (((3 * i + j : Nat) : Int)).toNat * 2 := by simp only [Int.toNat_natCast]; omega
 rw [e]
 exact StAts.o0 mm ⟨by omega, by omega⟩ hv
abbrev zK8 : List Value := recs wN [none, none, none, none]
structure QZ where
 p : TZ
 q : TZ
 r : TZ
 s : TZ
abbrev QZ.l (w : QZ) : List TZ := [w.p, w.q, w.r, w.s]
abbrev QZ.f (w : QZ) : List ZE := [w.p.x, w.p.y, w.p.z, w.q.x, w.q.y, w.q.z, w.r.x, w.r.y, w.r.z, w.s.x, w.s.y, w.s.z]
def QZ.t (w : QZ) : P4 Int := ⟨w.p.t, w.q.t, w.r.t, w.s.t⟩
abbrev eQZ (w : QZ) : List Value := recs kW [w.p, w.q, w.r, w.s]
structure IsQZ (w : QZ) (k : Nat) (X : List Nat) (wd : World) : Prop where
 p : IsTZ w.p k X wd
 q : IsTZ w.q k X wd
 r : IsTZ w.r k X wd
 s : IsTZ w.s k X wd
abbrev nP (w : QZ) (k : Nat) : bA := IsQZ w k
instance (w : QZ) (k : Nat) : Fx.Good (IsQZ w k) := ⟨fun X Y w w' h he hY => ⟨Fx.Good.go (φ := IsTZ _ _) X Y w w' h.p he hY, Fx.Good.go (φ := IsTZ _ _) X Y w w' h.q he hY, Fx.Good.go (φ := IsTZ _ _) X Y w w' h.r he hY, Fx.Good.go (φ := IsTZ _ _) X Y w w' h.s he hY⟩⟩
theorem Hv.qp {I : List bA} {w : QZ} {k : Nat} (h : nP w k ∈ I) : Hv I (aY w.p k) := ⟨fun X wd hw => (hw _ h : IsQZ w k X wd).p⟩
theorem Hv.qq {I : List bA} {w : QZ} {k : Nat} (h : nP w k ∈ I) : Hv I (aY w.q k) := ⟨fun X wd hw => (hw _ h : IsQZ w k X wd).q⟩
theorem Hv.qr {I : List bA} {w : QZ} {k : Nat} (h : nP w k ∈ I) : Hv I (aY w.r k) := ⟨fun X wd hw => (hw _ h : IsQZ w k X wd).r⟩
theorem Hv.qs {I : List bA} {w : QZ} {k : Nat} (h : nP w k ∈ I) : Hv I (aY w.s k) := ⟨fun X wd hw => (hw _ h : IsQZ w k X wd).s⟩
theorem Hv.qAt {I : List bA} {w : QZ} {k i j : Nat} (h : nP w k ∈ I) (hi : i < 4) (hj : j < 3) : Hv I (fZ (gt w.f ((3 * i + j : Nat) : Int)) k) := ⟨fun X wd hw => by
 have h1 : IsQZ w k X wd := hw _ h
 obtain ⟨⟨a0, a1, a2⟩, ⟨b0, b1, b2⟩, ⟨c0, c1, c2⟩, ⟨d0, d1, d2⟩⟩ := h1
 obtain rfl | rfl | rfl | rfl : i = 0 ∨ i = 1 ∨ i = 2 ∨ i = 3 := by omega
 all_goals obtain rfl | rfl | rfl : j = 0 ∨ j = 1 ∨ j = 2 := by omega
 all_goals assumption⟩
structure KZ where
 a : ZE
 b : ZE
 c : ZE
 d : ZE
abbrev KZ.l (w : KZ) : List ZE := [w.a, w.b, w.c, w.d]
def colZ (K : KZ) (w : QZ) (i j : Nat) : Int := (gt K.l (i : Int)).z * (gt w.f ((3 * i + j : Nat) : Int)).z
def BasR (q : P4 Int) (u : Nat) (M0 : List Ent) (I0 : List bA) (v : Value) (M : List Ent) (I : List bA) : Prop := M0 = M ∧ if colP q then (I0 = I ∧ v = .tuple #[.agg z18.toArray, .bool false]) else ∃ h : HZ, v = .tuple #[sN h, .bool true] ∧ h.m = q.bas ∧ I = eX h u :: I0
section
variable {X : List Nat} {w0 : World} {M0 : List Ent} {I0 : List bA}
theorem sV {x y : Int} (hx : -32768 ≤ x ∧ x ≤ 32768) (hy : -32768 ≤ y ∧ y ≤ 32768) : CD Tryz.prog 47 [.agg #[.int .i64 x, .int .i64 y]] X w0 M0 I0 (fun v M I => M0 = M ∧ I0 = I ∧ v = .bool true) := by
 refine bV Tryz.func47 rfl Tryz.ntmps47 rfl ?_
 refine aH ?_
 refine aI ?_
 (refine aK rfl rfl rfl ?_; intro b1; refine ⟨okF, ?_⟩)
 repeat (refine aJ ?_)
 refine jZ (M' := M0) (I' := I0) aG aF ?_
 refine aN (by first | exact .inl rfl | exact .inr rfl) rfl rfl _ _ aG aF (⟨rfl, rfl, congrArg Value.bool (fA (by omega))⟩)
theorem aBM {x y : Int} (hx : -32768 ≤ x ∧ x ≤ 32768) (hy : -32768 ≤ y ∧ y ≤ 32768) : CD Tryz.prog 48 [.agg #[.int .i64 x, .int .i64 y]] X w0 M0 I0 (VQ ⟨x, y, 1⟩ 63 M0 I0) := by
 have hX := fun M0 I0 => NOf (X := X) (w0 := w0) (M0 := M0) (I0 := I0) (x := x) (by omega)
 have hY := fun M0 I0 => NOf (X := X) (w0 := w0) (M0 := M0) (I0 := I0) (x := y) (by omega)
 have hO := fun M0 I0 => NOf (X := X) (w0 := w0) (M0 := M0) (I0 := I0) (x := 1) (by omega)
 refine bV Tryz.func48 rfl Tryz.ntmps48 rfl ?_
 refine aH ?_
 refine aI ?_
 (refine aK rfl rfl rfl ?_; intro b1; refine ⟨okF, ?_⟩)
 refine aO .here ?_
 (refine aC rfl rfl ?_; intro b2; refine ⟨okF, ?_⟩)
 repeat (refine aJ ?_)
 (repeat refine aH ?_); refine bB (M0) (aX (some ⟨b1, 0, none⟩) [.int .i64 x, .int .i64 y] :: I0) [0, 1, 3, 4, 2, 5, 6, 7, 8] [3, 2, 3, 2, 0, 0, 0, 0, 0] aG aF mixed (by kernel_rfl) ?_
 repeat (refine aJ ?_)
 (refine aA rfl (hX _ _) rfl rfl ?_; rintro _ _ _ ⟨rfl, a, rfl, ha, rfl⟩; refine ⟨okF, ?_⟩)
 (refine aA rfl (hY _ _) rfl rfl ?_; rintro _ _ _ ⟨rfl, b, rfl, hb, rfl⟩; refine ⟨okF, ?_⟩)
 (refine aA rfl (hO _ _) rfl rfl ?_; rintro _ _ _ ⟨rfl, c, rfl, hc, rfl⟩; refine ⟨okF, ?_⟩)
 refine tO (φ := aY ⟨a, b, c⟩ 63) (Hv.mkZ aB aB aB) ?_
 (refine aD rfl (fun _ => iW (vals := [nv a, nv b, nv c]) (cells := kW ⟨a, b, c⟩) rfl ?hpl rfl ?hz) rfl rfl ?_; (case hpl => exact (by intro v hv; repeat (first | exact absurd hv (List.not_mem_nil) | (rcases List.mem_cons.1 hv with rfl | hv; · rfl)))); (case hz => rfl))
 repeat (refine aJ ?_)
 refine bC (cs := kW ⟨a, b, c⟩) (.inl rfl) rfl rfl aB rfl M0 (aY ⟨a, b, c⟩ 63 :: I0) aG aF ⟨rfl, ⟨a, b, c⟩, rfl, by show (⟨a.z, b.z, c.z⟩ : T3 Int) = _; rw [ha, hb, hc], rfl⟩
theorem aOA {w : QZ} (hw : nP w 63 ∈ I0) : CD Tryz.prog 49 [.agg (eQZ w).toArray] X w0 M0 I0 (BasR w.t 256 M0 I0) := by
 have hD := fun (p q r : TZ) M0 I0 h1 h2 h3 => aCH (X := X) (w0 := w0) (M0 := M0) (I0 := I0) (p := p) (q := q) (r := r) (u := 63) (by omega) (by omega) h1 h2 h3
 have hR := fun (p q r : TZ) M0 I0 h1 h2 h3 => wC (X := X) (w0 := w0) (M0 := M0) (I0 := I0) (p := p) (q := q) (r := r) (u := 256) h1 h2 h3
 have hT := fun (h : HZ) M0 I0 h1 => aBY (X := X) (w0 := w0) (M0 := M0) (I0 := I0) (h := h) (u := 256) h1
 refine bX (φ := nP w 63) (Hv.mem hw) (bX (φ := aY w.p 63) (Hv.qp aB) (bX (φ := aY w.q 63) (Hv.qq (w := w) aB) (bX (φ := aY w.r 63) (Hv.qr (w := w) aB) (bX (φ := aY w.s 63) (Hv.qs (w := w) aB) ?_))))
 refine bV Tryz.func49 rfl Tryz.ntmps49 rfl ?_
 refine aH ?_
 refine aI ?_
 (refine aK rfl rfl rfl ?_; intro b1; refine ⟨okF, ?_⟩)
 refine aO (cs := eQZ w) .here ?_
 (refine aC rfl rfl ?_; intro b2; refine ⟨okF, ?_⟩)
 repeat (refine aJ ?_)
 refine nC (fun G M I => ∃ (b4 : Nat) (K : KZ), (K.a.z = w.t.k0 ∧ K.b.z = w.t.k1 ∧ K.c.z = w.t.k2 ∧ K.d.z = w.t.k3) ∧ G = [(1, .pointer (some ⟨b1, 0, none⟩)), (2, .pointer (some ⟨b2, 0, none⟩)), (3, .bool false), (4, .pointer (some ⟨b4, 0, none⟩))] ∧ M = .blk b4 (recs eN K.l) 163 :: .blk b2 z18 44 :: M0 ∧ I = fZ K.a 193 :: fZ K.b 193 :: fZ K.c 193 :: fZ K.d 193 :: aX (some ⟨b1, 0, none⟩) (eQZ w) :: nP w 63 :: I0) ?_ ?_
 ·(repeat refine aH ?_)
  refine aEF (M0) (aX (some ⟨b1, 0, none⟩) (eQZ w) :: aY w.s 63 :: aY w.r 63 :: aY w.q 63 :: aY w.p 63 :: nP w 63 :: I0) mixed (fun R hR => ?_)
  have n41 : ∀ k0 : ZE, k0.z = w.t.k0 → ∀ k1 : ZE, k1.z = w.t.k1 → ∀ k2 : ZE, k2.z = w.t.k2 → ∀ k3 : ZE, k3.z = w.t.k3 → ∀ b4 : Nat, ND 74 (R 2 5 #[true, true, true, true, true, true, true, true, true, true, true, true, true, true, true, true, true, true, true, true, true, true, true, true, true, true, true, true, false, true, false]) .normal [(35, nv k3), (28, nv k2), (21, nv k1), (14, nv k0), (4, .pointer (some ⟨b4, 0, none⟩)), (9, dE w.s), (11, dE w.q), (13, dE w.r), (16, dE w.p), (18, dE w.s), (20, dE w.r), (23, dE w.p), (25, dE w.q), (27, dE w.s), (30, dE w.p), (32, dE w.q), (34, dE w.r), (1, .pointer (some ⟨b1, 0, none⟩)), (2, .pointer (some ⟨b2, 0, none⟩)), (3, .bool false)] X w0 (.blk b4 zK8 163 :: .blk b2 z18 44 :: M0) (fZ k3 193 :: fZ k2 193 :: fZ k1 193 :: fZ k0 193 :: aX (some ⟨b1, 0, none⟩) (eQZ w) :: aY w.s 63 :: aY w.r 63 :: aY w.q 63 :: aY w.p 63 :: nP w 63 :: I0) := by
   intro k0 hk0 k1 hk1 k2 hk2 k3 hk3 b4
   rw [hR]
   refine aR [28, 30] [0, 0] aG aF (by kernel_rfl) (by kernel_rfl) rfl rfl ?_
   (refine aD rfl (fun _ => iW (vals := [nv k0, nv k1, nv k2, nv k3]) (cells := recs eN [k0, k1, k2, k3]) rfl ?hpl rfl ?hz) rfl rfl ?_; (case hpl => exact (by intro v hv; repeat (first | exact absurd hv (List.not_mem_nil) | (rcases List.mem_cons.1 hv with rfl | hv; · rfl)))); (case hz => rfl))
   repeat (refine aJ ?_)
   refine bN _ _ _ aS aG aF ⟨b4, ⟨k0, k1, k2, k3⟩, ⟨hk0, hk1, hk2, hk3⟩, rfl, rfl, rfl⟩
  have n31 : ∀ k0 : ZE, k0.z = w.t.k0 → ∀ k1 : ZE, k1.z = w.t.k1 → ∀ k2 : ZE, k2.z = w.t.k2 → ∀ b4 : Nat, ND 74 (R 3 4 #[true, true, true, true, true, true, true, true, true, true, true, true, true, true, true, true, true, true, true, true, true, true, true, true, true, true, true, false, false, true, false]) .normal [(28, nv k2), (21, nv k1), (14, nv k0), (4, .pointer (some ⟨b4, 0, none⟩)), (9, dE w.s), (11, dE w.q), (13, dE w.r), (16, dE w.p), (18, dE w.s), (20, dE w.r), (23, dE w.p), (25, dE w.q), (27, dE w.s), (30, dE w.p), (32, dE w.q), (34, dE w.r), (1, .pointer (some ⟨b1, 0, none⟩)), (2, .pointer (some ⟨b2, 0, none⟩)), (3, .bool false)] X w0 (.blk b4 zK8 163 :: .blk b2 z18 44 :: M0) (fZ k2 193 :: fZ k1 193 :: fZ k0 193 :: aX (some ⟨b1, 0, none⟩) (eQZ w) :: aY w.s 63 :: aY w.r 63 :: aY w.q 63 :: aY w.p 63 :: nP w 63 :: I0) := by
   intro k0 hk0 k1 hk1 k2 hk2 b4
   rw [hR]
   refine eU (fuel := 2) (listed' := #[true, true, true, true, true, true, true, true, true, true, true, true, true, true, true, true, true, true, true, true, true, true, true, true, true, true, true, true, false, true, false]) [27] [0] aG aF (by kernel_rfl) (by kernel_rfl) rfl rfl ?_
   (refine aA rfl (hD w.p w.q w.r _ _ aB aB aB) rfl rfl ?_; rintro _ _ _ ⟨rfl, k3, rfl, hk3, rfl⟩; refine ⟨okF, ?_⟩)
   refine aL ?_
   rw [← hR]
   exact kF aS aG aF (n41 k0 hk0 k1 hk1 k2 hk2 k3 hk3 b4)
  have n40 : ∀ k0 : ZE, k0.z = w.t.k0 → ∀ k1 : ZE, k1.z = w.t.k1 → ∀ k2 : ZE, k2.z = w.t.k2 → ∀ k3 : ZE, k3.z = w.t.k3 → ND 74 (R 3 4 #[true, true, true, true, true, true, true, true, true, true, true, true, true, true, true, true, true, true, true, true, true, true, true, true, true, true, true, true, false, false, false]) .normal [(35, nv k3), (28, nv k2), (21, nv k1), (14, nv k0), (9, dE w.s), (11, dE w.q), (13, dE w.r), (16, dE w.p), (18, dE w.s), (20, dE w.r), (23, dE w.p), (25, dE w.q), (27, dE w.s), (30, dE w.p), (32, dE w.q), (34, dE w.r), (1, .pointer (some ⟨b1, 0, none⟩)), (2, .pointer (some ⟨b2, 0, none⟩)), (3, .bool false)] X w0 (.blk b2 z18 44 :: M0) (fZ k3 193 :: fZ k2 193 :: fZ k1 193 :: fZ k0 193 :: aX (some ⟨b1, 0, none⟩) (eQZ w) :: aY w.s 63 :: aY w.r 63 :: aY w.q 63 :: aY w.p 63 :: nP w 63 :: I0) := by
   intro k0 hk0 k1 hk1 k2 hk2 k3 hk3
   rw [hR]
   refine eU (fuel := 1) (listed' := #[true, true, true, true, true, true, true, true, true, true, true, true, true, true, true, true, true, true, true, true, true, true, true, true, true, true, true, true, true, true, false]) [28, 29] [1, 0] aG aF (by kernel_rfl) (by kernel_rfl) rfl rfl ?_
   (refine aD rfl (fun _ => iW (vals := [nv k0, nv k1, nv k2, nv k3]) (cells := recs eN [k0, k1, k2, k3]) rfl ?hpl rfl ?hz) rfl rfl ?_; (case hpl => exact (by intro v hv; repeat (first | exact absurd hv (List.not_mem_nil) | (rcases List.mem_cons.1 hv with rfl | hv; · rfl)))); (case hz => rfl))
   (refine aC (d := 4) rfl rfl ?_; intro b4; refine ⟨okF, ?_⟩)
   refine aL ?_
   refine aR [30] [0] aG aF (by kernel_rfl) (by kernel_rfl) rfl rfl ?_
   repeat (refine aJ ?_)
   refine bN _ _ _ aS aG aF ⟨b4, ⟨k0, k1, k2, k3⟩, ⟨hk0, hk1, hk2, hk3⟩, rfl, rfl, rfl⟩
  have n21 : ∀ k0 : ZE, k0.z = w.t.k0 → ∀ k1 : ZE, k1.z = w.t.k1 → ∀ b4 : Nat, ND 74 (R 4 3 #[true, true, true, true, true, true, true, true, true, true, true, true, true, true, true, true, true, true, true, true, false, true, true, true, true, true, true, false, false, true, false]) .normal [(21, nv k1), (14, nv k0), (4, .pointer (some ⟨b4, 0, none⟩)), (9, dE w.s), (11, dE w.q), (13, dE w.r), (16, dE w.p), (18, dE w.s), (20, dE w.r), (23, dE w.p), (25, dE w.q), (27, dE w.s), (30, dE w.p), (32, dE w.q), (34, dE w.r), (1, .pointer (some ⟨b1, 0, none⟩)), (2, .pointer (some ⟨b2, 0, none⟩)), (3, .bool false)] X w0 (.blk b4 zK8 163 :: .blk b2 z18 44 :: M0) (fZ k1 193 :: fZ k0 193 :: aX (some ⟨b1, 0, none⟩) (eQZ w) :: aY w.s 63 :: aY w.r 63 :: aY w.q 63 :: aY w.p 63 :: nP w 63 :: I0) := by
   intro k0 hk0 k1 hk1 b4
   rw [hR]
   refine eU (fuel := 3) (listed' := #[true, true, true, true, true, true, true, true, true, true, true, true, true, true, true, true, true, true, true, true, true, true, true, true, true, true, true, false, false, true, false]) [20] [0] aG aF (by kernel_rfl) (by kernel_rfl) rfl rfl ?_
   (refine aA rfl (hD w.p w.q w.s _ _ aB aB aB) rfl rfl ?_; rintro _ _ _ ⟨rfl, k2, rfl, hk2, rfl⟩; refine ⟨okF, ?_⟩)
   refine aL ?_
   rw [← hR]
   exact kF aS aG aF (n31 k0 hk0 k1 hk1 k2 hk2 b4)
  have n30 : ∀ k0 : ZE, k0.z = w.t.k0 → ∀ k1 : ZE, k1.z = w.t.k1 → ∀ k2 : ZE, k2.z = w.t.k2 → ND 74 (R 4 3 #[true, true, true, true, true, true, true, true, true, true, true, true, true, true, true, true, true, true, true, true, true, true, true, true, true, true, true, false, false, false, false]) .normal [(28, nv k2), (21, nv k1), (14, nv k0), (9, dE w.s), (11, dE w.q), (13, dE w.r), (16, dE w.p), (18, dE w.s), (20, dE w.r), (23, dE w.p), (25, dE w.q), (27, dE w.s), (30, dE w.p), (32, dE w.q), (34, dE w.r), (1, .pointer (some ⟨b1, 0, none⟩)), (2, .pointer (some ⟨b2, 0, none⟩)), (3, .bool false)] X w0 (.blk b2 z18 44 :: M0) (fZ k2 193 :: fZ k1 193 :: fZ k0 193 :: aX (some ⟨b1, 0, none⟩) (eQZ w) :: aY w.s 63 :: aY w.r 63 :: aY w.q 63 :: aY w.p 63 :: nP w 63 :: I0) := by
   intro k0 hk0 k1 hk1 k2 hk2
   rw [hR]
   refine aM (i := 27) (j := 29) (by kernel_rfl) ?_ ?_
   ·(refine aA rfl (hD w.p w.q w.r _ _ aB aB aB) rfl rfl ?_; rintro _ _ _ ⟨rfl, k3, rfl, hk3, rfl⟩; refine ⟨okF, ?_⟩)
    refine aL ?_
    rw [← hR]
    exact kF aS aG aF (n40 k0 hk0 k1 hk1 k2 hk2 k3 hk3)
   ·(refine aC (d := 4) rfl rfl ?_; intro b4; refine ⟨okF, ?_⟩)
    refine aL ?_
    rw [← hR]
    exact kF aS aG aF (n31 k0 hk0 k1 hk1 k2 hk2 b4)
  have n11 : ∀ k0 : ZE, k0.z = w.t.k0 → ∀ b4 : Nat, ND 74 (R 5 2 #[true, true, true, true, true, true, true, true, true, true, true, true, true, false, true, true, true, true, true, true, false, true, true, true, true, true, true, false, false, true, false]) .normal [(14, nv k0), (4, .pointer (some ⟨b4, 0, none⟩)), (9, dE w.s), (11, dE w.q), (13, dE w.r), (16, dE w.p), (18, dE w.s), (20, dE w.r), (23, dE w.p), (25, dE w.q), (27, dE w.s), (30, dE w.p), (32, dE w.q), (34, dE w.r), (1, .pointer (some ⟨b1, 0, none⟩)), (2, .pointer (some ⟨b2, 0, none⟩)), (3, .bool false)] X w0 (.blk b4 zK8 163 :: .blk b2 z18 44 :: M0) (fZ k0 193 :: aX (some ⟨b1, 0, none⟩) (eQZ w) :: aY w.s 63 :: aY w.r 63 :: aY w.q 63 :: aY w.p 63 :: nP w 63 :: I0) := by
   intro k0 hk0 b4
   rw [hR]
   refine eU (fuel := 4) (listed' := #[true, true, true, true, true, true, true, true, true, true, true, true, true, true, true, true, true, true, true, true, false, true, true, true, true, true, true, false, false, true, false]) [13] [0] aG aF (by kernel_rfl) (by kernel_rfl) rfl rfl ?_
   (refine aA rfl (hD w.p w.s w.r _ _ aB aB aB) rfl rfl ?_; rintro _ _ _ ⟨rfl, k1, rfl, hk1, rfl⟩; refine ⟨okF, ?_⟩)
   refine aL ?_
   rw [← hR]
   exact kF aS aG aF (n21 k0 hk0 k1 hk1 b4)
  have n20 : ∀ k0 : ZE, k0.z = w.t.k0 → ∀ k1 : ZE, k1.z = w.t.k1 → ND 74 (R 5 2 #[true, true, true, true, true, true, true, true, true, true, true, true, true, true, true, true, true, true, true, true, false, true, true, true, true, true, true, false, false, false, false]) .normal [(21, nv k1), (14, nv k0), (9, dE w.s), (11, dE w.q), (13, dE w.r), (16, dE w.p), (18, dE w.s), (20, dE w.r), (23, dE w.p), (25, dE w.q), (27, dE w.s), (30, dE w.p), (32, dE w.q), (34, dE w.r), (1, .pointer (some ⟨b1, 0, none⟩)), (2, .pointer (some ⟨b2, 0, none⟩)), (3, .bool false)] X w0 (.blk b2 z18 44 :: M0) (fZ k1 193 :: fZ k0 193 :: aX (some ⟨b1, 0, none⟩) (eQZ w) :: aY w.s 63 :: aY w.r 63 :: aY w.q 63 :: aY w.p 63 :: nP w 63 :: I0) := by
   intro k0 hk0 k1 hk1
   rw [hR]
   refine aM (i := 20) (j := 29) (by kernel_rfl) ?_ ?_
   ·(refine aA rfl (hD w.p w.q w.s _ _ aB aB aB) rfl rfl ?_; rintro _ _ _ ⟨rfl, k2, rfl, hk2, rfl⟩; refine ⟨okF, ?_⟩)
    refine aL ?_
    rw [← hR]
    exact kF aS aG aF (n30 k0 hk0 k1 hk1 k2 hk2)
   ·(refine aC (d := 4) rfl rfl ?_; intro b4; refine ⟨okF, ?_⟩)
    refine aL ?_
    rw [← hR]
    exact kF aS aG aF (n21 k0 hk0 k1 hk1 b4)
  have n01 : ∀ b4 : Nat, ND 74 (R 6 1 #[true, true, true, true, true, true, false, true, true, true, true, true, true, false, true, true, true, true, true, true, false, true, true, true, true, true, true, false, false, true, false]) .normal [(4, .pointer (some ⟨b4, 0, none⟩)), (9, dE w.s), (11, dE w.q), (13, dE w.r), (16, dE w.p), (18, dE w.s), (20, dE w.r), (23, dE w.p), (25, dE w.q), (27, dE w.s), (30, dE w.p), (32, dE w.q), (34, dE w.r), (1, .pointer (some ⟨b1, 0, none⟩)), (2, .pointer (some ⟨b2, 0, none⟩)), (3, .bool false)] X w0 (.blk b4 zK8 163 :: .blk b2 z18 44 :: M0) (aX (some ⟨b1, 0, none⟩) (eQZ w) :: aY w.s 63 :: aY w.r 63 :: aY w.q 63 :: aY w.p 63 :: nP w 63 :: I0) := by
   intro b4
   rw [hR]
   refine eU (fuel := 5) (listed' := #[true, true, true, true, true, true, true, true, true, true, true, true, true, false, true, true, true, true, true, true, false, true, true, true, true, true, true, false, false, true, false]) [6] [0] aG aF (by kernel_rfl) (by kernel_rfl) rfl rfl ?_
   (refine aA rfl (hD w.s w.q w.r _ _ aB aB aB) rfl rfl ?_; rintro _ _ _ ⟨rfl, k0, rfl, hk0, rfl⟩; refine ⟨okF, ?_⟩)
   refine aL ?_
   rw [← hR]
   exact kF aS aG aF (n11 k0 hk0 b4)
  have n10 : ∀ k0 : ZE, k0.z = w.t.k0 → ND 74 (R 6 1 #[true, true, true, true, true, true, true, true, true, true, true, true, true, false, true, true, true, true, true, true, false, true, true, true, true, true, true, false, false, false, false]) .normal [(14, nv k0), (9, dE w.s), (11, dE w.q), (13, dE w.r), (16, dE w.p), (18, dE w.s), (20, dE w.r), (23, dE w.p), (25, dE w.q), (27, dE w.s), (30, dE w.p), (32, dE w.q), (34, dE w.r), (1, .pointer (some ⟨b1, 0, none⟩)), (2, .pointer (some ⟨b2, 0, none⟩)), (3, .bool false)] X w0 (.blk b2 z18 44 :: M0) (fZ k0 193 :: aX (some ⟨b1, 0, none⟩) (eQZ w) :: aY w.s 63 :: aY w.r 63 :: aY w.q 63 :: aY w.p 63 :: nP w 63 :: I0) := by
   intro k0 hk0
   rw [hR]
   refine aM (i := 13) (j := 29) (by kernel_rfl) ?_ ?_
   ·(refine aA rfl (hD w.p w.s w.r _ _ aB aB aB) rfl rfl ?_; rintro _ _ _ ⟨rfl, k1, rfl, hk1, rfl⟩; refine ⟨okF, ?_⟩)
    refine aL ?_
    rw [← hR]
    exact kF aS aG aF (n20 k0 hk0 k1 hk1)
   ·(refine aC (d := 4) rfl rfl ?_; intro b4; refine ⟨okF, ?_⟩)
    refine aL ?_
    rw [← hR]
    exact kF aS aG aF (n11 k0 hk0 b4)
  have n00 : ND 74 (R 7 0 #[true, true, true, true, true, true, false, true, true, true, true, true, true, false, true, true, true, true, true, true, false, true, true, true, true, true, true, false, false, false, false]) .normal [(9, dE w.s), (11, dE w.q), (13, dE w.r), (16, dE w.p), (18, dE w.s), (20, dE w.r), (23, dE w.p), (25, dE w.q), (27, dE w.s), (30, dE w.p), (32, dE w.q), (34, dE w.r), (1, .pointer (some ⟨b1, 0, none⟩)), (2, .pointer (some ⟨b2, 0, none⟩)), (3, .bool false)] X w0 (.blk b2 z18 44 :: M0) (aX (some ⟨b1, 0, none⟩) (eQZ w) :: aY w.s 63 :: aY w.r 63 :: aY w.q 63 :: aY w.p 63 :: nP w 63 :: I0) := by
   rw [hR]
   refine aM (i := 6) (j := 29) (by kernel_rfl) ?_ ?_
   ·(refine aA rfl (hD w.s w.q w.r _ _ aB aB aB) rfl rfl ?_; rintro _ _ _ ⟨rfl, k0, rfl, hk0, rfl⟩; refine ⟨okF, ?_⟩)
    refine aL ?_
    rw [← hR]
    exact kF aS aG aF (n10 k0 hk0)
   ·(refine aC (d := 4) rfl rfl ?_; intro b4; refine ⟨okF, ?_⟩)
    refine aL ?_
    rw [← hR]
    exact kF aS aG aF (n01 b4)
  show ND 74 (R 31 0 #[false, false, false, false, false, false, false, false, false, false, false, false, false, false, false, false, false, false, false, false, false, false, false, false, false, false, false, false, false, false, false]) .normal _ X w0 _ _
  rw [hR]
  refine eU (fuel := 7) (listed' := #[true, true, true, true, true, true, false, true, true, true, true, true, true, false, true, true, true, true, true, true, false, true, true, true, true, true, true, false, false, false, false]) [0, 1, 2, 3, 4, 5, 7, 8, 9, 10, 11, 12, 14, 15, 16, 17, 18, 19, 21, 22, 23, 24, 25, 26] [5, 4, 5, 4, 5, 4, 5, 4, 5, 4, 5, 4, 5, 4, 5, 4, 5, 4, 5, 4, 5, 4, 5, 4] aG aF (by kernel_rfl) (by kernel_rfl) rfl rfl ?_
  repeat (refine aJ ?_)
  (apply dW; exact fV; exact rfl; exact aB; exact AtsZ.o0 (enc := kW) (sz := 6) (ms := [w.p, w.q, w.r, w.s]) (i := 3) ⟨by decide, by simp⟩; exact rfl; exact rfl)
  repeat (refine aJ ?_)
  (apply dW; exact fV; exact rfl; exact aB; exact AtsZ.o0 (enc := kW) (sz := 6) (ms := [w.p, w.q, w.r, w.s]) (i := 1) ⟨by decide, by simp⟩; exact rfl; exact rfl)
  repeat (refine aJ ?_)
  (apply dW; exact fV; exact rfl; exact aB; exact AtsZ.o0 (enc := kW) (sz := 6) (ms := [w.p, w.q, w.r, w.s]) (i := 2) ⟨by decide, by simp⟩; exact rfl; exact rfl)
  repeat (refine aJ ?_)
  (apply dW; exact fV; exact rfl; exact aB; exact AtsZ.o0 (enc := kW) (sz := 6) (ms := [w.p, w.q, w.r, w.s]) (i := 0) ⟨by decide, by simp⟩; exact rfl; exact rfl)
  repeat (refine aJ ?_)
  (apply dW; exact fV; exact rfl; exact aB; exact AtsZ.o0 (enc := kW) (sz := 6) (ms := [w.p, w.q, w.r, w.s]) (i := 3) ⟨by decide, by simp⟩; exact rfl; exact rfl)
  repeat (refine aJ ?_)
  (apply dW; exact fV; exact rfl; exact aB; exact AtsZ.o0 (enc := kW) (sz := 6) (ms := [w.p, w.q, w.r, w.s]) (i := 2) ⟨by decide, by simp⟩; exact rfl; exact rfl)
  repeat (refine aJ ?_)
  (apply dW; exact fV; exact rfl; exact aB; exact AtsZ.o0 (enc := kW) (sz := 6) (ms := [w.p, w.q, w.r, w.s]) (i := 0) ⟨by decide, by simp⟩; exact rfl; exact rfl)
  repeat (refine aJ ?_)
  (apply dW; exact fV; exact rfl; exact aB; exact AtsZ.o0 (enc := kW) (sz := 6) (ms := [w.p, w.q, w.r, w.s]) (i := 1) ⟨by decide, by simp⟩; exact rfl; exact rfl)
  repeat (refine aJ ?_)
  (apply dW; exact fV; exact rfl; exact aB; exact AtsZ.o0 (enc := kW) (sz := 6) (ms := [w.p, w.q, w.r, w.s]) (i := 3) ⟨by decide, by simp⟩; exact rfl; exact rfl)
  repeat (refine aJ ?_)
  (apply dW; exact fV; exact rfl; exact aB; exact AtsZ.o0 (enc := kW) (sz := 6) (ms := [w.p, w.q, w.r, w.s]) (i := 0) ⟨by decide, by simp⟩; exact rfl; exact rfl)
  repeat (refine aJ ?_)
  (apply dW; exact fV; exact rfl; exact aB; exact AtsZ.o0 (enc := kW) (sz := 6) (ms := [w.p, w.q, w.r, w.s]) (i := 1) ⟨by decide, by simp⟩; exact rfl; exact rfl)
  repeat (refine aJ ?_)
  (apply dW; exact fV; exact rfl; exact aB; exact AtsZ.o0 (enc := kW) (sz := 6) (ms := [w.p, w.q, w.r, w.s]) (i := 2) ⟨by decide, by simp⟩; exact rfl; exact rfl)
  repeat (refine aJ ?_)
  rw [← hR]
  exact kF aS aG aF n00
 rintro G M I ⟨b4, K, ⟨hk0, hk1, hk2, hk3⟩, rfl, rfl, rfl⟩
 have hKP : ∀ i : Nat, i < 4 → ((gt K.l (i : Int)).z = 0 → colP w.t) := fun i hi h => by
  obtain rfl | rfl | rfl | rfl : i = 0 ∨ i = 1 ∨ i = 2 ∨ i = 3 := by omega
  ·exact .inl (hk0.symm.trans h)
  ·exact .inr (.inl (hk1.symm.trans h))
  ·exact .inr (.inr (.inl (hk2.symm.trans h)))
  ·exact .inr (.inr (.inr (hk3.symm.trans h)))
 repeat (refine aJ ?_)
 (refine aC rfl rfl ?_; intro b5; refine ⟨okF, ?_⟩)
 repeat (refine aJ ?_)
 refine dV (φ := kD [none, none, none, none, none, none, none, none, none] 256) (Hv.oNil (n := 9)) ?_
 refine dV (φ := kD (K.l.map some) 193) ⟨fun X wd hw2 => ⟨fun e he => by
  simp only [List.map_cons, List.map_nil, List.mem_cons, Option.some.injEq, List.not_mem_nil, or_false] at he
  rcases he with rfl | rfl | rfl | rfl
  ·exact hw2 (fZ K.a 193) aB
  ·exact hw2 (fZ K.b 193) aB
  ·exact hw2 (fZ K.c 193) aB
  ·exact hw2 (fZ K.d 193) aB⟩⟩ ?_
 refine bG [1, 2, 4, 5] rfl (fun k G M I => ∃ (i : Nat) (os : List (Option ZE)), i ≤ 4 ∧ k = 4 - i ∧ os.length = 9 ∧ (∀ a b : Nat, a < i → a < 3 → b < 3 → ∃ e : ZE, gt os ((3 * a + b : Nat) : Int) = some e ∧ e.z = colZ K w a b) ∧ (∀ a : Nat, a < i → (gt K.l (a : Int)).z ≠ 0) ∧ G = [(37, .int .i64 i)] ∧ M = .blk b5 (recs wN os) 164 :: .blk b4 (recs eN K.l) 163 :: .blk b2 z18 44 :: M0 ∧ I = kD os 256 :: kD (K.l.map some) 193 :: aX (some ⟨b1, 0, none⟩) (eQZ w) :: nP w 63 :: I0) (4) _ _ _ aS aG aF (⟨0, [none, none, none, none, none, none, none, none, none], by omega, rfl, rfl, fun a b ha => absurd ha (by omega), fun a ha => absurd ha (by omega), rfl, rfl, rfl⟩) ?_
 rintro kk G M I ⟨i, os, hi, rfl, hol, ho, hnz, rfl, rfl, rfl⟩
 by_cases hii : i < 4
 ·obtain ⟨x, hx⟩ : ∃ x, gt K.l (i : Int) = x := ⟨_, rfl⟩
  refine dV (φ := fZ x 193) (Hv.oAt (os := K.l.map some) (i := (i : Int)) aB ⟨by omega, by show (i : Int) < ((4 : Nat) : Int); omega⟩ (by rw [oK ⟨by omega, by show (i : Int) < ((4 : Nat) : Int); omega⟩, hx])) ?_
  have hSg := fun M0 I0 h1 => lL (X := X) (w0 := w0) (M0 := M0) (I0 := I0) (u := nv x) (z := x.z) (k := 193) (by omega) h1
  repeat (refine aJ ?_)
  (apply iR; exact fV; exact rfl; exact aB; exact AtsZ.o0 (enc := eN) (sz := 2) (ms := K.l) (i := (i : Int)) ⟨by omega, by show (i : Int) < ((4 : Nat) : Int); omega⟩; exact rfl; exact rfl)
  rw [hx]
  repeat (refine aJ ?_)
  (refine aA rfl (hSg _ _ aB) rfl rfl ?_; rintro _ _ _ ⟨rfl, rfl, rfl⟩; refine ⟨okF, ?_⟩)
  by_cases hx0 : x.z = 0
  ·rw [show x.z.sign = 0 by rw [hx0]; rfl]
   repeat (refine aJ ?_)
   (refine aD rfl (fun _ => nZ (pvs := []) (cells := z18) rfl rfl) rfl rfl ?_)
   repeat (refine aJ ?_)
   refine dP (rs := [.cell 2 44, .tmp 3]) (vs := [.agg z18.toArray, .bool false]) (.inl rfl) rfl (.cellN (cs := z18) inferInstance rfl aB rfl (.tmp rfl .nil)) rfl M0 I0 aG aF ⟨rfl, by rw [if_pos (hKP i hii (by rw [hx]; exact hx0))]; exact ⟨rfl, rfl⟩⟩
  ·have hsn : ¬ x.z.sign = 0 := fun h => hx0 (Int.sign_eq_zero_iff_zero.1 h)
   repeat (refine aJ ?_)
   refine bG [1, 2, 4, 5, 6, 37] rfl (fun k G M I => ∃ (j : Nat) (os : List (Option ZE)), j ≤ 3 ∧ k = 3 - j ∧ os.length = 9 ∧ (∀ a b : Nat, (a < i ∨ (a = i ∧ b < j)) → a < 3 → b < 3 → ∃ e : ZE, gt os ((3 * a + b : Nat) : Int) = some e ∧ e.z = colZ K w a b) ∧ G = [(46, .int .i64 j)] ∧ M = .blk b5 (recs wN os) 164 :: .blk b4 (recs eN K.l) 163 :: .blk b2 z18 44 :: M0 ∧ I = kD os 256 :: fZ x 193 :: kD (K.l.map some) 193 :: aX (some ⟨b1, 0, none⟩) (eQZ w) :: nP w 63 :: I0) (3) _ _ _ aS aG aF (⟨0, os, by omega, rfl, hol, fun a b hab h3 hb => ho a b (by omega) h3 hb, rfl, rfl, rfl⟩) ?_
   rintro kk G M I ⟨j, os2, hj, rfl, hol2, ho2, rfl, rfl, rfl⟩
   by_cases hjj : j < 3
   ·by_cases hi3 : i < 3
    ·obtain ⟨y, hy⟩ : ∃ y, gt w.f ((3 * i + j : Nat) : Int) = y := ⟨_, rfl⟩
     refine dV (φ := fZ y 63) (by rw [← hy]; exact Hv.qAt aB hii hjj) ?_
     have hM := fun M0 I0 h1 h2 => aLU (X := X) (w0 := w0) (M0 := M0) (I0 := I0) (a := x) (b := y) (k := 193) (m := 63) (by omega) h1 h2
     repeat (refine aJ ?_)
     (repeat refine aH ?_); refine bB (.blk b4 (recs eN K.l) 163 :: M0) (aX (some ⟨b1, 0, none⟩) (eQZ w) :: I0) [0, 1, 2, 3, 4, 5, 6, 7, 8, 9, 11, 10, 12, 13] [1, 1, 1, 1, 0, 1, 1, 1, 1, 0, 2, 0, 0, 0] aG aF mixed (by kernel_rfl) ?_
     repeat (refine aJ ?_)
     (apply iR; exact fV; exact rfl; exact aB; exact AtsZ.o0 (enc := eN) (sz := 2) (ms := K.l) (i := (i : Int)) ⟨by omega, by show (i : Int) < ((4 : Nat) : Int); omega⟩; exact rfl; exact rfl)
     rw [hx]
     repeat (refine aJ ?_)
     (apply dW; exact fV; exact rfl; exact aB; exact AtsZ.o2 (enc := eN) (ms := w.f) (i := i) (j := j) (by show 3 * i + j < 12; omega); exact rfl; exact rfl)
     rw [hy]
     repeat (refine aJ ?_)
     (refine aA rfl (hM _ _ aB aB) rfl rfl ?_; rintro _ _ _ ⟨rfl, g, rfl, hg, rfl⟩; refine ⟨okF, ?_⟩)
     repeat (refine yXh ?_)
     refine gF (vs := eN g) rfl rfl rfl (Ones.one g) lN (StAts.o2 (enc := wN) (ms := os2) (i := i) (j := j) (some g) (by omega) rfl) rfl rfl ⟨okF, ?_⟩
     repeat (refine aJ ?_)
     refine rO (φ := kD (st os2 ((3 * i + j : Nat) : Int) (some g)) 256) (Hv.oSet aB aB) ?_
     refine aQ (3 - (j + 1)) _ _ _ (by first | omega | (simp only [List.length_append, List.length_cons, List.length_nil]; omega)) aS aG aF (⟨j + 1, st os2 ((3 * i + j : Nat) : Int) (some g), by omega, rfl, by rw [nT]; exact hol2, fun a b hab h3 hb => by
      rw [pK (by omega) (by omega)]
      by_cases e : 3 * a + b = 3 * i + j
      ·obtain ⟨rfl, rfl⟩ : a = i ∧ b = j := by omega
       rw [if_pos rfl]
       exact ⟨g, rfl, by rw [hg]; unfold colZ; rw [hx, hy]⟩
      ·rw [if_neg e]
       exact ho2 a b (by omega) h3 hb, rfl, rfl, rfl⟩)
    ·repeat (refine aJ ?_)
     refine aQ (3 - (j + 1)) _ _ _ (by first | omega | (simp only [List.length_append, List.length_cons, List.length_nil]; omega)) aS aG aF (⟨j + 1, os2, by omega, rfl, hol2, fun a b hab h3 hb => ho2 a b (by omega) h3 hb, rfl, rfl, rfl⟩)
   ·obtain rfl : j = 3 := by omega
    repeat (refine aJ ?_)
    refine aQ (4 - (i + 1)) _ _ _ (by first | omega | (simp only [List.length_append, List.length_cons, List.length_nil]; omega)) aS aG aF (⟨i + 1, os2, by omega, rfl, hol2, fun a b ha h3 hb => ho2 a b (by omega) h3 hb, fun a ha => by
     by_cases e : a = i
     ·subst e; rw [hx]; exact hx0
     ·exact hnz a (by omega), rfl, rfl, rfl⟩)
 ·obtain rfl : i = 4 := by omega
  have hnc : ¬ colP w.t := fun h => by
   rcases h with h | h | h | h
   ·exact hnz 0 (by omega) (hk0.trans h)
   ·exact hnz 1 (by omega) (hk1.trans h)
   ·exact hnz 2 (by omega) (hk2.trans h)
   ·exact hnz 3 (by omega) (hk3.trans h)
  obtain ⟨a0, ea0, za0⟩ := ho 0 0 (by omega) (by omega) (by omega)
  obtain ⟨a1, ea1, za1⟩ := ho 0 1 (by omega) (by omega) (by omega)
  obtain ⟨a2, ea2, za2⟩ := ho 0 2 (by omega) (by omega) (by omega)
  obtain ⟨c0, ec0, zc0⟩ := ho 1 0 (by omega) (by omega) (by omega)
  obtain ⟨c1, ec1, zc1⟩ := ho 1 1 (by omega) (by omega) (by omega)
  obtain ⟨c2, ec2, zc2⟩ := ho 1 2 (by omega) (by omega) (by omega)
  obtain ⟨d0, ed0, zd0⟩ := ho 2 0 (by omega) (by omega) (by omega)
  obtain ⟨d1, ed1, zd1⟩ := ho 2 1 (by omega) (by omega) (by omega)
  obtain ⟨d2, ed2, zd2⟩ := ho 2 2 (by omega) (by omega) (by omega)
  have eos : os = [some a0, some a1, some a2, some c0, some c1, some c2, some d0, some d1, some d2] := by
   match os, hol with
   | [x0, x1, x2, x3, x4, x5, x6, x7, x8], _ =>
    have h0 : x0 = some a0 := ea0
    have h1 : x1 = some a1 := ea1
    have h2 : x2 = some a2 := ea2
    have h3 : x3 = some c0 := ec0
    have h4 : x4 = some c1 := ec1
    have h5 : x5 = some c2 := ec2
    have h6 : x6 = some d0 := ed0
    have h7 : x7 = some d1 := ed1
    have h8 : x8 = some d2 := ed2
    rw [h0, h1, h2, h3, h4, h5, h6, h7, h8]
  subst eos
  have hZ := fun (a b c : ZE) (ha : some a ∈ [some a0, some a1, some a2, some c0, some c1, some c2, some d0, some d1, some d2]) (hb : some b ∈ [some a0, some a1, some a2, some c0, some c1, some c2, some d0, some d1, some d2]) (hc : some c ∈ [some a0, some a1, some a2, some c0, some c1, some c2, some d0, some d1, some d2]) (I : List bA) (h : kD [some a0, some a1, some a2, some c0, some c1, some c2, some d0, some d1, some d2] 256 ∈ I) => (⟨fun X wd hw2 => ⟨(hw2 _ h : AllO _ _ X wd).go a ha, (hw2 _ h : AllO _ _ X wd).go b hb, (hw2 _ h : AllO _ _ X wd).go c hc⟩⟩ : Hv I (aY ⟨a, b, c⟩ 256))
  refine dV (φ := aY ⟨a0, a1, a2⟩ 256) (hZ a0 a1 a2 (by simp) (by simp) (by simp) _ aB) ?_
  refine dV (φ := aY ⟨c0, c1, c2⟩ 256) (hZ c0 c1 c2 (by simp) (by simp) (by simp) _ aB) ?_
  refine dV (φ := aY ⟨d0, d1, d2⟩ 256) (hZ d0 d1 d2 (by simp) (by simp) (by simp) _ aB) ?_
  have e3 : recs wN [some a0, some a1, some a2, some c0, some c1, some c2, some d0, some d1, some d2] = recs kW [⟨a0, a1, a2⟩, ⟨c0, c1, c2⟩, ⟨d0, d1, d2⟩] := rfl
  rw [e3]
  repeat (refine aJ ?_)
  (apply iR; exact fV; exact rfl; exact aB; exact AtsZ.o0 (enc := kW) (sz := 6) (ms := [⟨a0, a1, a2⟩, ⟨c0, c1, c2⟩, ⟨d0, d1, d2⟩]) (i := 0) ⟨by decide, by simp⟩; exact rfl; exact rfl)
  repeat (refine aJ ?_)
  (apply iR; exact fV; exact rfl; exact aB; exact AtsZ.o0 (enc := kW) (sz := 6) (ms := [⟨a0, a1, a2⟩, ⟨c0, c1, c2⟩, ⟨d0, d1, d2⟩]) (i := 1) ⟨by decide, by simp⟩; exact rfl; exact rfl)
  repeat (refine aJ ?_)
  (apply iR; exact fV; exact rfl; exact aB; exact AtsZ.o0 (enc := kW) (sz := 6) (ms := [⟨a0, a1, a2⟩, ⟨c0, c1, c2⟩, ⟨d0, d1, d2⟩]) (i := 2) ⟨by decide, by simp⟩; exact rfl; exact rfl)
  repeat (refine aJ ?_)
  (refine aA rfl (hR ⟨a0, a1, a2⟩ ⟨c0, c1, c2⟩ ⟨d0, d1, d2⟩ _ _ aB aB aB) rfl rfl ?_; rintro _ _ _ ⟨rfl, rfl, rfl⟩; refine ⟨okF, ?_⟩)
  (refine aA rfl (hT ⟨⟨a0, a1, a2⟩, ⟨c0, c1, c2⟩, ⟨d0, d1, d2⟩⟩ _ _ aB) rfl rfl ?_; rintro _ _ _ ⟨rfl, rfl, rfl⟩; refine ⟨okF, ?_⟩)
  repeat (refine aJ ?_)
  refine dP (rs := [.cell 2 44, .tmp 3]) (vs := [sN (HZ.tr ⟨⟨a0, a1, a2⟩, ⟨c0, c1, c2⟩, ⟨d0, d1, d2⟩⟩), .bool true]) (.inl rfl) rfl (.cellN (cs := nQ (HZ.tr ⟨⟨a0, a1, a2⟩, ⟨c0, c1, c2⟩, ⟨d0, d1, d2⟩⟩)) inferInstance rfl aB rfl (.tmp rfl .nil)) rfl M0 (eX (HZ.tr ⟨⟨a0, a1, a2⟩, ⟨c0, c1, c2⟩, ⟨d0, d1, d2⟩⟩) 256 :: I0) aG aF ⟨rfl, by
   rw [if_neg hnc]
   refine ⟨_, rfl, ?_, rfl⟩
   have q0 : (⟨a0, a1, a2⟩ : TZ).t = w.p.t.smul w.t.k0 := by show (⟨a0.z, a1.z, a2.z⟩ : T3 Int) = _; rw [za0, za1, za2, ← hk0]; rfl
   have q1 : (⟨c0, c1, c2⟩ : TZ).t = w.q.t.smul w.t.k1 := by show (⟨c0.z, c1.z, c2.z⟩ : T3 Int) = _; rw [zc0, zc1, zc2, ← hk1]; rfl
   have q2 : (⟨d0, d1, d2⟩ : TZ).t = w.r.t.smul w.t.k2 := by show (⟨d0.z, d1.z, d2.z⟩ : T3 Int) = _; rw [zd0, zd1, zd2, ← hk2]; rfl
   rw [HZ.tr_m]
   show (M9.mk (⟨a0, a1, a2⟩ : TZ).t (⟨c0, c1, c2⟩ : TZ).t (⟨d0, d1, d2⟩ : TZ).t).tr = _
   rw [q0, q1, q2]
   rfl⟩
end
end Go.Proofs.YtmmmfphealhapaaGreat
