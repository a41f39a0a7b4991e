/- Points of homogeneous points; the error of a homography (package homography). -/
import Derived.Test.YtmmmfphealhapaaGreatZrbh
import Derived.Test.YtmmmfphealhapaaGreatZrbd
import Derived.Test.YtmmmfphealhapaaGreatZraq
import Derived.Test.YtmmmfphealhapaaGreatZraw
set_option linter.unusedSimpArgs false
set_option linter.unusedVariables false
set_option maxRecDepth 100000
set_option maxHeartbeats 4000000
namespace Go.Proofs.YtmmmfphealhapaaGreat
open Go Go.Fx
abbrev zR4 : List Value := [.bool false, .slice none 0 0, .bool false, .slice none 0 0]
abbrev zR8 : List Value := [.bool false, .slice none 0 0, .bool false, .slice none 0 0, .bool false, .slice none 0 0, .bool false, .slice none 0 0]
abbrev e2R (a b : RE) : List Value := [.bool (B (a.q.num < 0)), .slice a.p1 (gr a.q.num.natAbs).length a.c1, .bool (B ((a.q.den : Int) < 0)), .slice a.p2 (gr (a.q.den : Int).natAbs).length a.c2, .bool (B (b.q.num < 0)), .slice b.p1 (gr b.q.num.natAbs).length b.c1, .bool (B ((b.q.den : Int) < 0)), .slice b.p2 (gr (b.q.den : Int).natAbs).length b.c2]
section
variable {X : List Nat} {w0 : World} {M0 : List Ent} {I0 : List bA}
theorem aMQ {x y : ZE} {u : Nat} (hu : u ≤ 100000000000) (hy0 : y.z = 0) (hx : fZ x u ∈ I0) (hy : fZ y u ∈ I0) : CD Tryz.prog 109 [nv x, nv y] X w0 M0 I0 (fun v M I => M0 = M ∧ I0 = I ∧ v = .tuple #[.agg zR4.toArray, .int .i64 14]) := by
 have hC := fun (x : ZE) M0 I0 h => wX (X := X) (w0 := w0) (M0 := M0) (I0 := I0) (x := x) (u := u) hu h
 have hS := fun M0 I0 h => lL (X := X) (w0 := w0) (M0 := M0) (I0 := I0) (u := nv y) (z := y.z) (k := u) (by omega) h
 have hs0 : y.z.sign = 0 := Int.sign_eq_zero_iff_zero.2 hy0
 refine bI Tryz.func109 rfl Tryz.ntmps109 rfl ?_
 refine aH ?_
 refine aI ?_
 (refine aK rfl rfl rfl ?_; intro b2; refine ⟨okF, ?_⟩)
 (refine aK rfl rfl rfl ?_; intro b3; refine ⟨okF, ?_⟩)
 (refine aC rfl rfl ?_; intro b4; refine ⟨okF, ?_⟩)
 repeat (refine aJ ?_)
 (repeat refine aH ?_); refine dG 2 [0, 2, 1, 3, 4, 5] [1, 2, 0, 0, 0, 0] mixed (by kernel_rfl) ?_
 repeat (refine aJ ?_)
 (refine aA rfl (hC x _ _ aB) rfl rfl ?_; rintro _ _ _ ⟨rfl, rfl, rfl⟩; refine ⟨okF, ?_⟩)
 repeat (refine aJ ?_)
 (refine aA rfl (hC y _ _ aB) rfl rfl ?_; rintro _ _ _ ⟨rfl, rfl, rfl⟩; refine ⟨okF, ?_⟩)
 repeat (refine aJ ?_)
 (refine aA rfl (hS _ _ aB) rfl rfl ?_; rintro _ _ _ ⟨rfl, rfl, rfl⟩; refine ⟨okF, ?_⟩)
 repeat (refine aJ ?_)
 (refine aD rfl (fun _ => aZ (pvs := ([]).zipIdx.map (fun p => (p.2, p.1))) (cells := zR4) rfl rfl) rfl rfl ?_)
 repeat (refine aJ ?_)
 refine dP (rs := [.cell 4 77, .tmp 5]) (vs := [.agg zR4.toArray, .int .i64 14]) (.inl rfl) rfl (.cellN (cs := zR4) inferInstance rfl aB rfl (.tmp rfl .nil)) rfl M0 I0 aG aF ⟨rfl, rfl, rfl⟩
theorem aFT {p : TZ} {u : Nat} (hu : u ≤ 100000000000) (h0 : p.z.z = 0) (hp : aY p u ∈ I0) : CD Tryz.prog 117 [dE p] X w0 M0 I0 (fun v M I => M0 = M ∧ I0 = I ∧ v = .tuple #[.agg zR8.toArray, .bool false]) := by
 have hN := fun (x : ZE) M0 I0 h1 h2 => aMQ (X := X) (w0 := w0) (M0 := M0) (I0 := I0) (x := x) (y := p.z) (u := u) hu h0 h1 h2
 refine bX (φ := fZ p.x u) (Hv.zx hp) (bX (φ := fZ p.y u) (Hv.zy (List.mem_cons_of_mem _ hp)) (bX (φ := fZ p.z u) (Hv.zz (List.mem_cons_of_mem _ (List.mem_cons_of_mem _ hp))) ?_))
 refine bV Tryz.func117 rfl Tryz.ntmps117 rfl ?_
 refine aH ?_
 refine aI ?_
 (refine aK rfl rfl rfl ?_; intro b1; refine ⟨okF, ?_⟩)
 (refine aC rfl rfl ?_; intro b2; refine ⟨okF, ?_⟩)
 repeat (refine aJ ?_)
 (refine aA rfl (hN p.x _ _ aB aB) rfl rfl ?_; rintro _ _ _ ⟨rfl, rfl, rfl⟩; refine ⟨okF, ?_⟩)
 repeat (refine aJ ?_)
 (refine aC rfl rfl ?_; intro b4; refine ⟨okF, ?_⟩)
 repeat (refine aJ ?_)
 (refine aA rfl (hN p.y _ _ aB aB) rfl rfl ?_; rintro _ _ _ ⟨rfl, rfl, rfl⟩; refine ⟨okF, ?_⟩)
 repeat (refine aJ ?_)
 (refine aC rfl rfl ?_; intro b6; refine ⟨okF, ?_⟩)
 repeat (refine aJ ?_)
 (refine aD rfl (fun _ => nE (vals := [.agg zR4.toArray, .agg zR4.toArray]) (cells := zR8) rfl ?hpl rfl ?hz) rfl rfl ?_; (case hpl => repeat (first | exact True.intro | refine ⟨rfl, ?_⟩)); (case hz => rfl))
 repeat (refine aJ ?_)
 rw [dF (show ¬ (14 : Int) = 0 by decide)]
 refine dP (rs := [.cell 2 172, .tmp 3]) (vs := [.agg zR8.toArray, .bool false]) (.inl rfl) rfl (.cellN (cs := zR8) inferInstance rfl aB rfl (.tmp rfl .nil)) rfl M0 I0 aG aF ⟨rfl, rfl, rfl⟩
theorem aID {p : TZ} {u : Nat} (hu : u ≤ 100000000000) (h0 : p.z.z ≠ 0) (hp : aY p u ∈ I0) : CD Tryz.prog 117 [dE p] X w0 M0 I0 (fun v M I => M0 = M ∧ ∃ a b : RE, v = .tuple #[.agg (e2R a b).toArray, .bool true] ∧ a.q = Rat.divInt p.x.z p.z.z ∧ b.q = Rat.divInt p.y.z p.z.z ∧ I = jA b u :: jA a u :: I0) := by
 have hN := fun (x : ZE) M0 I0 h1 h2 => aGP (X := X) (w0 := w0) (M0 := M0) (I0 := I0) (x := x) (y := p.z) (u := u) hu h0 h1 h2
 unfold RQc at hN
 refine bX (φ := fZ p.x u) (Hv.zx hp) (bX (φ := fZ p.y u) (Hv.zy (List.mem_cons_of_mem _ hp)) (bX (φ := fZ p.z u) (Hv.zz (List.mem_cons_of_mem _ (List.mem_cons_of_mem _ hp))) ?_))
 refine bV Tryz.func117 rfl Tryz.ntmps117 rfl ?_
 refine aH ?_
 refine aI ?_
 (refine aK rfl rfl rfl ?_; intro b1; refine ⟨okF, ?_⟩)
 (refine aC rfl rfl ?_; intro b2; refine ⟨okF, ?_⟩)
 repeat (refine aJ ?_)
 (refine aA rfl (hN p.x _ _ aB aB) rfl rfl ?_; rintro _ _ _ ⟨rfl, a, rfl, ha, rfl⟩; refine ⟨okF, ?_⟩)
 repeat (refine aJ ?_)
 (refine aC rfl rfl ?_; intro b4; refine ⟨okF, ?_⟩)
 repeat (refine aJ ?_)
 (refine aA rfl (hN p.y _ _ aB aB) rfl rfl ?_; rintro _ _ _ ⟨rfl, b, rfl, hb, rfl⟩; refine ⟨okF, ?_⟩)
 repeat (refine aJ ?_)
 (refine aC rfl rfl ?_; intro b6; refine ⟨okF, ?_⟩)
 repeat (refine aJ ?_)
 (refine aD rfl (fun _ => nE (vals := [rv a, rv b]) (cells := e2R a b) rfl ?hpl rfl ?hz) rfl rfl ?_; (case hpl => repeat (first | exact True.intro | refine ⟨rfl, ?_⟩)); (case hz => rfl))
 repeat (refine aJ ?_)
 rw [fA (show (0 : Int) = 0 from rfl)]
 refine dP (rs := [.cell 2 172, .tmp 3]) (vs := [.agg (e2R a b).toArray, .bool true]) (.inl rfl) rfl (.cellN (cs := e2R a b) inferInstance rfl aB rfl (.tmp rfl .nil)) rfl M0 (jA b u :: jA a u :: I0) aG aF ⟨rfl, a, b, rfl, ha, hb, rfl⟩
def ErrR (h : HZ) (s : Q4) (k : Nat) (M0 : List Ent) (I0 : List bA) (v : Value) (M : List Ent) (I : List bA) : Prop := M0 = M ∧ if (h.m.app (oP s)).c = 0 then (I0 = I ∧ v = .tuple #[.agg zR4.toArray, .int .i64 15]) else ∃ e : RE, v = .tuple #[rv e, .int .i64 0] ∧ e.q = aFJ h.m s ∧ I = jA e k :: I0
theorem aNU {h : HZ} {u : Nat} {s : Q4} (hu0 : 63 ≤ u) (hu : u ≤ 10000000000) (hv : aFU h) (hs : s.near) (hh : eX h u ∈ I0) :
  CD Tryz.prog 55 [sN h, vQ4 s] X w0 M0 I0 (ErrR h s (u + 83 + (u + 83) + (u + 83 + (u + 83)) + 1) M0 I0) := by
 have hV := fun M0 I0 h1 => aHA (X := X) (w0 := w0) (M0 := M0) (I0 := I0) (h := h) (u := u) hu0 hu h1
 have hR1 := fun M0 I0 => sV (X := X) (w0 := w0) (M0 := M0) (I0 := I0) hs.x hs.y
 have hR2 := fun M0 I0 => sV (X := X) (w0 := w0) (M0 := M0) (I0 := I0) hs.u hs.v
 have hH := fun M0 I0 => aBM (X := X) (w0 := w0) (M0 := M0) (I0 := I0) hs.x hs.y
 have hT := fun (p : TZ) M0 I0 h1 h2 => zV (X := X) (w0 := w0) (M0 := M0) (I0 := I0) (h := h) (p := p) (k := u) (m := 63) (by omega) (by omega) h1 h2
 unfold ErrR
 obtain ⟨xu, xv⟩ : s.u.natAbs ≤ 2 ^ 16 ∧ s.v.natAbs ≤ 2 ^ 16 := by have := hs.u; have := hs.v; omega
 have hW := fun (x : Int) (h1 : -32768 ≤ x ∧ x ≤ 32768) (h2 : x.natAbs ≤ 2 ^ 16) M0 I0 => aEG (X := X) (w0 := w0) (M0 := M0) (I0 := I0) (x := x) (by omega) (k := 16) h2
 have hSb := fun (a b : RE) M0 I0 h1 h2 => aHC (X := X) (w0 := w0) (M0 := M0) (I0 := I0) (a := a) (b := b) (k := u + 66) (m := 16) (by omega) h1 h2
 have hM := fun (a : RE) M0 I0 h1 h2 => aBK (X := X) (w0 := w0) (M0 := M0) (I0 := I0) (a := a) (b := a) (k := u + 83) (m := u + 83) (by omega) h1 h2
 have hA := fun (a b : RE) M0 I0 h1 h2 => uV (X := X) (w0 := w0) (M0 := M0) (I0 := I0) (a := a) (b := b) (k := u + 83 + (u + 83)) (m := u + 83 + (u + 83)) (by omega) h1 h2
 refine bX (φ := eX h u) (Hv.mem hh) ?_
 refine bI Tryz.func55 rfl Tryz.ntmps55 rfl ?_
 refine aH ?_
 refine aI ?_
 (refine aK rfl rfl rfl ?_; intro b2; refine ⟨okF, ?_⟩)
 refine aO (cs := nQ h) .here ?_
 (refine aK rfl rfl rfl ?_; intro b3; refine ⟨okF, ?_⟩)
 refine aO (cs := kI s) .here ?_
 (refine aC rfl rfl ?_; intro b4; refine ⟨okF, ?_⟩)
 repeat (refine aJ ?_)
 (refine aA rfl (hV _ _ aB) rfl rfl ?_; rintro _ _ _ ⟨rfl, rfl, rfl⟩; refine ⟨okF, ?_⟩)
 rw [fA hv]
 repeat (refine aJ ?_)
 (refine aA rfl (hR1 _ _) rfl rfl ?_; rintro _ _ _ ⟨rfl, rfl, rfl⟩; refine ⟨okF, ?_⟩)
 repeat (refine aJ ?_)
 (refine aA rfl (hR2 _ _) rfl rfl ?_; rintro _ _ _ ⟨rfl, rfl, rfl⟩; refine ⟨okF, ?_⟩)
 repeat (refine aJ ?_)
 by_cases h0 : (h.m.app (oP s)).c = 0
 ·have hP := fun (p : TZ) (e : p.t = h.m.app (oP s)) M0 I0 h1 => aFT (X := X) (w0 := w0) (M0 := M0) (I0 := I0) (p := p) (u := u + 66) (by omega) (by rw [show p.z.z = p.t.c from rfl, e]; exact h0) h1
  refine nC (fun G M I => ∃ b6 : Nat, G = [(4, .pointer (some ⟨b4, 0, none⟩)), (6, .pointer (some ⟨b6, 0, none⟩)), (7, .bool false)] ∧ M = .blk b6 zR8 172 :: .blk b4 zR4 77 :: M0 ∧ I0 = I) ?_ ?_
  ·((repeat refine aH ?_); refine qX (M0) (aX (some ⟨b3, 0, none⟩) (kI s) :: aX (some ⟨b2, 0, none⟩) (nQ h) :: eX h u :: I0) mixed ?_)
   refine eU (fuel := 9) (listed' := #[true, true, true, false, false, false, false, false, false, false, false, false]) [0, 1, 2] [3, 4, 3] aG aF (by kernel_rfl) (by kernel_rfl) rfl rfl ?_
   repeat (refine aJ ?_)
   refine aM (fuel := 8) (i := 3) (j := 9) (by kernel_rfl) ?_ ?_
   ·(refine aA rfl (hH _ _) rfl rfl ?_; rintro _ _ _ ⟨rfl, p, rfl, hp, rfl⟩; refine ⟨okF, ?_⟩)
    refine aL ?_
    repeat (refine aJ ?_)
    refine aM (fuel := 7) (i := 4) (j := 9) (by kernel_rfl) ?_ ?_
    ·((refine aA rfl (hT p _ _ aB aB) rfl rfl ?_; rintro _ _ _ ⟨rfl, r, rfl, hr, rfl⟩; refine ⟨okF, ?_⟩); rw [hp] at hr; replace hr : r.t = h.m.app (oP s) := hr)
     refine aL ?_
     repeat (refine aJ ?_)
     refine aM (fuel := 6) (i := 5) (j := 9) (by kernel_rfl) ?_ ?_
     ·(refine aA rfl (hP r hr _ _ aB) rfl rfl ?_; rintro _ _ _ ⟨rfl, rfl, rfl⟩; refine ⟨okF, ?_⟩)
      refine aL ?_
      refine aR [6, 7, 8, 9, 10, 11] [1, 1, 2, 0, 0, 0] aG aF (by kernel_rfl) (by kernel_rfl) rfl rfl ?_
      repeat (refine aJ ?_)
      (refine aC rfl rfl ?_; intro b6; refine ⟨okF, ?_⟩)
      repeat (refine aJ ?_)
      refine bN _ _ _ aS aG aF ⟨b6, rfl, rfl, rfl⟩
     ·(refine aC rfl rfl ?_; intro b6; refine ⟨okF, ?_⟩)
      refine aL ?_
      refine aR [5, 6, 7, 8, 10, 11] [0, 0, 0, 1, 0, 0] aG aF (by kernel_rfl) (by kernel_rfl) rfl rfl ?_
      repeat (refine aJ ?_)
      (refine aA rfl (hP r hr _ _ aB) rfl rfl ?_; rintro _ _ _ ⟨rfl, rfl, rfl⟩; refine ⟨okF, ?_⟩)
      repeat (refine aJ ?_)
      refine bN _ _ _ aS aG aF ⟨b6, rfl, rfl, rfl⟩
    ·(refine aC rfl rfl ?_; intro b6; refine ⟨okF, ?_⟩)
     refine aL ?_
     refine aR [4, 5, 6, 7, 8, 10, 11] [0, 0, 0, 0, 1, 0, 0] aG aF (by kernel_rfl) (by kernel_rfl) rfl rfl ?_
     repeat (refine aJ ?_)
     ((refine aA rfl (hT p _ _ aB aB) rfl rfl ?_; rintro _ _ _ ⟨rfl, r, rfl, hr, rfl⟩; refine ⟨okF, ?_⟩); rw [hp] at hr; replace hr : r.t = h.m.app (oP s) := hr)
     repeat (refine aJ ?_)
     (refine aA rfl (hP r hr _ _ aB) rfl rfl ?_; rintro _ _ _ ⟨rfl, rfl, rfl⟩; refine ⟨okF, ?_⟩)
     repeat (refine aJ ?_)
     refine bN _ _ _ aS aG aF ⟨b6, rfl, rfl, rfl⟩
   ·(refine aC rfl rfl ?_; intro b6; refine ⟨okF, ?_⟩)
    refine aL ?_
    refine aR [3, 4, 5, 6, 7, 8, 10, 11] [0, 0, 0, 0, 0, 1, 0, 0] aG aF (by kernel_rfl) (by kernel_rfl) rfl rfl ?_
    repeat (refine aJ ?_)
    (refine aA rfl (hH _ _) rfl rfl ?_; rintro _ _ _ ⟨rfl, p, rfl, hp, rfl⟩; refine ⟨okF, ?_⟩)
    repeat (refine aJ ?_)
    ((refine aA rfl (hT p _ _ aB aB) rfl rfl ?_; rintro _ _ _ ⟨rfl, r, rfl, hr, rfl⟩; refine ⟨okF, ?_⟩); rw [hp] at hr; replace hr : r.t = h.m.app (oP s) := hr)
    repeat (refine aJ ?_)
    (refine aA rfl (hP r hr _ _ aB) rfl rfl ?_; rintro _ _ _ ⟨rfl, rfl, rfl⟩; refine ⟨okF, ?_⟩)
    repeat (refine aJ ?_)
    refine bN _ _ _ aS aG aF ⟨b6, rfl, rfl, rfl⟩
  rintro G M I ⟨b6, rfl, rfl, rfl⟩
  repeat (refine aJ ?_)
  (refine aD rfl (fun _ => aZ (pvs := ([]).zipIdx.map (fun p => (p.2, p.1))) (cells := zR4) rfl rfl) rfl rfl ?_)
  repeat (refine aJ ?_)
  refine dP (rs := [.cell 4 77, .tmp 5]) (vs := [.agg zR4.toArray, .int .i64 15]) (.inl rfl) rfl (.cellN (cs := zR4) inferInstance rfl aB rfl (.tmp rfl .nil)) rfl M0 I0 aG aF ⟨rfl, by rw [if_pos h0]; exact ⟨rfl, rfl⟩⟩
 ·have hP := fun (p : TZ) (e : p.t = h.m.app (oP s)) M0 I0 h1 => aID (X := X) (w0 := w0) (M0 := M0) (I0 := I0) (p := p) (u := u + 66) (by omega) (by rw [show p.z.z = p.t.c from rfl, e]; exact h0) h1
  refine nC (fun G M I => ∃ (b6 : Nat) (a b : RE), a.q = Rat.divInt (h.m.app (oP s)).a (h.m.app (oP s)).c ∧ b.q = Rat.divInt (h.m.app (oP s)).b (h.m.app (oP s)).c ∧ G = [(3, .pointer (some ⟨b3, 0, none⟩)), (4, .pointer (some ⟨b4, 0, none⟩)), (6, .pointer (some ⟨b6, 0, none⟩)), (7, .bool true)] ∧ M = .blk b6 (e2R a b) 172 :: .blk b4 zR4 77 :: M0 ∧ I = jA b (u + 66) :: jA a (u + 66) :: aX (some ⟨b3, 0, none⟩) (kI s) :: I0) ?_ ?_
  ·((repeat refine aH ?_); refine qX (M0) (aX (some ⟨b3, 0, none⟩) (kI s) :: aX (some ⟨b2, 0, none⟩) (nQ h) :: eX h u :: I0) mixed ?_)
   refine eU (fuel := 9) (listed' := #[true, true, true, false, false, false, false, false, false, false, false, false]) [0, 1, 2] [3, 4, 3] aG aF (by kernel_rfl) (by kernel_rfl) rfl rfl ?_
   repeat (refine aJ ?_)
   refine aM (fuel := 8) (i := 3) (j := 9) (by kernel_rfl) ?_ ?_
   ·(refine aA rfl (hH _ _) rfl rfl ?_; rintro _ _ _ ⟨rfl, p, rfl, hp, rfl⟩; refine ⟨okF, ?_⟩)
    refine aL ?_
    repeat (refine aJ ?_)
    refine aM (fuel := 7) (i := 4) (j := 9) (by kernel_rfl) ?_ ?_
    ·((refine aA rfl (hT p _ _ aB aB) rfl rfl ?_; rintro _ _ _ ⟨rfl, r, rfl, hr, rfl⟩; refine ⟨okF, ?_⟩); rw [hp] at hr; replace hr : r.t = h.m.app (oP s) := hr)
     refine aL ?_
     repeat (refine aJ ?_)
     refine aM (fuel := 6) (i := 5) (j := 9) (by kernel_rfl) ?_ ?_
     ·(refine aA rfl (hP r hr _ _ aB) rfl rfl ?_; rintro _ _ _ ⟨rfl, a, b, rfl, ha, hb, rfl⟩; refine ⟨okF, ?_⟩)
      refine aL ?_
      refine aR [6, 7, 8, 9, 10, 11] [1, 1, 2, 0, 0, 0] aG aF (by kernel_rfl) (by kernel_rfl) rfl rfl ?_
      repeat (refine aJ ?_)
      (refine aC rfl rfl ?_; intro b6; refine ⟨okF, ?_⟩)
      repeat (refine aJ ?_)
      refine bN _ _ _ aS aG aF ⟨b6, a, b, by rw [ha, ← hr]; rfl, by rw [hb, ← hr]; rfl, rfl, rfl, rfl⟩
     ·(refine aC rfl rfl ?_; intro b6; refine ⟨okF, ?_⟩)
      refine aL ?_
      refine aR [5, 6, 7, 8, 10, 11] [0, 0, 0, 1, 0, 0] aG aF (by kernel_rfl) (by kernel_rfl) rfl rfl ?_
      repeat (refine aJ ?_)
      (refine aA rfl (hP r hr _ _ aB) rfl rfl ?_; rintro _ _ _ ⟨rfl, a, b, rfl, ha, hb, rfl⟩; refine ⟨okF, ?_⟩)
      repeat (refine aJ ?_)
      refine bN _ _ _ aS aG aF ⟨b6, a, b, by rw [ha, ← hr]; rfl, by rw [hb, ← hr]; rfl, rfl, rfl, rfl⟩
    ·(refine aC rfl rfl ?_; intro b6; refine ⟨okF, ?_⟩)
     refine aL ?_
     refine aR [4, 5, 6, 7, 8, 10, 11] [0, 0, 0, 0, 1, 0, 0] aG aF (by kernel_rfl) (by kernel_rfl) rfl rfl ?_
     repeat (refine aJ ?_)
     ((refine aA rfl (hT p _ _ aB aB) rfl rfl ?_; rintro _ _ _ ⟨rfl, r, rfl, hr, rfl⟩; refine ⟨okF, ?_⟩); rw [hp] at hr; replace hr : r.t = h.m.app (oP s) := hr)
     repeat (refine aJ ?_)
     (refine aA rfl (hP r hr _ _ aB) rfl rfl ?_; rintro _ _ _ ⟨rfl, a, b, rfl, ha, hb, rfl⟩; refine ⟨okF, ?_⟩)
     repeat (refine aJ ?_)
     refine bN _ _ _ aS aG aF ⟨b6, a, b, by rw [ha, ← hr]; rfl, by rw [hb, ← hr]; rfl, rfl, rfl, rfl⟩
   ·(refine aC rfl rfl ?_; intro b6; refine ⟨okF, ?_⟩)
    refine aL ?_
    refine aR [3, 4, 5, 6, 7, 8, 10, 11] [0, 0, 0, 0, 0, 1, 0, 0] aG aF (by kernel_rfl) (by kernel_rfl) rfl rfl ?_
    repeat (refine aJ ?_)
    (refine aA rfl (hH _ _) rfl rfl ?_; rintro _ _ _ ⟨rfl, p, rfl, hp, rfl⟩; refine ⟨okF, ?_⟩)
    repeat (refine aJ ?_)
    ((refine aA rfl (hT p _ _ aB aB) rfl rfl ?_; rintro _ _ _ ⟨rfl, r, rfl, hr, rfl⟩; refine ⟨okF, ?_⟩); rw [hp] at hr; replace hr : r.t = h.m.app (oP s) := hr)
    repeat (refine aJ ?_)
    (refine aA rfl (hP r hr _ _ aB) rfl rfl ?_; rintro _ _ _ ⟨rfl, a, b, rfl, ha, hb, rfl⟩; refine ⟨okF, ?_⟩)
    repeat (refine aJ ?_)
    refine bN _ _ _ aS aG aF ⟨b6, a, b, by rw [ha, ← hr]; rfl, by rw [hb, ← hr]; rfl, rfl, rfl, rfl⟩
  rintro G M I ⟨b6, a, b, ha, hb, rfl, rfl, rfl⟩
  repeat (refine aJ ?_)
  refine nC (fun G M I => ∃ (b8 b9 : Nat) (c d : RE), c.q = a.q - (s.u : Rat) ∧ d.q = b.q - (s.v : Rat) ∧ G = [(4, .pointer (some ⟨b4, 0, none⟩)), (8, .pointer (some ⟨b8, 0, none⟩)), (9, .pointer (some ⟨b9, 0, none⟩))] ∧ M = .blk b9 (eR d) 77 :: .blk b8 (eR c) 77 :: .blk b4 zR4 77 :: M0 ∧ I = jA d (u + 83) :: jA c (u + 83) :: I0) ?_ ?_
  ·((repeat refine aH ?_); refine qX (.blk b6 (e2R a b) 172 :: M0) (jA b (u + 66) :: jA a (u + 66) :: aX (some ⟨b3, 0, none⟩) (kI s) :: I0) mixed ?_)
   refine eU (fuel := 8) (listed' := #[true, true, true, true, true, false, false, true, true, true, true, true, false, false, false, false, false, false]) [0, 1, 2, 3, 4, 7, 8, 9, 10, 11] [6, 5, 6, 6, 5, 7, 6, 7, 7, 6] aG aF (by kernel_rfl) (by kernel_rfl) rfl rfl ?_
   repeat (refine aJ ?_)
   refine fB (fuel := 7) (i := 5) (j := 14) (m := 15) (by kernel_rfl) ?_ ?_ ?_
   ·(refine aA rfl (hW s.u hs.u xu _ _) rfl rfl ?_; rintro _ _ _ ⟨rfl, e, rfl, he, rfl⟩; refine ⟨okF, ?_⟩)
    refine aL ?_
    repeat (refine aJ ?_)
    refine fB (fuel := 6) (i := 6) (j := 14) (m := 15) (by kernel_rfl) ?_ ?_ ?_
    ·((refine aA rfl (hSb a e _ _ (Hv.mem aB) (Hv.mem aB)) rfl rfl ?_; rintro _ _ _ ⟨rfl, c, rfl, hc, rfl⟩; refine ⟨okF, ?_⟩); rw [he] at hc)
     refine aL ?_
     repeat (refine aJ ?_)
     refine fB (fuel := 5) (i := 12) (j := 14) (m := 15) (by kernel_rfl) ?_ ?_ ?_
     ·(refine aA rfl (hW s.v hs.v xv _ _) rfl rfl ?_; rintro _ _ _ ⟨rfl, f, rfl, hf, rfl⟩; refine ⟨okF, ?_⟩)
      refine aL ?_
      repeat (refine aJ ?_)
      refine fB (fuel := 4) (i := 13) (j := 14) (m := 15) (by kernel_rfl) ?_ ?_ ?_
      ·((refine aA rfl (hSb b f _ _ (Hv.mem aB) (Hv.mem aB)) rfl rfl ?_; rintro _ _ _ ⟨rfl, d, rfl, hd, rfl⟩; refine ⟨okF, ?_⟩); rw [hf] at hd)
       refine aL ?_
       repeat (refine aJ ?_)
       refine aM (fuel := 3) (i := 14) (j := 15) (by kernel_rfl) ?_ ?_
       ·(refine aC rfl rfl ?_; intro b8; refine ⟨okF, ?_⟩)
        refine aL ?_
        refine aR [15, 16, 17] [0, 0, 0] aG aF (by kernel_rfl) (by kernel_rfl) rfl rfl ?_
        repeat (refine aJ ?_)
        (refine aC rfl rfl ?_; intro b9; refine ⟨okF, ?_⟩)
        repeat (refine aJ ?_)
        refine bN _ _ _ aS aG aF ⟨b8, b9, c, d, hc, hd, rfl, rfl, rfl⟩
       ·(refine aC rfl rfl ?_; intro b9; refine ⟨okF, ?_⟩)
        refine aL ?_
        refine aR [14, 16, 17] [0, 0, 0] aG aF (by kernel_rfl) (by kernel_rfl) rfl rfl ?_
        repeat (refine aJ ?_)
        (refine aC rfl rfl ?_; intro b8; refine ⟨okF, ?_⟩)
        repeat (refine aJ ?_)
        refine bN _ _ _ aS aG aF ⟨b8, b9, c, d, hc, hd, rfl, rfl, rfl⟩
      ·(refine aC rfl rfl ?_; intro b8; refine ⟨okF, ?_⟩)
       refine aL ?_
       repeat (refine aJ ?_)
       refine aM (fuel := 3) (i := 13) (j := 15) (by kernel_rfl) ?_ ?_
       ·((refine aA rfl (hSb b f _ _ (Hv.mem aB) (Hv.mem aB)) rfl rfl ?_; rintro _ _ _ ⟨rfl, d, rfl, hd, rfl⟩; refine ⟨okF, ?_⟩); rw [hf] at hd)
        refine aL ?_
        refine aR [15, 16, 17] [0, 0, 0] aG aF (by kernel_rfl) (by kernel_rfl) rfl rfl ?_
        repeat (refine aJ ?_)
        (refine aC rfl rfl ?_; intro b9; refine ⟨okF, ?_⟩)
        repeat (refine aJ ?_)
        refine bN _ _ _ aS aG aF ⟨b8, b9, c, d, hc, hd, rfl, rfl, rfl⟩
       ·(refine aC rfl rfl ?_; intro b9; refine ⟨okF, ?_⟩)
        refine aL ?_
        refine aR [13, 16, 17] [0, 0, 0] aG aF (by kernel_rfl) (by kernel_rfl) rfl rfl ?_
        repeat (refine aJ ?_)
        ((refine aA rfl (hSb b f _ _ (Hv.mem aB) (Hv.mem aB)) rfl rfl ?_; rintro _ _ _ ⟨rfl, d, rfl, hd, rfl⟩; refine ⟨okF, ?_⟩); rw [hf] at hd)
        repeat (refine aJ ?_)
        refine bN _ _ _ aS aG aF ⟨b8, b9, c, d, hc, hd, rfl, rfl, rfl⟩
      ·(refine aC rfl rfl ?_; intro b9; refine ⟨okF, ?_⟩)
       refine aL ?_
       repeat (refine aJ ?_)
       refine aM (fuel := 3) (i := 13) (j := 14) (by kernel_rfl) ?_ ?_
       ·((refine aA rfl (hSb b f _ _ (Hv.mem aB) (Hv.mem aB)) rfl rfl ?_; rintro _ _ _ ⟨rfl, d, rfl, hd, rfl⟩; refine ⟨okF, ?_⟩); rw [hf] at hd)
        refine aL ?_
        refine aR [14, 16, 17] [0, 0, 0] aG aF (by kernel_rfl) (by kernel_rfl) rfl rfl ?_
        repeat (refine aJ ?_)
        (refine aC rfl rfl ?_; intro b8; refine ⟨okF, ?_⟩)
        repeat (refine aJ ?_)
        refine bN _ _ _ aS aG aF ⟨b8, b9, c, d, hc, hd, rfl, rfl, rfl⟩
       ·(refine aC rfl rfl ?_; intro b8; refine ⟨okF, ?_⟩)
        refine aL ?_
        refine aR [13, 16, 17] [0, 0, 0] aG aF (by kernel_rfl) (by kernel_rfl) rfl rfl ?_
        repeat (refine aJ ?_)
        ((refine aA rfl (hSb b f _ _ (Hv.mem aB) (Hv.mem aB)) rfl rfl ?_; rintro _ _ _ ⟨rfl, d, rfl, hd, rfl⟩; refine ⟨okF, ?_⟩); rw [hf] at hd)
        repeat (refine aJ ?_)
        refine bN _ _ _ aS aG aF ⟨b8, b9, c, d, hc, hd, rfl, rfl, rfl⟩
     ·(refine aC rfl rfl ?_; intro b8; refine ⟨okF, ?_⟩)
      refine aL ?_
      repeat (refine aJ ?_)
      refine aM (fuel := 4) (i := 12) (j := 15) (by kernel_rfl) ?_ ?_
      ·(refine aA rfl (hW s.v hs.v xv _ _) rfl rfl ?_; rintro _ _ _ ⟨rfl, f, rfl, hf, rfl⟩; refine ⟨okF, ?_⟩)
       refine aL ?_
       repeat (refine aJ ?_)
       refine aM (fuel := 3) (i := 13) (j := 15) (by kernel_rfl) ?_ ?_
       ·((refine aA rfl (hSb b f _ _ (Hv.mem aB) (Hv.mem aB)) rfl rfl ?_; rintro _ _ _ ⟨rfl, d, rfl, hd, rfl⟩; refine ⟨okF, ?_⟩); rw [hf] at hd)
        refine aL ?_
        refine aR [15, 16, 17] [0, 0, 0] aG aF (by kernel_rfl) (by kernel_rfl) rfl rfl ?_
        repeat (refine aJ ?_)
        (refine aC rfl rfl ?_; intro b9; refine ⟨okF, ?_⟩)
        repeat (refine aJ ?_)
        refine bN _ _ _ aS aG aF ⟨b8, b9, c, d, hc, hd, rfl, rfl, rfl⟩
       ·(refine aC rfl rfl ?_; intro b9; refine ⟨okF, ?_⟩)
        refine aL ?_
        refine aR [13, 16, 17] [0, 0, 0] aG aF (by kernel_rfl) (by kernel_rfl) rfl rfl ?_
        repeat (refine aJ ?_)
        ((refine aA rfl (hSb b f _ _ (Hv.mem aB) (Hv.mem aB)) rfl rfl ?_; rintro _ _ _ ⟨rfl, d, rfl, hd, rfl⟩; refine ⟨okF, ?_⟩); rw [hf] at hd)
        repeat (refine aJ ?_)
        refine bN _ _ _ aS aG aF ⟨b8, b9, c, d, hc, hd, rfl, rfl, rfl⟩
      ·(refine aC rfl rfl ?_; intro b9; refine ⟨okF, ?_⟩)
       refine aL ?_
       refine aR [12, 13, 16, 17] [0, 0, 0, 0] aG aF (by kernel_rfl) (by kernel_rfl) rfl rfl ?_
       repeat (refine aJ ?_)
       (refine aA rfl (hW s.v hs.v xv _ _) rfl rfl ?_; rintro _ _ _ ⟨rfl, f, rfl, hf, rfl⟩; refine ⟨okF, ?_⟩)
       repeat (refine aJ ?_)
       ((refine aA rfl (hSb b f _ _ (Hv.mem aB) (Hv.mem aB)) rfl rfl ?_; rintro _ _ _ ⟨rfl, d, rfl, hd, rfl⟩; refine ⟨okF, ?_⟩); rw [hf] at hd)
       repeat (refine aJ ?_)
       refine bN _ _ _ aS aG aF ⟨b8, b9, c, d, hc, hd, rfl, rfl, rfl⟩
     ·(refine aC rfl rfl ?_; intro b9; refine ⟨okF, ?_⟩)
      refine aL ?_
      repeat (refine aJ ?_)
      refine aM (fuel := 4) (i := 12) (j := 14) (by kernel_rfl) ?_ ?_
      ·(refine aA rfl (hW s.v hs.v xv _ _) rfl rfl ?_; rintro _ _ _ ⟨rfl, f, rfl, hf, rfl⟩; refine ⟨okF, ?_⟩)
       refine aL ?_
       repeat (refine aJ ?_)
       refine aM (fuel := 3) (i := 13) (j := 14) (by kernel_rfl) ?_ ?_
       ·((refine aA rfl (hSb b f _ _ (Hv.mem aB) (Hv.mem aB)) rfl rfl ?_; rintro _ _ _ ⟨rfl, d, rfl, hd, rfl⟩; refine ⟨okF, ?_⟩); rw [hf] at hd)
        refine aL ?_
        refine aR [14, 16, 17] [0, 0, 0] aG aF (by kernel_rfl) (by kernel_rfl) rfl rfl ?_
        repeat (refine aJ ?_)
        (refine aC rfl rfl ?_; intro b8; refine ⟨okF, ?_⟩)
        repeat (refine aJ ?_)
        refine bN _ _ _ aS aG aF ⟨b8, b9, c, d, hc, hd, rfl, rfl, rfl⟩
       ·(refine aC rfl rfl ?_; intro b8; refine ⟨okF, ?_⟩)
        refine aL ?_
        refine aR [13, 16, 17] [0, 0, 0] aG aF (by kernel_rfl) (by kernel_rfl) rfl rfl ?_
        repeat (refine aJ ?_)
        ((refine aA rfl (hSb b f _ _ (Hv.mem aB) (Hv.mem aB)) rfl rfl ?_; rintro _ _ _ ⟨rfl, d, rfl, hd, rfl⟩; refine ⟨okF, ?_⟩); rw [hf] at hd)
        repeat (refine aJ ?_)
        refine bN _ _ _ aS aG aF ⟨b8, b9, c, d, hc, hd, rfl, rfl, rfl⟩
      ·(refine aC rfl rfl ?_; intro b8; refine ⟨okF, ?_⟩)
       refine aL ?_
       refine aR [12, 13, 16, 17] [0, 0, 0, 0] aG aF (by kernel_rfl) (by kernel_rfl) rfl rfl ?_
       repeat (refine aJ ?_)
       (refine aA rfl (hW s.v hs.v xv _ _) rfl rfl ?_; rintro _ _ _ ⟨rfl, f, rfl, hf, rfl⟩; refine ⟨okF, ?_⟩)
       repeat (refine aJ ?_)
       ((refine aA rfl (hSb b f _ _ (Hv.mem aB) (Hv.mem aB)) rfl rfl ?_; rintro _ _ _ ⟨rfl, d, rfl, hd, rfl⟩; refine ⟨okF, ?_⟩); rw [hf] at hd)
       repeat (refine aJ ?_)
       refine bN _ _ _ aS aG aF ⟨b8, b9, c, d, hc, hd, rfl, rfl, rfl⟩
    ·(refine aC rfl rfl ?_; intro b8; refine ⟨okF, ?_⟩)
     refine aL ?_
     repeat (refine aJ ?_)
     refine aM (fuel := 5) (i := 6) (j := 15) (by kernel_rfl) ?_ ?_
     ·((refine aA rfl (hSb a e _ _ (Hv.mem aB) (Hv.mem aB)) rfl rfl ?_; rintro _ _ _ ⟨rfl, c, rfl, hc, rfl⟩; refine ⟨okF, ?_⟩); rw [he] at hc)
      refine aL ?_
      repeat (refine aJ ?_)
      refine aM (fuel := 4) (i := 12) (j := 15) (by kernel_rfl) ?_ ?_
      ·(refine aA rfl (hW s.v hs.v xv _ _) rfl rfl ?_; rintro _ _ _ ⟨rfl, f, rfl, hf, rfl⟩; refine ⟨okF, ?_⟩)
       refine aL ?_
       repeat (refine aJ ?_)
       refine aM (fuel := 3) (i := 13) (j := 15) (by kernel_rfl) ?_ ?_
       ·((refine aA rfl (hSb b f _ _ (Hv.mem aB) (Hv.mem aB)) rfl rfl ?_; rintro _ _ _ ⟨rfl, d, rfl, hd, rfl⟩; refine ⟨okF, ?_⟩); rw [hf] at hd)
        refine aL ?_
        refine aR [15, 16, 17] [0, 0, 0] aG aF (by kernel_rfl) (by kernel_rfl) rfl rfl ?_
        repeat (refine aJ ?_)
        (refine aC rfl rfl ?_; intro b9; refine ⟨okF, ?_⟩)
        repeat (refine aJ ?_)
        refine bN _ _ _ aS aG aF ⟨b8, b9, c, d, hc, hd, rfl, rfl, rfl⟩
       ·(refine aC rfl rfl ?_; intro b9; refine ⟨okF, ?_⟩)
        refine aL ?_
        refine aR [13, 16, 17] [0, 0, 0] aG aF (by kernel_rfl) (by kernel_rfl) rfl rfl ?_
        repeat (refine aJ ?_)
        ((refine aA rfl (hSb b f _ _ (Hv.mem aB) (Hv.mem aB)) rfl rfl ?_; rintro _ _ _ ⟨rfl, d, rfl, hd, rfl⟩; refine ⟨okF, ?_⟩); rw [hf] at hd)
        repeat (refine aJ ?_)
        refine bN _ _ _ aS aG aF ⟨b8, b9, c, d, hc, hd, rfl, rfl, rfl⟩
      ·(refine aC rfl rfl ?_; intro b9; refine ⟨okF, ?_⟩)
       refine aL ?_
       refine aR [12, 13, 16, 17] [0, 0, 0, 0] aG aF (by kernel_rfl) (by kernel_rfl) rfl rfl ?_
       repeat (refine aJ ?_)
       (refine aA rfl (hW s.v hs.v xv _ _) rfl rfl ?_; rintro _ _ _ ⟨rfl, f, rfl, hf, rfl⟩; refine ⟨okF, ?_⟩)
       repeat (refine aJ ?_)
       ((refine aA rfl (hSb b f _ _ (Hv.mem aB) (Hv.mem aB)) rfl rfl ?_; rintro _ _ _ ⟨rfl, d, rfl, hd, rfl⟩; refine ⟨okF, ?_⟩); rw [hf] at hd)
       repeat (refine aJ ?_)
       refine bN _ _ _ aS aG aF ⟨b8, b9, c, d, hc, hd, rfl, rfl, rfl⟩
     ·(refine aC rfl rfl ?_; intro b9; refine ⟨okF, ?_⟩)
      refine aL ?_
      refine aR [6, 12, 13, 16, 17] [0, 0, 0, 0, 0] aG aF (by kernel_rfl) (by kernel_rfl) rfl rfl ?_
      repeat (refine aJ ?_)
      ((refine aA rfl (hSb a e _ _ (Hv.mem aB) (Hv.mem aB)) rfl rfl ?_; rintro _ _ _ ⟨rfl, c, rfl, hc, rfl⟩; refine ⟨okF, ?_⟩); rw [he] at hc)
      repeat (refine aJ ?_)
      (refine aA rfl (hW s.v hs.v xv _ _) rfl rfl ?_; rintro _ _ _ ⟨rfl, f, rfl, hf, rfl⟩; refine ⟨okF, ?_⟩)
      repeat (refine aJ ?_)
      ((refine aA rfl (hSb b f _ _ (Hv.mem aB) (Hv.mem aB)) rfl rfl ?_; rintro _ _ _ ⟨rfl, d, rfl, hd, rfl⟩; refine ⟨okF, ?_⟩); rw [hf] at hd)
      repeat (refine aJ ?_)
      refine bN _ _ _ aS aG aF ⟨b8, b9, c, d, hc, hd, rfl, rfl, rfl⟩
    ·(refine aC rfl rfl ?_; intro b9; refine ⟨okF, ?_⟩)
     refine aL ?_
     repeat (refine aJ ?_)
     refine aM (fuel := 5) (i := 6) (j := 14) (by kernel_rfl) ?_ ?_
     ·((refine aA rfl (hSb a e _ _ (Hv.mem aB) (Hv.mem aB)) rfl rfl ?_; rintro _ _ _ ⟨rfl, c, rfl, hc, rfl⟩; refine ⟨okF, ?_⟩); rw [he] at hc)
      refine aL ?_
      repeat (refine aJ ?_)
      refine aM (fuel := 4) (i := 12) (j := 14) (by kernel_rfl) ?_ ?_
      ·(refine aA rfl (hW s.v hs.v xv _ _) rfl rfl ?_; rintro _ _ _ ⟨rfl, f, rfl, hf, rfl⟩; refine ⟨okF, ?_⟩)
       refine aL ?_
       repeat (refine aJ ?_)
       refine aM (fuel := 3) (i := 13) (j := 14) (by kernel_rfl) ?_ ?_
       ·((refine aA rfl (hSb b f _ _ (Hv.mem aB) (Hv.mem aB)) rfl rfl ?_; rintro _ _ _ ⟨rfl, d, rfl, hd, rfl⟩; refine ⟨okF, ?_⟩); rw [hf] at hd)
        refine aL ?_
        refine aR [14, 16, 17] [0, 0, 0] aG aF (by kernel_rfl) (by kernel_rfl) rfl rfl ?_
        repeat (refine aJ ?_)
        (refine aC rfl rfl ?_; intro b8; refine ⟨okF, ?_⟩)
        repeat (refine aJ ?_)
        refine bN _ _ _ aS aG aF ⟨b8, b9, c, d, hc, hd, rfl, rfl, rfl⟩
       ·(refine aC rfl rfl ?_; intro b8; refine ⟨okF, ?_⟩)
        refine aL ?_
        refine aR [13, 16, 17] [0, 0, 0] aG aF (by kernel_rfl) (by kernel_rfl) rfl rfl ?_
        repeat (refine aJ ?_)
        ((refine aA rfl (hSb b f _ _ (Hv.mem aB) (Hv.mem aB)) rfl rfl ?_; rintro _ _ _ ⟨rfl, d, rfl, hd, rfl⟩; refine ⟨okF, ?_⟩); rw [hf] at hd)
        repeat (refine aJ ?_)
        refine bN _ _ _ aS aG aF ⟨b8, b9, c, d, hc, hd, rfl, rfl, rfl⟩
      ·(refine aC rfl rfl ?_; intro b8; refine ⟨okF, ?_⟩)
       refine aL ?_
       refine aR [12, 13, 16, 17] [0, 0, 0, 0] aG aF (by kernel_rfl) (by kernel_rfl) rfl rfl ?_
       repeat (refine aJ ?_)
       (refine aA rfl (hW s.v hs.v xv _ _) rfl rfl ?_; rintro _ _ _ ⟨rfl, f, rfl, hf, rfl⟩; refine ⟨okF, ?_⟩)
       repeat (refine aJ ?_)
       ((refine aA rfl (hSb b f _ _ (Hv.mem aB) (Hv.mem aB)) rfl rfl ?_; rintro _ _ _ ⟨rfl, d, rfl, hd, rfl⟩; refine ⟨okF, ?_⟩); rw [hf] at hd)
       repeat (refine aJ ?_)
       refine bN _ _ _ aS aG aF ⟨b8, b9, c, d, hc, hd, rfl, rfl, rfl⟩
     ·(refine aC rfl rfl ?_; intro b8; refine ⟨okF, ?_⟩)
      refine aL ?_
      refine aR [6, 12, 13, 16, 17] [0, 0, 0, 0, 0] aG aF (by kernel_rfl) (by kernel_rfl) rfl rfl ?_
      repeat (refine aJ ?_)
      ((refine aA rfl (hSb a e _ _ (Hv.mem aB) (Hv.mem aB)) rfl rfl ?_; rintro _ _ _ ⟨rfl, c, rfl, hc, rfl⟩; refine ⟨okF, ?_⟩); rw [he] at hc)
      repeat (refine aJ ?_)
      (refine aA rfl (hW s.v hs.v xv _ _) rfl rfl ?_; rintro _ _ _ ⟨rfl, f, rfl, hf, rfl⟩; refine ⟨okF, ?_⟩)
      repeat (refine aJ ?_)
      ((refine aA rfl (hSb b f _ _ (Hv.mem aB) (Hv.mem aB)) rfl rfl ?_; rintro _ _ _ ⟨rfl, d, rfl, hd, rfl⟩; refine ⟨okF, ?_⟩); rw [hf] at hd)
      repeat (refine aJ ?_)
      refine bN _ _ _ aS aG aF ⟨b8, b9, c, d, hc, hd, rfl, rfl, rfl⟩
   ·(refine aC rfl rfl ?_; intro b8; refine ⟨okF, ?_⟩)
    refine aL ?_
    repeat (refine aJ ?_)
    refine aM (fuel := 6) (i := 5) (j := 15) (by kernel_rfl) ?_ ?_
    ·(refine aA rfl (hW s.u hs.u xu _ _) rfl rfl ?_; rintro _ _ _ ⟨rfl, e, rfl, he, rfl⟩; refine ⟨okF, ?_⟩)
     refine aL ?_
     repeat (refine aJ ?_)
     refine aM (fuel := 5) (i := 6) (j := 15) (by kernel_rfl) ?_ ?_
     ·((refine aA rfl (hSb a e _ _ (Hv.mem aB) (Hv.mem aB)) rfl rfl ?_; rintro _ _ _ ⟨rfl, c, rfl, hc, rfl⟩; refine ⟨okF, ?_⟩); rw [he] at hc)
      refine aL ?_
      repeat (refine aJ ?_)
      refine aM (fuel := 4) (i := 12) (j := 15) (by kernel_rfl) ?_ ?_
      ·(refine aA rfl (hW s.v hs.v xv _ _) rfl rfl ?_; rintro _ _ _ ⟨rfl, f, rfl, hf, rfl⟩; refine ⟨okF, ?_⟩)
       refine aL ?_
       repeat (refine aJ ?_)
       refine aM (fuel := 3) (i := 13) (j := 15) (by kernel_rfl) ?_ ?_
       ·((refine aA rfl (hSb b f _ _ (Hv.mem aB) (Hv.mem aB)) rfl rfl ?_; rintro _ _ _ ⟨rfl, d, rfl, hd, rfl⟩; refine ⟨okF, ?_⟩); rw [hf] at hd)
        refine aL ?_
        refine aR [15, 16, 17] [0, 0, 0] aG aF (by kernel_rfl) (by kernel_rfl) rfl rfl ?_
        repeat (refine aJ ?_)
        (refine aC rfl rfl ?_; intro b9; refine ⟨okF, ?_⟩)
        repeat (refine aJ ?_)
        refine bN _ _ _ aS aG aF ⟨b8, b9, c, d, hc, hd, rfl, rfl, rfl⟩
       ·(refine aC rfl rfl ?_; intro b9; refine ⟨okF, ?_⟩)
        refine aL ?_
        refine aR [13, 16, 17] [0, 0, 0] aG aF (by kernel_rfl) (by kernel_rfl) rfl rfl ?_
        repeat (refine aJ ?_)
        ((refine aA rfl (hSb b f _ _ (Hv.mem aB) (Hv.mem aB)) rfl rfl ?_; rintro _ _ _ ⟨rfl, d, rfl, hd, rfl⟩; refine ⟨okF, ?_⟩); rw [hf] at hd)
        repeat (refine aJ ?_)
        refine bN _ _ _ aS aG aF ⟨b8, b9, c, d, hc, hd, rfl, rfl, rfl⟩
      ·(refine aC rfl rfl ?_; intro b9; refine ⟨okF, ?_⟩)
       refine aL ?_
       refine aR [12, 13, 16, 17] [0, 0, 0, 0] aG aF (by kernel_rfl) (by kernel_rfl) rfl rfl ?_
       repeat (refine aJ ?_)
       (refine aA rfl (hW s.v hs.v xv _ _) rfl rfl ?_; rintro _ _ _ ⟨rfl, f, rfl, hf, rfl⟩; refine ⟨okF, ?_⟩)
       repeat (refine aJ ?_)
       ((refine aA rfl (hSb b f _ _ (Hv.mem aB) (Hv.mem aB)) rfl rfl ?_; rintro _ _ _ ⟨rfl, d, rfl, hd, rfl⟩; refine ⟨okF, ?_⟩); rw [hf] at hd)
       repeat (refine aJ ?_)
       refine bN _ _ _ aS aG aF ⟨b8, b9, c, d, hc, hd, rfl, rfl, rfl⟩
     ·(refine aC rfl rfl ?_; intro b9; refine ⟨okF, ?_⟩)
      refine aL ?_
      refine aR [6, 12, 13, 16, 17] [0, 0, 0, 0, 0] aG aF (by kernel_rfl) (by kernel_rfl) rfl rfl ?_
      repeat (refine aJ ?_)
      ((refine aA rfl (hSb a e _ _ (Hv.mem aB) (Hv.mem aB)) rfl rfl ?_; rintro _ _ _ ⟨rfl, c, rfl, hc, rfl⟩; refine ⟨okF, ?_⟩); rw [he] at hc)
      repeat (refine aJ ?_)
      (refine aA rfl (hW s.v hs.v xv _ _) rfl rfl ?_; rintro _ _ _ ⟨rfl, f, rfl, hf, rfl⟩; refine ⟨okF, ?_⟩)
      repeat (refine aJ ?_)
      ((refine aA rfl (hSb b f _ _ (Hv.mem aB) (Hv.mem aB)) rfl rfl ?_; rintro _ _ _ ⟨rfl, d, rfl, hd, rfl⟩; refine ⟨okF, ?_⟩); rw [hf] at hd)
      repeat (refine aJ ?_)
      refine bN _ _ _ aS aG aF ⟨b8, b9, c, d, hc, hd, rfl, rfl, rfl⟩
    ·(refine aC rfl rfl ?_; intro b9; refine ⟨okF, ?_⟩)
     refine aL ?_
     refine aR [5, 6, 12, 13, 16, 17] [0, 0, 0, 0, 0, 0] aG aF (by kernel_rfl) (by kernel_rfl) rfl rfl ?_
     repeat (refine aJ ?_)
     (refine aA rfl (hW s.u hs.u xu _ _) rfl rfl ?_; rintro _ _ _ ⟨rfl, e, rfl, he, rfl⟩; refine ⟨okF, ?_⟩)
     repeat (refine aJ ?_)
     ((refine aA rfl (hSb a e _ _ (Hv.mem aB) (Hv.mem aB)) rfl rfl ?_; rintro _ _ _ ⟨rfl, c, rfl, hc, rfl⟩; refine ⟨okF, ?_⟩); rw [he] at hc)
     repeat (refine aJ ?_)
     (refine aA rfl (hW s.v hs.v xv _ _) rfl rfl ?_; rintro _ _ _ ⟨rfl, f, rfl, hf, rfl⟩; refine ⟨okF, ?_⟩)
     repeat (refine aJ ?_)
     ((refine aA rfl (hSb b f _ _ (Hv.mem aB) (Hv.mem aB)) rfl rfl ?_; rintro _ _ _ ⟨rfl, d, rfl, hd, rfl⟩; refine ⟨okF, ?_⟩); rw [hf] at hd)
     repeat (refine aJ ?_)
     refine bN _ _ _ aS aG aF ⟨b8, b9, c, d, hc, hd, rfl, rfl, rfl⟩
   ·(refine aC rfl rfl ?_; intro b9; refine ⟨okF, ?_⟩)
    refine aL ?_
    repeat (refine aJ ?_)
    refine aM (fuel := 6) (i := 5) (j := 14) (by kernel_rfl) ?_ ?_
    ·(refine aA rfl (hW s.u hs.u xu _ _) rfl rfl ?_; rintro _ _ _ ⟨rfl, e, rfl, he, rfl⟩; refine ⟨okF, ?_⟩)
     refine aL ?_
     repeat (refine aJ ?_)
     refine aM (fuel := 5) (i := 6) (j := 14) (by kernel_rfl) ?_ ?_
     ·((refine aA rfl (hSb a e _ _ (Hv.mem aB) (Hv.mem aB)) rfl rfl ?_; rintro _ _ _ ⟨rfl, c, rfl, hc, rfl⟩; refine ⟨okF, ?_⟩); rw [he] at hc)
      refine aL ?_
      repeat (refine aJ ?_)
      refine aM (fuel := 4) (i := 12) (j := 14) (by kernel_rfl) ?_ ?_
      ·(refine aA rfl (hW s.v hs.v xv _ _) rfl rfl ?_; rintro _ _ _ ⟨rfl, f, rfl, hf, rfl⟩; refine ⟨okF, ?_⟩)
       refine aL ?_
       repeat (refine aJ ?_)
       refine aM (fuel := 3) (i := 13) (j := 14) (by kernel_rfl) ?_ ?_
       ·((refine aA rfl (hSb b f _ _ (Hv.mem aB) (Hv.mem aB)) rfl rfl ?_; rintro _ _ _ ⟨rfl, d, rfl, hd, rfl⟩; refine ⟨okF, ?_⟩); rw [hf] at hd)
        refine aL ?_
        refine aR [14, 16, 17] [0, 0, 0] aG aF (by kernel_rfl) (by kernel_rfl) rfl rfl ?_
        repeat (refine aJ ?_)
        (refine aC rfl rfl ?_; intro b8; refine ⟨okF, ?_⟩)
        repeat (refine aJ ?_)
        refine bN _ _ _ aS aG aF ⟨b8, b9, c, d, hc, hd, rfl, rfl, rfl⟩
       ·(refine aC rfl rfl ?_; intro b8; refine ⟨okF, ?_⟩)
        refine aL ?_
        refine aR [13, 16, 17] [0, 0, 0] aG aF (by kernel_rfl) (by kernel_rfl) rfl rfl ?_
        repeat (refine aJ ?_)
        ((refine aA rfl (hSb b f _ _ (Hv.mem aB) (Hv.mem aB)) rfl rfl ?_; rintro _ _ _ ⟨rfl, d, rfl, hd, rfl⟩; refine ⟨okF, ?_⟩); rw [hf] at hd)
        repeat (refine aJ ?_)
        refine bN _ _ _ aS aG aF ⟨b8, b9, c, d, hc, hd, rfl, rfl, rfl⟩
      ·(refine aC rfl rfl ?_; intro b8; refine ⟨okF, ?_⟩)
       refine aL ?_
       refine aR [12, 13, 16, 17] [0, 0, 0, 0] aG aF (by kernel_rfl) (by kernel_rfl) rfl rfl ?_
       repeat (refine aJ ?_)
       (refine aA rfl (hW s.v hs.v xv _ _) rfl rfl ?_; rintro _ _ _ ⟨rfl, f, rfl, hf, rfl⟩; refine ⟨okF, ?_⟩)
       repeat (refine aJ ?_)
       ((refine aA rfl (hSb b f _ _ (Hv.mem aB) (Hv.mem aB)) rfl rfl ?_; rintro _ _ _ ⟨rfl, d, rfl, hd, rfl⟩; refine ⟨okF, ?_⟩); rw [hf] at hd)
       repeat (refine aJ ?_)
       refine bN _ _ _ aS aG aF ⟨b8, b9, c, d, hc, hd, rfl, rfl, rfl⟩
     ·(refine aC rfl rfl ?_; intro b8; refine ⟨okF, ?_⟩)
      refine aL ?_
      refine aR [6, 12, 13, 16, 17] [0, 0, 0, 0, 0] aG aF (by kernel_rfl) (by kernel_rfl) rfl rfl ?_
      repeat (refine aJ ?_)
      ((refine aA rfl (hSb a e _ _ (Hv.mem aB) (Hv.mem aB)) rfl rfl ?_; rintro _ _ _ ⟨rfl, c, rfl, hc, rfl⟩; refine ⟨okF, ?_⟩); rw [he] at hc)
      repeat (refine aJ ?_)
      (refine aA rfl (hW s.v hs.v xv _ _) rfl rfl ?_; rintro _ _ _ ⟨rfl, f, rfl, hf, rfl⟩; refine ⟨okF, ?_⟩)
      repeat (refine aJ ?_)
      ((refine aA rfl (hSb b f _ _ (Hv.mem aB) (Hv.mem aB)) rfl rfl ?_; rintro _ _ _ ⟨rfl, d, rfl, hd, rfl⟩; refine ⟨okF, ?_⟩); rw [hf] at hd)
      repeat (refine aJ ?_)
      refine bN _ _ _ aS aG aF ⟨b8, b9, c, d, hc, hd, rfl, rfl, rfl⟩
    ·(refine aC rfl rfl ?_; intro b8; refine ⟨okF, ?_⟩)
     refine aL ?_
     refine aR [5, 6, 12, 13, 16, 17] [0, 0, 0, 0, 0, 0] aG aF (by kernel_rfl) (by kernel_rfl) rfl rfl ?_
     repeat (refine aJ ?_)
     (refine aA rfl (hW s.u hs.u xu _ _) rfl rfl ?_; rintro _ _ _ ⟨rfl, e, rfl, he, rfl⟩; refine ⟨okF, ?_⟩)
     repeat (refine aJ ?_)
     ((refine aA rfl (hSb a e _ _ (Hv.mem aB) (Hv.mem aB)) rfl rfl ?_; rintro _ _ _ ⟨rfl, c, rfl, hc, rfl⟩; refine ⟨okF, ?_⟩); rw [he] at hc)
     repeat (refine aJ ?_)
     (refine aA rfl (hW s.v hs.v xv _ _) rfl rfl ?_; rintro _ _ _ ⟨rfl, f, rfl, hf, rfl⟩; refine ⟨okF, ?_⟩)
     repeat (refine aJ ?_)
     ((refine aA rfl (hSb b f _ _ (Hv.mem aB) (Hv.mem aB)) rfl rfl ?_; rintro _ _ _ ⟨rfl, d, rfl, hd, rfl⟩; refine ⟨okF, ?_⟩); rw [hf] at hd)
     repeat (refine aJ ?_)
     refine bN _ _ _ aS aG aF ⟨b8, b9, c, d, hc, hd, rfl, rfl, rfl⟩
  rintro G M I ⟨b8, b9, c, d, hc, hd, rfl, rfl, rfl⟩
  (repeat refine aH ?_); refine bB (.blk b9 (eR d) 77 :: .blk b8 (eR c) 77 :: M0) (jA d (u + 83) :: jA c (u + 83) :: I0) [0, 1, 3, 4, 2, 5, 6, 7, 8] [2, 2, 2, 2, 0, 0, 0, 0, 0] aG aF mixed (by kernel_rfl) ?_
  repeat (refine aJ ?_)
  (refine aA rfl (hM c _ _ (Hv.mem aB) (Hv.mem aB)) rfl rfl ?_; rintro _ _ _ ⟨rfl, x, rfl, hx, rfl⟩; refine ⟨okF, ?_⟩)
  repeat (refine aJ ?_)
  (refine aA rfl (hM d _ _ (Hv.mem aB) (Hv.mem aB)) rfl rfl ?_; rintro _ _ _ ⟨rfl, y, rfl, hy, rfl⟩; refine ⟨okF, ?_⟩)
  repeat (refine aJ ?_)
  (refine aA rfl (hA x y _ _ (Hv.mem aB) (Hv.mem aB)) rfl rfl ?_; rintro _ _ _ ⟨rfl, z, rfl, hz, rfl⟩; refine ⟨okF, ?_⟩)
  repeat (refine aJ ?_)
  refine dP (rs := [.cell 4 77, .tmp 5]) (vs := [rv z, .int .i64 0]) (.inl rfl) rfl (.cellN (cs := eR z) inferInstance rfl aB rfl (.tmp rfl .nil)) rfl M0 (jA z (u + 83 + (u + 83) + (u + 83 + (u + 83)) + 1) :: I0) aG aF ⟨rfl, by rw [if_neg h0]; exact ⟨z, rfl, by rw [aMX, ← ha, ← hb, hz, hx, hy, hc, hd], rfl⟩⟩
end
end Go.Proofs.YtmmmfphealhapaaGreat
