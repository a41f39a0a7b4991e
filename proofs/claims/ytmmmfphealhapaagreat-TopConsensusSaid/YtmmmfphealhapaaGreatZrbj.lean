/- The law TopConsensus: equal homographies, inliers of a homography. The law TopConsensus: its example. An array of scalars indexed. -/
import Derived.Test.YtmmmfphealhapaaGreatZrbi
import Derived.Test.YtmmmfphealhapaaGreatZrbf
import Derived.Test.YtmmmfphealhapaaGreatZrau
import Derived.Test.YtmmmfphealhapaaGreatZraw
import Derived.Test.YtmmmfphealhapaaGreatZrbh
import Derived.Test.YtmmmfphealhapaaGreatZrbe
import Derived.Test.YtmmmfphealhapaaGreatZrbg
import Derived.Test.YtmmmfphealhapaaGreatZrav
set_option linter.unusedSimpArgs false
set_option linter.unusedVariables false
set_option maxRecDepth 100000
set_option maxHeartbeats 4000000
namespace Go.Proofs.YtmmmfphealhapaaGreat
open Go Go.Fx
theorem At.n0 {es : List ZE} {i : Int} (hi : 0 ≤ i ∧ i < es.length) : At (recs eN es) (0 + i.toNat * 2 + 0) (.bool (B ((gt es i).z < 0))) := by rw [Nat.zero_add]; exact At.r2 (j := 0) hi rfl
theorem At.n1 {es : List ZE} {i : Int} (hi : 0 ≤ i ∧ i < es.length) : At (recs eN es) (0 + i.toNat * 2 + 1) (.slice (gt es i).p (gr (gt es i).z.natAbs).length (gt es i).c) := by rw [Nat.zero_add]; exact At.r2 (j := 1) hi rfl
theorem Hv.nsl {I : List bA} {x : ZE} {k : Nat} (h : fZ x k ∈ I) : Hv I (aX x.p (recs eG (gr x.z.natAbs))) := ⟨fun X w hw => by
 obtain ⟨q, c, h1, _, _, h4⟩ := (hw _ h : IsI (nv x) x.z k X w).ex
 have e : x.p = q := by
  unfold iv at h1
  injection h1 with h1
  simp at h1
  exact h1.1
 rw [e]
 exact ⟨h4⟩⟩
section
variable {X : List Nat} {w0 : World} {M0 : List Ent} {I0 : List bA}
theorem aQD {p q : Option Addr} {a : List Int} {n c c' : Nat} (hl : a.length = n) (hn : n ≤ 40000000000) (ha : aX p (recs eG a) ∈ I0) (hb : aX q (recs eG a) ∈ I0) :
  CD Tryz.prog 64 [.slice p n c, .slice q n c'] X w0 M0 I0 (fun v M I => M0 = M ∧ I0 = I ∧ v = .bool true) := by
 refine bX (φ := aX p (recs eG a)) (Hv.mem ha) (bX (φ := aX q (recs eG a)) (Hv.mem (List.mem_cons_of_mem _ hb)) ?_)
 refine bI Tryz.func64 rfl Tryz.ntmps64 rfl ?_
 repeat (refine aJ ?_)
 refine bG [0, 1, 12] rfl (fun k G M I => ∃ i : Nat, i ≤ n ∧ k = n - i ∧ G = [(13, .int .i64 i)] ∧ M0 = M ∧ I = aX q (recs eG a) :: aX p (recs eG a) :: I0) (n) _ _ _ aS aG aF (⟨0, by omega, rfl, rfl, rfl, rfl⟩) ?_
 rintro k G M I ⟨i, hi, rfl, rfl, rfl, rfl⟩
 by_cases hin : i < n
 ·repeat (refine aJ ?_)
  (repeat refine aH ?_); refine bB (M0) (aX q (recs eG a) :: aX p (recs eG a) :: I0) [0, 1, 2, 3, 4, 5, 6, 7, 8] [0, 0, 0, 0, 0, 0, 0, 0, 0] aG aF mixed (by kernel_rfl) ?_
  repeat (refine aJ ?_)
  refine aQ (n - (i + 1)) _ _ _ (by first | omega | (simp only [List.length_append, List.length_cons, List.length_nil]; omega)) aS aG aF (⟨i + 1, by omega, rfl, rfl, rfl, rfl⟩)
 ·repeat (refine aJ ?_)
  refine jZ (M' := M0) (I' := I0) aG aF ?_
  refine aN (by first | exact .inl rfl | exact .inr rfl) rfl rfl _ _ aG aF (⟨rfl, rfl, rfl⟩)
theorem aKE {g h : HZ} {u : Nat} (hu : u ≤ 1000000000000) (he : bD g.m = bD h.m) (hg : eX g u ∈ I0) (hh : eX h u ∈ I0) :
  CD Tryz.prog 13 [sN g, sN h] X w0 M0 I0 (fun v M I => M0 = M ∧ I0 = I ∧ v = .bool true) := by
 have hE := fun (p q : Option Addr) (a : List Int) (c c' : Nat) h0 M0 I0 h1 h2 => aQD (X := X) (w0 := w0) (M0 := M0) (I0 := I0) (p := p) (q := q) (a := a) (n := a.length) (c := c) (c' := c') rfl h0 h1 h2
 refine bX (φ := kD (h.l.map some) u) (Hv.hAll hh) (bX (φ := kD (g.l.map some) u) (Hv.hAll (List.mem_cons_of_mem _ hg)) ?_)
 refine bI Tryz.func13 rfl Tryz.ntmps13 rfl ?_
 refine aH ?_
 refine aI ?_
 (refine aK rfl rfl rfl ?_; intro b2; refine ⟨okF, ?_⟩)
 refine aO (cs := recs eN g.l) .here ?_
 (refine aK rfl rfl rfl ?_; intro b3; refine ⟨okF, ?_⟩)
 refine aO (cs := recs eN h.l) .here ?_
 repeat (refine aJ ?_)
 refine bG [2, 3] rfl (fun k G M I => ∃ i : Nat, i ≤ 9 ∧ k = 9 - i ∧ G = [(6, .int .i64 i)] ∧ M0 = M ∧ I = aX (some ⟨b3, 0, none⟩) (recs eN h.l) :: aX (some ⟨b2, 0, none⟩) (recs eN g.l) :: kD (g.l.map some) u :: kD (h.l.map some) u :: I0) (9) _ _ _ aS aG aF (⟨0, by omega, rfl, rfl, rfl, rfl⟩) ?_
 rintro kk G M I ⟨i, hi, rfl, rfl, rfl, rfl⟩
 by_cases hii : i < 9
 ·have hb9 : (0 : Int) ≤ (i : Int) ∧ (i : Int) < (g.l.length : Int) := ⟨by omega, by show (i : Int) < ((9 : Nat) : Int); omega⟩
  have hb9' : (0 : Int) ≤ (i : Int) ∧ (i : Int) < (h.l.length : Int) := ⟨by omega, by show (i : Int) < ((9 : Nat) : Int); omega⟩
  have hxy : (gt g.l (i : Int)).z = (gt h.l (i : Int)).z := by rw [← oC hii, ← oC hii, he]
  refine dV (φ := fZ (gt g.l (i : Int)) u) (Hv.oAt (os := g.l.map some) (i := (i : Int)) aB ⟨by omega, by show (i : Int) < ((9 : Nat) : Int); omega⟩ (oK hb9)) ?_
  refine dV (φ := fZ (gt h.l (i : Int)) u) (Hv.oAt (os := h.l.map some) (i := (i : Int)) aB ⟨by omega, by show (i : Int) < ((9 : Nat) : Int); omega⟩ (oK hb9')) ?_
  refine dV (φ := aX (gt g.l (i : Int)).p (recs eG (gr (gt g.l (i : Int)).z.natAbs))) (Hv.nsl (x := gt g.l (i : Int)) (k := u) aB) ?_
  refine dV (φ := aX (gt h.l (i : Int)).p (recs eG (gr (gt g.l (i : Int)).z.natAbs))) (by rw [hxy]; exact Hv.nsl (x := gt h.l (i : Int)) (k := u) aB) ?_
  refine uS (φ := (gr (gt g.l (i : Int)).z.natAbs).length ≤ 40000000000) (fun w hw => fK (k := u) (IsI.le (hw.imm (fZ (gt g.l (i : Int)) u) aB).2) hu) (fun hgl => ?_)
  repeat (refine aJ ?_)
  (repeat refine aH ?_); refine bB (M0) (aX (gt h.l (i : Int)).p (recs eG (gr (gt g.l (i : Int)).z.natAbs)) :: aX (gt g.l (i : Int)).p (recs eG (gr (gt g.l (i : Int)).z.natAbs)) :: aX (some ⟨b3, 0, none⟩) (recs eN h.l) :: aX (some ⟨b2, 0, none⟩) (recs eN g.l) :: I0) [0, 1, 2, 3, 4, 5, 6, 7, 8, 9, 10, 11, 12, 13, 14, 15, 16, 17, 18, 19, 20] [1, 1, 1, 1, 1, 1, 1, 1, 1, 0, 1, 1, 1, 0, 1, 1, 1, 0, 0, 0, 0] aG aF mixed (by kernel_rfl) ?_
  repeat (refine aJ ?_)
  (apply fI; exact fV; exact rfl; exact aB; exact At.n0 hb9; exact rfl; exact rfl)
  repeat (refine aJ ?_)
  (apply fI; exact fV; exact rfl; exact aB; exact At.n0 hb9'; exact rfl; exact rfl)
  repeat (refine aJ ?_)
  rw [dF (show ¬ ¬ ((gt g.l (i : Int)).z < 0 ↔ (gt h.l (i : Int)).z < 0) by rw [hxy]; exact fun h => h Iff.rfl)]
  repeat (refine aJ ?_)
  (apply fI; exact fV; exact rfl; exact aB; exact At.n1 hb9; exact rfl; exact rfl)
  repeat (refine aJ ?_)
  (apply fI; exact fV; exact rfl; exact aB; exact At.n1 hb9'; exact rfl; exact rfl)
  rw [← hxy]
  repeat (refine aJ ?_)
  (refine aA rfl (hE _ _ _ _ _ hgl _ _ aB aB) rfl rfl ?_; rintro _ _ _ ⟨rfl, rfl, rfl⟩; refine ⟨okF, ?_⟩)
  repeat (refine aJ ?_)
  refine aQ (9 - (i + 1)) _ _ _ (by first | omega | (simp only [List.length_append, List.length_cons, List.length_nil]; omega)) aS aG aF (⟨i + 1, by omega, rfl, rfl, rfl, rfl⟩)
 ·repeat (refine aJ ?_)
  refine jZ (M' := M0) (I' := I0) aG aF ?_
  refine aN (by first | exact .inl rfl | exact .inr rfl) rfl rfl _ _ aG aF (⟨rfl, rfl, rfl⟩)
theorem aGZ {h : HZ} {u : Nat} {q : Option Addr} {l : List Q4} {n c : Nat} {tol : Int} (hu0 : 63 ≤ u) (hu : u ≤ 1000000) (hv : aFU h) (hl : l.length = n) (hn : n ≤ 64) (hs : ∀ s ∈ l, s.near) (ht : 0 ≤ tol ∧ tol ≤ 1073741824) (hh : eX h u ∈ I0) (hq : aX q (recs kI l) ∈ I0) :
  CD Tryz.prog 11 [sN h, .slice q n c, .int .i64 tol] X w0 M0 I0 (fun v M I => M0 = M ∧ ∃ (q' : Option Addr) (c' : Nat), v = .slice q' (gD (xP (dB h.m)) l tol).length c' ∧ I = aX q' (recs eZ (gD (xP (dB h.m)) l tol)) :: I0) := by
 have hWt := fun M0 I0 => aET (X := X) (w0 := w0) (M0 := M0) (I0 := I0) (x := tol) (by omega) (k := 30) (by have : 2 ^ 30 = 1073741824 := rfl; omega)
 have hQ := fun (a b : RE) M0 I0 h1 h2 => aCC (X := X) (w0 := w0) (M0 := M0) (I0 := I0) (a := a) (b := b) (k := u + 83 + (u + 83) + (u + 83 + (u + 83)) + 1) (m := 30) (by omega) h1 h2
 obtain ⟨A, hA⟩ : ∃ A, xP (dB h.m) = A := ⟨_, rfl⟩
 rw [hA]
 refine bX (φ := eX h u) (Hv.mem hh) (bX (φ := aX q (recs kI l)) (Hv.mem (List.mem_cons_of_mem _ hq)) ?_)
 refine oU Tryz.func11 rfl Tryz.ntmps11 rfl ?_
 refine aH ?_
 refine aI ?_
 (refine aK rfl rfl rfl ?_; intro b3; refine ⟨okF, ?_⟩)
 refine aO (cs := nQ h) .here ?_
 repeat (refine aJ ?_)
 refine vL 3 1 ?_
 refine bG [2, 3, 12, 13] rfl (fun k G M I => ∃ (i : Nat) (zs : List Int) (qe : Option Addr) (ce : Nat), i ≤ n ∧ k = n - i ∧ zs = yL A l tol i ∧ G = [(7, .slice qe zs.length ce), (14, .int .i64 i)] ∧ M = .row qe zs.length ce (recs eZ zs) 3 1 :: M0 ∧ I = aX (some ⟨b3, 0, none⟩) (nQ h) :: aX q (recs kI l) :: eX h u :: I0) (n) _ _ _ aS aG aF (⟨0, [], none, 0, by omega, rfl, rfl, rfl, rfl, rfl⟩) ?_
 rintro kk G M I ⟨i, zs, qe, ce, hi, rfl, hzs, rfl, rfl, rfl⟩
 have hzl : zs.length ≤ i := by rw [hzs]; exact qN
 by_cases hin : i < n
 ·have hmem := jO (ms := l) (i := (i : Int)) (by omega)
  obtain ⟨s, hss⟩ : ∃ s, gt l (i : Int) = s := ⟨_, rfl⟩
  rw [hss] at hmem
  have hMs := fun M0 I0 h => aNU (X := X) (w0 := w0) (M0 := M0) (I0 := I0) (h := _) (u := u) (s := s) hu0 (by omega) hv (hs s hmem) h
  unfold ErrR at hMs
  have hst : yL A l tol (i + 1) = if okQ A tol s then zs ++ [(i : Int)] else zs := by show (if okQ A tol (gt l (i : Int)) then _ else _) = _; rw [hss, hzs]
  have hok := aNE h.m tol s
  rw [hA] at hok
  repeat (refine aJ ?_)
  rw [hss]
  (refine aC rfl rfl ?_; intro b9; refine ⟨okF, ?_⟩)
  repeat (refine aJ ?_)
  by_cases h0 : (h.m.app (oP s)).c = 0
  ·simp only [if_pos h0] at hMs
   rw [if_neg (show ¬ okQ A tol s from fun h => (hok.1 h).1 h0)] at hst
   (refine aA rfl (hMs _ _ aB) rfl rfl ?_; rintro _ _ _ ⟨rfl, rfl, rfl⟩; refine ⟨okF, ?_⟩)
   repeat (refine aJ ?_)
   (refine aC rfl rfl ?_; intro b10; refine ⟨okF, ?_⟩)
   repeat (refine aJ ?_)
   (repeat refine aH ?_); refine gZ [0, 1, 2, 3, 4, 5, 6, 7, 8] [2, 2, 0, 1, 1, 0, 0, 0, 0] mixed (by kernel_rfl) ?_
   repeat (refine aJ ?_)
   refine aQ (n - (i + 1)) _ _ _ (by first | omega | (simp only [List.length_append, List.length_cons, List.length_nil]; omega)) aS aG aF (⟨i + 1, zs, qe, ce, by omega, rfl, hst.symm, rfl, rfl, rfl⟩)
  ·simp only [if_neg h0] at hMs
   (refine aA rfl (hMs _ _ aB) rfl rfl ?_; rintro _ _ _ ⟨rfl, e, rfl, he, rfl⟩; refine ⟨okF, ?_⟩)
   repeat (refine aJ ?_)
   (refine aC rfl rfl ?_; intro b10; refine ⟨okF, ?_⟩)
   repeat (refine aJ ?_)
   refine yV (M' := .blk b10 (eR e) 77 :: .row qe zs.length ce (recs eZ zs) 3 1 :: M0) (I' := jA e (u + 83 + (u + 83) + (u + 83 + (u + 83)) + 1) :: aX (some ⟨b3, 0, none⟩) (nQ h) :: aX q (recs kI l) :: eX h u :: I0) aG aF ?_
   (repeat refine aH ?_); refine bB (.blk b10 (eR e) 77 :: M0) (jA e (u + 83 + (u + 83) + (u + 83 + (u + 83)) + 1) :: I0) [0, 1, 2, 3, 4, 5, 6, 7, 8] [2, 2, 0, 1, 1, 0, 0, 0, 0] aG aF mixed (by kernel_rfl) ?_
   repeat (refine aJ ?_)
   (refine aA rfl (hWt _ _) rfl rfl ?_; rintro _ _ _ ⟨rfl, et, rfl, het, rfl⟩; refine ⟨okF, ?_⟩)
   (refine aA rfl (hQ e et _ _ (Hv.mem aB) (Hv.mem aB)) rfl rfl ?_; rintro _ _ _ ⟨rfl, rfl, rfl⟩; refine ⟨okF, ?_⟩)
   have hcp : zQ e.q et.q ≤ 0 ↔ aFJ h.m s ≤ (tol : Rat) := by rw [aHR, he, het]
   by_cases h1 : aFJ h.m s ≤ (tol : Rat)
   ·rw [if_pos (hok.2 ⟨h0, h1⟩)] at hst
    have h2 := hcp.2 h1
    repeat (refine aJ ?_)
    (refine dM (cs := recs eZ [(i : Int)]) ([.int .i64 (i : Int)]) rfl rfl (by intro v hv; repeat (first | exact absurd hv (List.not_mem_nil) | (rcases List.mem_cons.1 hv with rfl | hv; · rfl))) (by omega) rfl rfl rfl ?_; intro b; refine ⟨okF, ?_⟩)
    (refine iK (ys := [(i : Int)]) 2 rfl rfl rfl ?_ (by decide) rfl (by omega) (by omega) rfl rfl ?_; (· first | exact Src.blk aB | exact Src.row aB | exact Src.imm aB (by first | assumption | exact .inl (Ok.mk _ _))); intro q2 c3; refine ⟨okF, ?_⟩)
    repeat (refine aJ ?_)
    refine aQ (n - (i + 1)) _ _ _ (by first | omega | (simp only [List.length_append, List.length_cons, List.length_nil]; omega)) aS aG aF (⟨i + 1, zs ++ [(i : Int)], q2, c3, by omega, rfl, hst.symm, rfl, rfl, rfl⟩)
   ·rw [if_neg (fun h => h1 (hok.1 h).2)] at hst
    have h2 : ¬ zQ e.q et.q ≤ 0 := fun h => h1 (hcp.1 h)
    repeat (refine aJ ?_)
    refine aQ (n - (i + 1)) _ _ _ (by first | omega | (simp only [List.length_append, List.length_cons, List.length_nil]; omega)) aS aG aF (⟨i + 1, zs, qe, ce, by omega, rfl, hst.symm, rfl, rfl, rfl⟩)
 ·obtain rfl : i = n := by omega
  have hzz : zs = gD A l tol := by rw [hzs]; unfold gD; rw [hl]
  subst hzz
  repeat (refine aJ ?_)
  refine uJ .here ?_
  refine jZ (M' := M0) (I' := aX qe (recs eZ (gD A l tol)) :: I0) aG aF ?_
  refine aN (by first | exact .inl rfl | exact .inr rfl) rfl rfl _ _ aG aF (⟨rfl, qe, ce, rfl, rfl⟩)
end
end Go.Proofs.YtmmmfphealhapaaGreat
namespace Go.Proofs.YtmmmfphealhapaaGreat
open Go Go.Fx
abbrev zE0 : ZE := ⟨0, none, 0⟩
abbrev zH : HZ := ⟨⟨zE0, zE0, zE0⟩, ⟨zE0, zE0, zE0⟩, ⟨zE0, zE0, zE0⟩⟩
theorem aOC : eN zE0 = zN := by
 show [Value.bool (B ((0 : Int) < 0)), Value.slice none (gr (0 : Int).natAbs).length 0] = _
 rw [dF (by decide), show (0 : Int).natAbs = 0 from rfl, fH]
 rfl
theorem aCZ : z18 = recs eN zH.l := by
 show recs wN [none, none, none, none, none, none, none, none, none] = recs eN [zE0, zE0, zE0, zE0, zE0, zE0, zE0, zE0, zE0]
 simp only [recs, List.flatMap_cons, List.flatMap_nil, aOC]
 rfl
theorem isZero {k : Nat} {X : List Nat} {w : World} : IsI (nv zE0) 0 k X w := ⟨none, 0, rfl, ⟨by rw [show (0 : Int).natAbs = 0 from rfl, fH]; exact Nat.le_refl _, .inr ⟨by rw [show (0 : Int).natAbs = 0 from rfl, fH]; rfl, rfl⟩⟩, Nat.zero_le _, fun j v hj => by rw [show (0 : Int).natAbs = 0 from rfl, fH] at hj; simp [recs] at hj⟩
theorem Hv.zH {I : List bA} {k : Nat} : Hv I (eX zH k) := ⟨fun X w _ => ⟨⟨isZero, isZero, isZero⟩, ⟨isZero, isZero, isZero⟩, ⟨isZero, isZero, isZero⟩⟩⟩
theorem aQN : ¬ aFU zH := fun h => by
 have h1 : uA (bD zH.m) = 1 := h.1.1
 revert h1
 decide
section
variable {X : List Nat} {w0 : World} {M0 : List Ent} {I0 : List bA}
theorem aMP : CD Tryz.prog 36 [.agg z18.toArray] X w0 M0 I0 (fun v M I => M0 = M ∧ I0 = I ∧ v = .bool false) := by
 rw [aCZ]
 refine bX (φ := eX zH 63) Hv.zH ?_
 refine CD.post (aGL (h := zH) (u := 63) (by omega) (by omega) List.mem_cons_self) (fun v M I w h hw => ?_)
 obtain ⟨rfl, rfl, rfl⟩ := h
 exact ⟨M0, I0, ⟨rfl, rfl, congrArg Value.bool (dF (fun h => aQN h.1))⟩, hw.inc (Inc.wk Inc.refl)⟩
theorem aDU {tol : Int} {q : Option Addr} {l : List Q4} {n c : Nat} (hl : l.length = n) (hn : n ≤ 12) (hc : pI l = 0) (ht : tolP tol) (hq : aX q (recs kI l) ∈ I0) :
  CD Tryz.prog 9 [.int .i64 3, .slice q n c, .int .i64 tol] X w0 M0 I0 (aHH (kL (vV 3 l) (fun A => gD A l tol) (uM n 4 0)) 3 M0 I0) := by
 obtain ⟨_, hs⟩ := aBL hc
 refine aMZ (kd := 3) (by omega) hl hn hc ht hq (fun smp qs_ cs hsm M0 I0 h => ?_)
 have hin : ∀ x ∈ smp, 0 ≤ x ∧ x < (n : Int) := fun x hx => by have := hsm.2 x hx; omega
 unfold vV
 rw [if_pos rfl]
 exact aDD hl (by omega) hs hsm.1 hin h
theorem aIL : CD Tryz.prog 35 [] X w0 M0 I0 (fun v M I => M0 = M ∧ ∃ b : Nat, v = .slice (some ⟨b, 0, none⟩) 5 5 ∧ I = aX (some ⟨b, 0, none⟩) (recs kI ex5) :: I0) := by
 refine aHF Tryz.func35 rfl Tryz.ntmps35 rfl ?_
 repeat (refine aJ ?_)
 (refine aD rfl (fun _ => aZ (pvs := ([]).zipIdx.map (fun p => (p.2, p.1))) (cells := [.int .i64 0, .int .i64 0, .int .i64 0, .int .i64 0]) rfl rfl) rfl rfl ?_)
 (refine aD rfl (fun _ => aZ (pvs := [(0, .int .i64 1)]) (cells := [.int .i64 1, .int .i64 0]) rfl rfl) rfl rfl ?_)
 (refine aD rfl (fun _ => aZ (pvs := [(0, .int .i64 2)]) (cells := [.int .i64 2, .int .i64 0]) rfl rfl) rfl rfl ?_)
 (refine aD rfl (fun _ => aZ (pvs := [(0, .agg #[.int .i64 1, .int .i64 0]), (1, .agg #[.int .i64 2, .int .i64 0])]) (cells := [.int .i64 1, .int .i64 0, .int .i64 2, .int .i64 0]) rfl rfl) rfl rfl ?_)
 (refine aD rfl (fun _ => aZ (pvs := ([.int .i64 1, .int .i64 1]).zipIdx.map (fun p => (p.2, p.1))) (cells := [.int .i64 1, .int .i64 1]) rfl rfl) rfl rfl ?_)
 (refine aD rfl (fun _ => aZ (pvs := ([.int .i64 2, .int .i64 2]).zipIdx.map (fun p => (p.2, p.1))) (cells := [.int .i64 2, .int .i64 2]) rfl rfl) rfl rfl ?_)
 (refine aD rfl (fun _ => aZ (pvs := [(0, .agg #[.int .i64 1, .int .i64 1]), (1, .agg #[.int .i64 2, .int .i64 2])]) (cells := [.int .i64 1, .int .i64 1, .int .i64 2, .int .i64 2]) rfl rfl) rfl rfl ?_)
 (refine aD rfl (fun _ => aZ (pvs := [(1, .int .i64 1)]) (cells := [.int .i64 0, .int .i64 1]) rfl rfl) rfl rfl ?_)
 (refine aD rfl (fun _ => aZ (pvs := [(1, .int .i64 2)]) (cells := [.int .i64 0, .int .i64 2]) rfl rfl) rfl rfl ?_)
 (refine aD rfl (fun _ => aZ (pvs := [(0, .agg #[.int .i64 0, .int .i64 1]), (1, .agg #[.int .i64 0, .int .i64 2])]) (cells := [.int .i64 0, .int .i64 1, .int .i64 0, .int .i64 2]) rfl rfl) rfl rfl ?_)
 (refine aD rfl (fun _ => aZ (pvs := ([.int .i64 5, .int .i64 7]).zipIdx.map (fun p => (p.2, p.1))) (cells := [.int .i64 5, .int .i64 7]) rfl rfl) rfl rfl ?_)
 (refine aD rfl (fun _ => aZ (pvs := [(0, .int .i64 1)]) (cells := [.int .i64 1, .int .i64 0]) rfl rfl) rfl rfl ?_)
 (refine aD rfl (fun _ => aZ (pvs := [(0, .agg #[.int .i64 5, .int .i64 7]), (1, .agg #[.int .i64 1, .int .i64 0])]) (cells := [.int .i64 5, .int .i64 7, .int .i64 1, .int .i64 0]) rfl rfl) rfl rfl ?_)
 (refine dM (cs := recs kI ex5) ([vQ4 ⟨0, 0, 0, 0⟩, vQ4 ⟨1, 0, 2, 0⟩, vQ4 ⟨1, 1, 2, 2⟩, vQ4 ⟨0, 1, 0, 2⟩, vQ4 ⟨5, 7, 1, 0⟩]) rfl rfl (by intro v hv; repeat (first | exact absurd hv (List.not_mem_nil) | (rcases List.mem_cons.1 hv with rfl | hv; · rfl))) (by omega) rfl rfl rfl ?_; intro b; refine ⟨okF, ?_⟩)
 refine aO .here ?_
 repeat (refine aJ ?_)
 refine aN (by first | exact .inl rfl | exact .inr rfl) rfl rfl _ _ aG aF (⟨rfl, b, rfl, rfl⟩)
theorem aKC : CD Tryz.prog 7 [] X w0 M0 I0 (fun v M I => M0 = M ∧ I0 = I ∧ v = .bool true) := by
 obtain ⟨g, hg, hg1⟩ : ∃ g, kL (vV 3 ex5) (fun A => gD A ex5 0) (uM 5 4 0) = some g ∧ (g.1, g.2.1) = (([0, 1, 2, 3], [0, 1, 2, 3]) : List Int × List Int) := by
  have := aLC
  cases h : kL (vV 3 ex5) (fun A => gD A ex5 0) (uM 5 4 0) with
  | none => rw [h] at this; cases this
  | some g => rw [h] at this; exact ⟨g, rfl, Option.some.inj this⟩
 injection hg1 with hgs hgi
 obtain ⟨_, n1, n2, hgm, _⟩ := aEJ hg
 rw [hgs] at n1 n2 hgm
 have hB := fun (b : Nat) M0 I0 h => aDU (X := X) (w0 := w0) (M0 := M0) (I0 := I0) (tol := 0) (q := some ⟨b, 0, none⟩) (l := ex5) (n := 5) (c := 5) rfl (by omega) aNQ (by decide) h
 rw [hg] at hB
 unfold aHH at hB
 have hZ := fun M0 I0 => aMP (X := X) (w0 := w0) (M0 := M0) (I0 := I0)
 refine aHF Tryz.func7 rfl Tryz.ntmps7 rfl ?_
 repeat (refine aJ ?_)
 (refine aA rfl (aIL) rfl rfl ?_; rintro _ _ _ ⟨rfl, b1, rfl, rfl⟩; refine ⟨okF, ?_⟩)
 repeat (refine aJ ?_)
 (refine aA rfl (hB b1 _ _ aB) rfl rfl ?_; rintro _ _ _ ⟨rfl, f, rfl, hk, hs, hi, hmq, hmd, rfl⟩; refine ⟨okF, ?_⟩)
 rw [hgs] at hs
 rw [hgi] at hi
 rw [hgm] at hmq
 repeat (refine aJ ?_)
 (refine aC rfl rfl ?_; intro b2; refine ⟨okF, ?_⟩)
 repeat (refine aJ ?_)
 refine tO (φ := pM f.m kX) (Hv.bfM aB) ?_
 have hOf := fun M0 I0 h => aKL (X := X) (w0 := w0) (M0 := M0) (I0 := I0) (m := f.m) (ku := kX) (by decide) hmd (by rw [hmq]; exact aDW n1 n2) h
 (refine aA rfl (hOf _ _ aB) rfl rfl ?_; rintro _ _ _ ⟨rfl, h, c, e, rfl, hc, he, hw, hrd, rfl⟩; refine ⟨okF, ?_⟩)
 rw [hmq] at hw
 have hfl := aJY n1 n2 rfl hc he hw hrd aOG ex5_g aNO
 have hA := fun M0 I0 h1 => aGL (X := X) (w0 := w0) (M0 := M0) (I0 := I0) (h := h) (u := 63 + 10 * kX) (by decide) (by decide) h1
 have hvl : aFU h ∧ h.z.x.z = 0 ∧ h.z.y.z = 0 := by
  have e2 : [h.x.x.z, h.x.y.z, h.x.z.z, h.y.x.z, h.y.y.z, h.y.z.z, h.z.x.z, h.z.y.z, h.z.z.z] = [2, 0, 0, 0, 2, 0, 0, 0, 1] := hfl
  simp only [List.cons.injEq, and_true] at e2
  obtain ⟨x0, x1, x2, x3, x4, x5, x6, x7, x8⟩ := e2
  refine ⟨⟨hrd, ?_⟩, x6, x7⟩
  show d3 (⟨h.x.x.z, h.x.y.z, h.x.z.z⟩ : T3 Int) ⟨h.y.x.z, h.y.y.z, h.y.z.z⟩ ⟨h.z.x.z, h.z.y.z, h.z.z.z⟩ ≠ 0
  rw [x0, x1, x2, x3, x4, x5, x6, x7, x8]
  decide
 repeat (refine aJ ?_)
 (refine aC rfl rfl ?_; intro b3; refine ⟨okF, ?_⟩)
 repeat (refine aJ ?_)
 (refine dM (cs := recs eZ [0, 1, 2, 3]) ([.int .i64 0, .int .i64 1, .int .i64 2, .int .i64 3]) rfl rfl (by intro v hv; repeat (first | exact absurd hv (List.not_mem_nil) | (rcases List.mem_cons.1 hv with rfl | hv; · rfl))) (by omega) rfl rfl rfl ?_; intro b5; refine ⟨okF, ?_⟩)
 refine aO .here ?_
 refine tO (φ := aX f.ps (recs eZ f.smp)) (Hv.bfS aB) ?_
 refine tO (φ := aX f.pi (recs eZ f.inl)) (Hv.bfI aB) ?_
 (refine aA rfl (aFP (a := f.smp) (b := [0, 1, 2, 3]) (by rw [hs]; decide) aB aB) rfl rfl ?_; rintro _ _ _ ⟨rfl, rfl, rfl⟩; refine ⟨okF, ?_⟩)
 rw [fA hs]
 repeat (refine aJ ?_)
 (refine dM (cs := recs eZ [0, 1, 2, 3]) ([.int .i64 0, .int .i64 1, .int .i64 2, .int .i64 3]) rfl rfl (by intro v hv; repeat (first | exact absurd hv (List.not_mem_nil) | (rcases List.mem_cons.1 hv with rfl | hv; · rfl))) (by omega) rfl rfl rfl ?_; intro b6; refine ⟨okF, ?_⟩)
 refine aO .here ?_
 (refine aA rfl (aFP (a := f.inl) (b := [0, 1, 2, 3]) (by rw [hi]; decide) aB aB) rfl rfl ?_; rintro _ _ _ ⟨rfl, rfl, rfl⟩; refine ⟨okF, ?_⟩)
 rw [fA hi]
 repeat (refine aJ ?_)
 (refine aD rfl (fun _ => nZ (pvs := []) (cells := z18) rfl rfl) rfl rfl ?_)
 repeat (refine aJ ?_)
 (refine aA rfl (hZ _ _) rfl rfl ?_; rintro _ _ _ ⟨rfl, rfl, rfl⟩; refine ⟨okF, ?_⟩)
 repeat (refine aJ ?_)
 (refine aA rfl (hA _ _ aB) rfl rfl ?_; rintro _ _ _ ⟨rfl, rfl, rfl⟩; refine ⟨okF, ?_⟩)
 rw [fA hvl]
 repeat (refine aJ ?_)
 refine jZ (M' := M0) (I' := I0) aG aF ?_
 refine aN (by first | exact .inl rfl | exact .inr rfl) rfl rfl _ _ aG aF (⟨rfl, rfl, rfl⟩)
end
end Go.Proofs.YtmmmfphealhapaaGreat
namespace Go.Fx
open Go
section
variable {P : Program} {n : Nat} {G : Env} {C : World → Prop} {ty : TypeId}
theorem aCE {t e : TypeId} {sz len : Nat} {x ix : Operand} {cs : List Value} {v : Value} {k : IntKind} {i : Int} [ht : ArrTy P t len e sz] [he : ScalarTy P e] (hx : ev G x = some (.agg cs.toArray)) (hi : ev G ix = some (.int k i)) (h : 0 ≤ i ∧ i < len)
  (hs : sz = 1) (hv : cs[i.toNat]? = some v) : Const P n G (.index t x ix) ty C v := by
 subst hs
 refine ⟨?_⟩
 intro st ha dst pos after guard w _
 have hu := ht.und
 simp [execOp, Instr.index, ha.ev hx, ha.ev hi, asIntOf, fD hu, h.1, h.2, part, lC, run_sizeOf ht.size, hv]
end
end Go.Fx
