/- consensus: miss, inliers. consensus.Best, for any way to find the map of a sample. -/
import Derived.Test.YtmmmfphealhapaaGreatZrbe
import Derived.Test.YtmmmfphealhapaaGreatZraw
set_option linter.unusedSimpArgs false
set_option linter.unusedVariables false
set_option maxRecDepth 100000
set_option maxHeartbeats 4000000
namespace Go.Proofs.YtmmmfphealhapaaGreat
open Go Go.Fx
theorem e15 : 2 ^ 15 = 32768 := rfl
abbrev zRg : List Value := [.bool false, .slice none 0 0, .bool false, .slice none 0 0]
abbrev kM (k : Nat) : Nat := 24 * k + 321
section
variable {X : List Nat} {w0 : World} {M0 M1 : List Ent} {I0 : List bA}
theorem aLP {r : RL} {s : Q4} {b3 k : Nat} (hk : k ≤ 10000000000) (hl : r.es.length = 3) (hn : s.near) (hr : Hv I0 (isL r k)) (hp : Hv I0 (aX (some ⟨b3, 0, none⟩) (kI s))) :
  CD Tryz.prog 190 [lv r, .pointer (some ⟨b3, 0, none⟩)] X w0 M0 I0 (RQ (r.q.getD 0 0 * (s.x : Rat) + r.q.getD 1 0 * (s.y : Rat) + r.q.getD 2 0) (3 * k + 32) M0 I0) := by
 obtain ⟨n1, n2, n3, n4⟩ := hn
 have q0 : r.q.getD 0 0 = (gt r.es 0).q := aBQ (by omega)
 have q1 : r.q.getD 1 0 = (gt r.es 1).q := aBQ (by omega)
 have q2 : r.q.getD 2 0 = (gt r.es 2).q := aBQ (by omega)
 have hWx := fun M0 I0 => qL (X := X) (w0 := w0) (M0 := M0) (I0 := I0) (x := s.x) (by omega) (k := 15) (by rw [e15]; omega)
 have hWy := fun M0 I0 => qL (X := X) (w0 := w0) (M0 := M0) (I0 := I0) (x := s.y) (by omega) (k := 15) (by rw [e15]; omega)
 have hM := fun (a b : RE) M0 I0 h1 h2 => aBK (X := X) (w0 := w0) (M0 := M0) (I0 := I0) (a := a) (b := b) (k := k) (m := 15) (by omega) h1 h2
 have hA := fun (a b : RE) M0 I0 h1 h2 => uV (X := X) (w0 := w0) (M0 := M0) (I0 := I0) (a := a) (b := b) (k := k + 15) (m := k + 15) (by omega) h1 h2
 have hA2 := fun (a b : RE) M0 I0 h1 h2 => uV (X := X) (w0 := w0) (M0 := M0) (I0 := I0) (a := a) (b := b) (k := k + 15 + (k + 15) + 1) (m := k) (by omega) h1 h2
 refine bX (φ := isL r k) hr (bX (φ := aX (some ⟨b3, 0, none⟩) (kI s)) hp.cons (bX (φ := aX r.p (recs eR r.es)) (Hv.lsl (k := k) aB) ?_))
 refine bI Tryz.func190 rfl Tryz.ntmps190 rfl ?_
 refine aH ?_
 refine aI ?_
 (refine aC rfl rfl ?_; intro b4; refine ⟨okF, ?_⟩)
 repeat (refine aJ ?_)
 (repeat refine aH ?_); refine bB (M0) (aX r.p (recs eR r.es) :: aX (some ⟨b3, 0, none⟩) (kI s) :: isL r k :: I0) [0, 1, 2, 3, 4, 5, 8, 9, 10, 11, 12, 13, 17, 18, 19, 6, 7, 14, 15, 16, 20, 21] [6, 6, 5, 6, 6, 5, 6, 6, 5, 6, 6, 5, 6, 6, 5, 0, 0, 0, 0, 0, 0, 0] aG aF mixed (by kernel_rfl) ?_
 repeat (refine aJ ?_)
 (refine aA rfl (hWx _ _) rfl rfl ?_; rintro _ _ _ ⟨rfl, ex, rfl, hex, rfl⟩; refine ⟨okF, ?_⟩)
 (refine aA rfl (hM (gt r.es 0) ex _ _ (Hv.lel (r := r) (k := k) aB ⟨by omega, by omega⟩) (Hv.mem aB)) rfl rfl ?_; rintro _ _ _ ⟨rfl, f0, rfl, hf0, rfl⟩; refine ⟨okF, ?_⟩)
 (refine aA rfl (hWy _ _) rfl rfl ?_; rintro _ _ _ ⟨rfl, ey, rfl, hey, rfl⟩; refine ⟨okF, ?_⟩)
 (refine aA rfl (hM (gt r.es 1) ey _ _ (Hv.lel (r := r) (k := k) aB ⟨by omega, by omega⟩) (Hv.mem aB)) rfl rfl ?_; rintro _ _ _ ⟨rfl, f1, rfl, hf1, rfl⟩; refine ⟨okF, ?_⟩)
 (refine aA rfl (hA f0 f1 _ _ (Hv.mem aB) (Hv.mem aB)) rfl rfl ?_; rintro _ _ _ ⟨rfl, f2, rfl, hf2, rfl⟩; refine ⟨okF, ?_⟩)
 (refine aA rfl (hA2 f2 (gt r.es 2) _ _ (Hv.mem aB) (Hv.lel (r := r) (k := k) aB ⟨by omega, by omega⟩)) rfl rfl ?_; rintro _ _ _ ⟨rfl, f3, rfl, hf3, rfl⟩; refine ⟨okF, ?_⟩)
 repeat (refine aJ ?_)
 have e9 : k + 15 + (k + 15) + 1 + k + 1 = 3 * k + 32 := by omega
 rw [e9]
 refine bC (cs := eR f3) (.inl rfl) rfl rfl aB rfl M0 (jA f3 (3 * k + 32) :: I0) aG aF ⟨rfl, f3, rfl, by rw [hf3, hf2, hf1, hf0, hex, hey, q0, q1, q2], rfl⟩
def MisP (m : Mt) (s : Q4) (k : Nat) (M0 : List Ent) (I0 : List bA) (v : Value) (M : List Ent) (I : List bA) : Prop :=
 M0 = M ∧ if oN m 2 s = 0 then I0 = I ∧ v = .tuple #[zR, .bool false] else ∃ e : RE, v = .tuple #[rv e, .bool true] ∧ e.q = tF m s ∧ I = jA e (kM k) :: I0
theorem aFE {m : MX} {i : Nat} (hi : i < m.rows.length) (j : Nat) : at2 m.q i j = (gt m.rows (i : Int)).q.getD j 0 := by
 rw [gtQ hi]; simp [at2, rowAt, MX.q, List.getD, hi]
theorem aOT {m : MX} {s : Q4} {k : Nat} (hk : k ≤ 3000000000) (dm : m.dim 3 3) (hn : s.near) (hm : pM m k ∈ I0) :
  CD Tryz.prog 110 [mv m, vQ4 s] X w0 M0 I0 (MisP m.q s k M0 I0) := by
 obtain ⟨n1, n2, n3, n4⟩ := hn
 have hR := dm.1
 have hrow : ∀ i : Nat, i < 3 → (gt m.rows (i : Int)).es.length = 3 := fun i hi => dm.2 _ (jO (by omega))
 have hrq : ∀ i : Nat, i < 3 → (gt m.rows (i : Int)).q.getD 0 0 * (s.x : Rat) + (gt m.rows (i : Int)).q.getD 1 0 * (s.y : Rat) + (gt m.rows (i : Int)).q.getD 2 0 = oN m.q i s := fun i hi => by
  unfold oN; rw [aFE (by omega), aFE (by omega), aFE (by omega)]
 have hAt := fun (i : Nat) (b3 : Nat) (hi : i < 3) M0 I0 h1 h2 => aLP (X := X) (w0 := w0) (M0 := M0) (I0 := I0) (r := gt m.rows (i : Int)) (s := s) (b3 := b3) (k := k) (by omega) (hrow i hi) ⟨n1, n2, n3, n4⟩ h1 h2
 have hWu := fun M0 I0 => qL (X := X) (w0 := w0) (M0 := M0) (I0 := I0) (x := s.u) (by omega) (k := 15) (by rw [e15]; omega)
 have hWv := fun M0 I0 => qL (X := X) (w0 := w0) (M0 := M0) (I0 := I0) (x := s.v) (by omega) (k := 15) (by rw [e15]; omega)
 have hO := fun (a b : RE) (h0 : b.q ≠ 0) M0 I0 h1 h2 => aKY (X := X) (w0 := w0) (M0 := M0) (I0 := I0) (a := a) (b := b) (k := 3 * k + 32) (m := 3 * k + 32) (by omega) h0 h1 h2
 have hS := fun (a b : RE) M0 I0 h1 h2 => aHC (X := X) (w0 := w0) (M0 := M0) (I0 := I0) (a := a) (b := b) (k := 3 * k + 32 + (3 * k + 32)) (m := 15) (by omega) h1 h2
 have hM := fun (a : RE) M0 I0 h1 => aBK (X := X) (w0 := w0) (M0 := M0) (I0 := I0) (a := a) (b := a) (k := 3 * k + 32 + (3 * k + 32) + 15 + 1) (m := 3 * k + 32 + (3 * k + 32) + 15 + 1) (by omega) h1 h1
 obtain ⟨K, hK⟩ : ∃ K, 3 * k + 32 + (3 * k + 32) + 15 + 1 = K := ⟨_, rfl⟩
 rw [hK] at hM
 have hA := fun (a b : RE) M0 I0 h1 h2 => uV (X := X) (w0 := w0) (M0 := M0) (I0 := I0) (a := a) (b := b) (k := K + K) (m := K + K) (by omega) h1 h2
 refine bX (φ := pM m k) (Hv.mem hm) (bX (φ := aX m.p (recs eL m.rows)) (Hv.xsl (k := k) aB) ?_)
 refine bI Tryz.func110 rfl Tryz.ntmps110 rfl ?_
 refine aH ?_
 refine aI ?_
 (refine aK rfl rfl rfl ?_; intro b3; refine ⟨okF, ?_⟩)
 refine aO .here ?_
 (refine aC rfl rfl ?_; intro b4; refine ⟨okF, ?_⟩)
 repeat (refine aJ ?_)
 (refine jP rfl rfl (hAt 2 b3 (by omega) _ _ (Hv.xrow (m := m) (k := k) aB ⟨by omega, by omega⟩) (Hv.mem aB)) rfl rfl rfl ?_; rintro _ _ _ ⟨rfl, c, rfl, hc, rfl⟩; refine ⟨okF, ?_⟩)
 rw [hrq 2 (by omega)] at hc
 repeat (refine aJ ?_)
 (refine aC rfl rfl ?_; intro b7; refine ⟨okF, ?_⟩)
 repeat (refine aJ ?_)
 (refine aA rfl (aLY (e := c) (k := 3 * k + 32) (by omega) (Hv.mem aB)) rfl rfl ?_; rintro _ _ _ ⟨rfl, rfl, rfl⟩; refine ⟨okF, ?_⟩)
 by_cases h0 : oN m.q 2 s = 0
 ·have hs0 : c.q.num.sign = 0 := sgnQ.2 (by rw [hc]; exact h0)
  rw [hs0]
  repeat (refine aJ ?_)
  (refine aD rfl (fun _ => aZ (pvs := ([]).zipIdx.map (fun p => (p.2, p.1))) (cells := zRg) rfl rfl) rfl rfl ?_)
  repeat (refine aJ ?_)
  refine jZ (M' := .blk b4 zRg 77 :: M0) (I' := I0) aG aF ?_
  refine dP (rs := [.cell 4 77, .tmp 5]) (vs := [zR, .bool false]) (.inl rfl) rfl (.cellN (cs := zRg) inferInstance rfl aB rfl (.tmp rfl .nil)) rfl M0 I0 aG aF ⟨rfl, by rw [if_pos h0]; exact ⟨rfl, rfl⟩⟩
 ·have hs0 : ¬ c.q.num.sign = 0 := fun e => h0 (by rw [← hc]; exact sgnQ.1 e)
  have hc0 : c.q ≠ 0 := by rw [hc]; exact h0
  repeat (refine aJ ?_)
  refine nC (fun G M I => ∃ (b8 : Nat) (ex : RE), ex.q = aLO m.q s ∧ G = [(0, mv m), (3, .pointer (some ⟨b3, 0, none⟩)), (4, .pointer (some ⟨b4, 0, none⟩)), (6, .func (.func 190) #[] #[.pointer (some ⟨b3, 0, none⟩)]), (7, .pointer (some ⟨b7, 0, none⟩)), (8, .pointer (some ⟨b8, 0, none⟩))] ∧ M = .blk b8 (eR ex) 77 :: .blk b7 (eR c) 77 :: .blk b4 zRg 77 :: M0 ∧ I = jA ex K :: jA c (3 * k + 32) :: aX (some ⟨b3, 0, none⟩) (kI s) :: aX m.p (recs eL m.rows) :: pM m k :: I0) ?_ ?_
  ·((repeat refine aH ?_); refine qX (.blk b7 (eR c) 77 :: M0) (jA c (3 * k + 32) :: aX (some ⟨b3, 0, none⟩) (kI s) :: aX m.p (recs eL m.rows) :: pM m k :: I0) mixed ?_)
   refine eU (fuel := 6) (listed' := #[true, true, true, true, false, true, false, true, true, true, false, false, false, false]) [0, 1, 2, 3, 5, 7, 8, 9] [4, 5, 5, 4, 4, 5, 5, 4] aG aF (by kernel_rfl) (by kernel_rfl) rfl rfl ?_
   repeat (refine aJ ?_)
   refine aM (fuel := 5) (i := 4) (j := 12) (by kernel_rfl) ?_ ?_
   ·(refine jP rfl rfl (hAt 0 b3 (by omega) _ _ (Hv.xrow (m := m) (k := k) aB ⟨by omega, by omega⟩) (Hv.mem aB)) rfl rfl rfl ?_; rintro _ _ _ ⟨rfl, g0, rfl, hg0, rfl⟩; refine ⟨okF, ?_⟩)
    refine aL ?_
    repeat (refine aJ ?_)
    refine aM (fuel := 4) (i := 6) (j := 12) (by kernel_rfl) ?_ ?_
    ·(refine aA rfl (hO g0 c hc0 _ _ (Hv.mem aB) (Hv.mem aB)) rfl rfl ?_; rintro _ _ _ ⟨rfl, g1, rfl, hg1, rfl⟩; refine ⟨okF, ?_⟩)
     refine aL ?_
     repeat (refine aJ ?_)
     refine aM (fuel := 3) (i := 10) (j := 12) (by kernel_rfl) ?_ ?_
     ·(refine aA rfl (hWu _ _) rfl rfl ?_; rintro _ _ _ ⟨rfl, gu, rfl, hgu, rfl⟩; refine ⟨okF, ?_⟩)
      refine aL ?_
      repeat (refine aJ ?_)
      refine aM (fuel := 2) (i := 11) (j := 12) (by kernel_rfl) ?_ ?_
      ·(refine aA rfl (hS g1 gu _ _ (Hv.mem aB) (Hv.mem aB)) rfl rfl ?_; rintro _ _ _ ⟨rfl, g2, rfl, hg2, rfl⟩; refine ⟨okF, ?_⟩)
       refine aL ?_
       refine aR [12, 13] [0, 0] aG aF (by kernel_rfl) (by kernel_rfl) rfl rfl ?_
       repeat (refine aJ ?_)
       (refine aC rfl rfl ?_; intro b8; refine ⟨okF, ?_⟩)
       repeat (refine aJ ?_)
       (rw [hK]; refine bN _ _ _ aS aG aF ⟨b8, g2, by rw [hg2, hg1, hg0, hgu, hrq 0 (by omega), hc]; rfl, rfl, rfl, rfl⟩)
      ·(refine aC rfl rfl ?_; intro b8; refine ⟨okF, ?_⟩)
       refine aL ?_
       refine aR [11, 13] [0, 0] aG aF (by kernel_rfl) (by kernel_rfl) rfl rfl ?_
       repeat (refine aJ ?_)
       (refine aA rfl (hS g1 gu _ _ (Hv.mem aB) (Hv.mem aB)) rfl rfl ?_; rintro _ _ _ ⟨rfl, g2, rfl, hg2, rfl⟩; refine ⟨okF, ?_⟩)
       repeat (refine aJ ?_)
       (rw [hK]; refine bN _ _ _ aS aG aF ⟨b8, g2, by rw [hg2, hg1, hg0, hgu, hrq 0 (by omega), hc]; rfl, rfl, rfl, rfl⟩)
     ·(refine aC rfl rfl ?_; intro b8; refine ⟨okF, ?_⟩)
      refine aL ?_
      refine aR [10, 11, 13] [0, 0, 0] aG aF (by kernel_rfl) (by kernel_rfl) rfl rfl ?_
      repeat (refine aJ ?_)
      (refine aA rfl (hWu _ _) rfl rfl ?_; rintro _ _ _ ⟨rfl, gu, rfl, hgu, rfl⟩; refine ⟨okF, ?_⟩)
      repeat (refine aJ ?_)
      (refine aA rfl (hS g1 gu _ _ (Hv.mem aB) (Hv.mem aB)) rfl rfl ?_; rintro _ _ _ ⟨rfl, g2, rfl, hg2, rfl⟩; refine ⟨okF, ?_⟩)
      repeat (refine aJ ?_)
      (rw [hK]; refine bN _ _ _ aS aG aF ⟨b8, g2, by rw [hg2, hg1, hg0, hgu, hrq 0 (by omega), hc]; rfl, rfl, rfl, rfl⟩)
    ·(refine aC rfl rfl ?_; intro b8; refine ⟨okF, ?_⟩)
     refine aL ?_
     refine aR [6, 10, 11, 13] [0, 0, 0, 0] aG aF (by kernel_rfl) (by kernel_rfl) rfl rfl ?_
     repeat (refine aJ ?_)
     (refine aA rfl (hO g0 c hc0 _ _ (Hv.mem aB) (Hv.mem aB)) rfl rfl ?_; rintro _ _ _ ⟨rfl, g1, rfl, hg1, rfl⟩; refine ⟨okF, ?_⟩)
     repeat (refine aJ ?_)
     (refine aA rfl (hWu _ _) rfl rfl ?_; rintro _ _ _ ⟨rfl, gu, rfl, hgu, rfl⟩; refine ⟨okF, ?_⟩)
     repeat (refine aJ ?_)
     (refine aA rfl (hS g1 gu _ _ (Hv.mem aB) (Hv.mem aB)) rfl rfl ?_; rintro _ _ _ ⟨rfl, g2, rfl, hg2, rfl⟩; refine ⟨okF, ?_⟩)
     repeat (refine aJ ?_)
     (rw [hK]; refine bN _ _ _ aS aG aF ⟨b8, g2, by rw [hg2, hg1, hg0, hgu, hrq 0 (by omega), hc]; rfl, rfl, rfl, rfl⟩)
   ·(refine aC rfl rfl ?_; intro b8; refine ⟨okF, ?_⟩)
    refine aL ?_
    refine aR [4, 6, 10, 11, 13] [0, 0, 0, 0, 0] aG aF (by kernel_rfl) (by kernel_rfl) rfl rfl ?_
    repeat (refine aJ ?_)
    (refine jP rfl rfl (hAt 0 b3 (by omega) _ _ (Hv.xrow (m := m) (k := k) aB ⟨by omega, by omega⟩) (Hv.mem aB)) rfl rfl rfl ?_; rintro _ _ _ ⟨rfl, g0, rfl, hg0, rfl⟩; refine ⟨okF, ?_⟩)
    repeat (refine aJ ?_)
    (refine aA rfl (hO g0 c hc0 _ _ (Hv.mem aB) (Hv.mem aB)) rfl rfl ?_; rintro _ _ _ ⟨rfl, g1, rfl, hg1, rfl⟩; refine ⟨okF, ?_⟩)
    repeat (refine aJ ?_)
    (refine aA rfl (hWu _ _) rfl rfl ?_; rintro _ _ _ ⟨rfl, gu, rfl, hgu, rfl⟩; refine ⟨okF, ?_⟩)
    repeat (refine aJ ?_)
    (refine aA rfl (hS g1 gu _ _ (Hv.mem aB) (Hv.mem aB)) rfl rfl ?_; rintro _ _ _ ⟨rfl, g2, rfl, hg2, rfl⟩; refine ⟨okF, ?_⟩)
    repeat (refine aJ ?_)
    (rw [hK]; refine bN _ _ _ aS aG aF ⟨b8, g2, by rw [hg2, hg1, hg0, hgu, hrq 0 (by omega), hc]; rfl, rfl, rfl, rfl⟩)
  ·rintro G M I ⟨b8, ex, hex, rfl, rfl, rfl⟩
   refine aH ?_
   refine nC (fun G M I => ∃ (b9 : Nat) (ey : RE), ey.q = aLD m.q s ∧ G = [(4, .pointer (some ⟨b4, 0, none⟩)), (8, .pointer (some ⟨b8, 0, none⟩)), (9, .pointer (some ⟨b9, 0, none⟩))] ∧ M = .blk b9 (eR ey) 77 :: .blk b8 (eR ex) 77 :: .blk b4 zRg 77 :: M0 ∧ I = jA ey K :: jA ex K :: I0) ?_ ?_
   ·((repeat refine aH ?_); refine qX (.blk b7 (eR c) 77 :: M0) (jA ex K :: jA c (3 * k + 32) :: aX (some ⟨b3, 0, none⟩) (kI s) :: aX m.p (recs eL m.rows) :: pM m k :: I0) mixed ?_)
    refine eU (fuel := 6) (listed' := #[true, true, true, true, false, true, false, true, true, true, false, false, false, false]) [0, 1, 2, 3, 5, 7, 8, 9] [4, 5, 5, 4, 4, 5, 5, 4] aG aF (by kernel_rfl) (by kernel_rfl) rfl rfl ?_
    repeat (refine aJ ?_)
    refine aM (fuel := 5) (i := 4) (j := 12) (by kernel_rfl) ?_ ?_
    ·(refine jP rfl rfl (hAt 1 b3 (by omega) _ _ (Hv.xrow (m := m) (k := k) aB ⟨by omega, by omega⟩) (Hv.mem aB)) rfl rfl rfl ?_; rintro _ _ _ ⟨rfl, g0, rfl, hg0, rfl⟩; refine ⟨okF, ?_⟩)
     refine aL ?_
     repeat (refine aJ ?_)
     refine aM (fuel := 4) (i := 6) (j := 12) (by kernel_rfl) ?_ ?_
     ·(refine aA rfl (hO g0 c hc0 _ _ (Hv.mem aB) (Hv.mem aB)) rfl rfl ?_; rintro _ _ _ ⟨rfl, g1, rfl, hg1, rfl⟩; refine ⟨okF, ?_⟩)
      refine aL ?_
      repeat (refine aJ ?_)
      refine aM (fuel := 3) (i := 10) (j := 12) (by kernel_rfl) ?_ ?_
      ·(refine aA rfl (hWv _ _) rfl rfl ?_; rintro _ _ _ ⟨rfl, gu, rfl, hgu, rfl⟩; refine ⟨okF, ?_⟩)
       refine aL ?_
       repeat (refine aJ ?_)
       refine aM (fuel := 2) (i := 11) (j := 12) (by kernel_rfl) ?_ ?_
       ·(refine aA rfl (hS g1 gu _ _ (Hv.mem aB) (Hv.mem aB)) rfl rfl ?_; rintro _ _ _ ⟨rfl, g2, rfl, hg2, rfl⟩; refine ⟨okF, ?_⟩)
        refine aL ?_
        refine aR [12, 13] [0, 0] aG aF (by kernel_rfl) (by kernel_rfl) rfl rfl ?_
        repeat (refine aJ ?_)
        (refine aC rfl rfl ?_; intro b9; refine ⟨okF, ?_⟩)
        repeat (refine aJ ?_)
        (rw [hK]; refine bN _ _ _ aS aG aF ⟨b9, g2, by rw [hg2, hg1, hg0, hgu, hrq 1 (by omega), hc]; rfl, rfl, rfl, rfl⟩)
       ·(refine aC rfl rfl ?_; intro b9; refine ⟨okF, ?_⟩)
        refine aL ?_
        refine aR [11, 13] [0, 0] aG aF (by kernel_rfl) (by kernel_rfl) rfl rfl ?_
        repeat (refine aJ ?_)
        (refine aA rfl (hS g1 gu _ _ (Hv.mem aB) (Hv.mem aB)) rfl rfl ?_; rintro _ _ _ ⟨rfl, g2, rfl, hg2, rfl⟩; refine ⟨okF, ?_⟩)
        repeat (refine aJ ?_)
        (rw [hK]; refine bN _ _ _ aS aG aF ⟨b9, g2, by rw [hg2, hg1, hg0, hgu, hrq 1 (by omega), hc]; rfl, rfl, rfl, rfl⟩)
      ·(refine aC rfl rfl ?_; intro b9; refine ⟨okF, ?_⟩)
       refine aL ?_
       refine aR [10, 11, 13] [0, 0, 0] aG aF (by kernel_rfl) (by kernel_rfl) rfl rfl ?_
       repeat (refine aJ ?_)
       (refine aA rfl (hWv _ _) rfl rfl ?_; rintro _ _ _ ⟨rfl, gu, rfl, hgu, rfl⟩; refine ⟨okF, ?_⟩)
       repeat (refine aJ ?_)
       (refine aA rfl (hS g1 gu _ _ (Hv.mem aB) (Hv.mem aB)) rfl rfl ?_; rintro _ _ _ ⟨rfl, g2, rfl, hg2, rfl⟩; refine ⟨okF, ?_⟩)
       repeat (refine aJ ?_)
       (rw [hK]; refine bN _ _ _ aS aG aF ⟨b9, g2, by rw [hg2, hg1, hg0, hgu, hrq 1 (by omega), hc]; rfl, rfl, rfl, rfl⟩)
     ·(refine aC rfl rfl ?_; intro b9; refine ⟨okF, ?_⟩)
      refine aL ?_
      refine aR [6, 10, 11, 13] [0, 0, 0, 0] aG aF (by kernel_rfl) (by kernel_rfl) rfl rfl ?_
      repeat (refine aJ ?_)
      (refine aA rfl (hO g0 c hc0 _ _ (Hv.mem aB) (Hv.mem aB)) rfl rfl ?_; rintro _ _ _ ⟨rfl, g1, rfl, hg1, rfl⟩; refine ⟨okF, ?_⟩)
      repeat (refine aJ ?_)
      (refine aA rfl (hWv _ _) rfl rfl ?_; rintro _ _ _ ⟨rfl, gu, rfl, hgu, rfl⟩; refine ⟨okF, ?_⟩)
      repeat (refine aJ ?_)
      (refine aA rfl (hS g1 gu _ _ (Hv.mem aB) (Hv.mem aB)) rfl rfl ?_; rintro _ _ _ ⟨rfl, g2, rfl, hg2, rfl⟩; refine ⟨okF, ?_⟩)
      repeat (refine aJ ?_)
      (rw [hK]; refine bN _ _ _ aS aG aF ⟨b9, g2, by rw [hg2, hg1, hg0, hgu, hrq 1 (by omega), hc]; rfl, rfl, rfl, rfl⟩)
    ·(refine aC rfl rfl ?_; intro b9; refine ⟨okF, ?_⟩)
     refine aL ?_
     refine aR [4, 6, 10, 11, 13] [0, 0, 0, 0, 0] aG aF (by kernel_rfl) (by kernel_rfl) rfl rfl ?_
     repeat (refine aJ ?_)
     (refine jP rfl rfl (hAt 1 b3 (by omega) _ _ (Hv.xrow (m := m) (k := k) aB ⟨by omega, by omega⟩) (Hv.mem aB)) rfl rfl rfl ?_; rintro _ _ _ ⟨rfl, g0, rfl, hg0, rfl⟩; refine ⟨okF, ?_⟩)
     repeat (refine aJ ?_)
     (refine aA rfl (hO g0 c hc0 _ _ (Hv.mem aB) (Hv.mem aB)) rfl rfl ?_; rintro _ _ _ ⟨rfl, g1, rfl, hg1, rfl⟩; refine ⟨okF, ?_⟩)
     repeat (refine aJ ?_)
     (refine aA rfl (hWv _ _) rfl rfl ?_; rintro _ _ _ ⟨rfl, gu, rfl, hgu, rfl⟩; refine ⟨okF, ?_⟩)
     repeat (refine aJ ?_)
     (refine aA rfl (hS g1 gu _ _ (Hv.mem aB) (Hv.mem aB)) rfl rfl ?_; rintro _ _ _ ⟨rfl, g2, rfl, hg2, rfl⟩; refine ⟨okF, ?_⟩)
     repeat (refine aJ ?_)
     (rw [hK]; refine bN _ _ _ aS aG aF ⟨b9, g2, by rw [hg2, hg1, hg0, hgu, hrq 1 (by omega), hc]; rfl, rfl, rfl, rfl⟩)
   ·rintro G M I ⟨b9, ey, hey, rfl, rfl, rfl⟩
    (repeat refine aH ?_); refine bB (.blk b9 (eR ey) 77 :: .blk b8 (eR ex) 77 :: M0) (jA ey K :: jA ex K :: I0) [0, 1, 3, 4, 2, 5, 6, 7, 8] [2, 2, 2, 2, 0, 0, 0, 0, 0] aG aF mixed (by kernel_rfl) ?_
    repeat (refine aJ ?_)
    (refine aA rfl (hM ex _ _ (Hv.mem aB)) rfl rfl ?_; rintro _ _ _ ⟨rfl, f0, rfl, hf0, rfl⟩; refine ⟨okF, ?_⟩)
    (refine aA rfl (hM ey _ _ (Hv.mem aB)) rfl rfl ?_; rintro _ _ _ ⟨rfl, f1, rfl, hf1, rfl⟩; refine ⟨okF, ?_⟩)
    (refine aA rfl (hA f0 f1 _ _ (Hv.mem aB) (Hv.mem aB)) rfl rfl ?_; rintro _ _ _ ⟨rfl, f2, rfl, hf2, rfl⟩; refine ⟨okF, ?_⟩)
    repeat (refine aJ ?_)
    have e9 : K + K + (K + K) + 1 = kM k := by show _ = 24 * k + 321; omega
    rw [e9]
    refine dP (rs := [.cell 4 77, .tmp 5]) (vs := [rv f2, .bool true]) (.inl rfl) rfl (.cellN (cs := eR f2) inferInstance rfl aB rfl (.tmp rfl .nil)) rfl M0 (jA f2 (kM k) :: I0) aG aF ⟨rfl, by rw [if_neg h0]; exact ⟨f2, rfl, by rw [hf2, hf1, hf0, hex, hey]; rfl, rfl⟩⟩
theorem aOD {m : MX} {q : Option Addr} {l : List Q4} {n c u : Nat} {tol : Int} (hk : u ≤ 3000000000) (dm : m.dim 3 3) (hl : l.length = n) (hn : n ≤ 64) (hs : ∀ s ∈ l, s.near) (ht : 0 ≤ tol ∧ tol ≤ 1073741824) (hm : pM m u ∈ I0) (hq : aX q (recs kI l) ∈ I0) :
  CD Tryz.prog 45 [mv m, .slice q n c, .int .i64 tol] X w0 M0 I0 (fun v M I => M0 = M ∧ ∃ (q' : Option Addr) (c' : Nat), v = .slice q' (gD m.q l tol).length c' ∧ I = aX q' (recs eZ (gD m.q l tol)) :: I0) := by
 have hWt := fun M0 I0 => qL (X := X) (w0 := w0) (M0 := M0) (I0 := I0) (x := tol) (by omega) (k := 30) (by have : 2 ^ 30 = 1073741824 := rfl; omega)
 refine bX (φ := pM m u) (Hv.mem hm) (bX (φ := aX q (recs kI l)) (Hv.mem (List.mem_cons_of_mem _ hq)) ?_)
 refine oU Tryz.func45 rfl Tryz.ntmps45 rfl ?_
 repeat (refine aJ ?_)
 refine vL 3 1 ?_
 refine bG [0, 2, 12, 13] rfl (fun k G M I => ∃ (i : Nat) (zs : List Int) (qe : Option Addr) (ce : Nat), i ≤ n ∧ k = n - i ∧ zs = yL m.q l tol i ∧ G = [(7, .slice qe zs.length ce), (14, .int .i64 i)] ∧ M = .row qe zs.length ce (recs eZ zs) 3 1 :: M0 ∧ I = aX q (recs kI l) :: pM m u :: I0) (n) _ _ _ aS aG aF (⟨0, [], none, 0, by omega, rfl, rfl, rfl, rfl, rfl⟩) ?_
 rintro kk G M I ⟨i, zs, qe, ce, hi, rfl, hzs, rfl, rfl, rfl⟩
 have hzl : zs.length ≤ i := by rw [hzs]; exact qN
 by_cases hin : i < n
 ·have hmem := jO (ms := l) (i := (i : Int)) (by omega)
  obtain ⟨s, hss⟩ : ∃ s, gt l (i : Int) = s := ⟨_, rfl⟩
  rw [hss] at hmem
  have hMs := fun M0 I0 h => aOT (X := X) (w0 := w0) (M0 := M0) (I0 := I0) (m := m) (s := s) (k := u) hk dm (hs s hmem) h
  unfold MisP at hMs
  have hst : yL m.q l tol (i + 1) = if okQ m.q tol s then zs ++ [(i : Int)] else zs := by show (if okQ m.q tol (gt l (i : Int)) then _ else _) = _; rw [hss, hzs]
  repeat (refine aJ ?_)
  rw [hss]
  (refine aC rfl rfl ?_; intro b9; refine ⟨okF, ?_⟩)
  repeat (refine aJ ?_)
  by_cases h0 : oN m.q 2 s = 0
  ·simp only [if_pos h0] at hMs
   rw [if_neg (show ¬ okQ m.q tol s from fun h => h.1 h0)] at hst
   (refine aA rfl (hMs _ _ aB) rfl rfl ?_; rintro _ _ _ ⟨rfl, rfl, rfl⟩; refine ⟨okF, ?_⟩)
   repeat (refine aJ ?_)
   (refine aC rfl rfl ?_; intro b10; refine ⟨okF, ?_⟩)
   repeat (refine aJ ?_)
   (repeat refine aH ?_); refine gZ [0, 1, 2, 3, 4, 5, 6, 7] [2, 0, 1, 1, 0, 0, 0, 0] mixed (by kernel_rfl) ?_
   repeat (refine aJ ?_)
   refine aQ (n - (i + 1)) _ _ _ (by first | omega | (simp only [List.length_append, List.length_cons, List.length_nil]; omega)) aS aG aF (⟨i + 1, zs, qe, ce, by omega, rfl, hst.symm, rfl, rfl, rfl⟩)
  ·simp only [if_neg h0] at hMs
   (refine aA rfl (hMs _ _ aB) rfl rfl ?_; rintro _ _ _ ⟨rfl, e, rfl, he, rfl⟩; refine ⟨okF, ?_⟩)
   repeat (refine aJ ?_)
   (refine aC rfl rfl ?_; intro b10; refine ⟨okF, ?_⟩)
   repeat (refine aJ ?_)
   refine yV (M' := .blk b10 (eR e) 77 :: .row qe zs.length ce (recs eZ zs) 3 1 :: M0) (I' := jA e (kM u) :: aX q (recs kI l) :: pM m u :: I0) aG aF ?_
   (repeat refine aH ?_); refine bB (.blk b10 (eR e) 77 :: M0) (jA e (kM u) :: I0) [0, 1, 2, 3, 4, 5, 6, 7] [2, 0, 1, 1, 0, 0, 0, 0] aG aF mixed (by kernel_rfl) ?_
   repeat (refine aJ ?_)
   (refine aA rfl (hWt _ _) rfl rfl ?_; rintro _ _ _ ⟨rfl, et, rfl, het, rfl⟩; refine ⟨okF, ?_⟩)
   (refine aA rfl (aDE (a := e) (b := et) (k := kM u) (m := 30) (by show 24 * u + 321 + 30 ≤ _; omega) (Hv.mem aB) (Hv.mem aB)) rfl rfl ?_; rintro _ _ _ ⟨rfl, rfl, rfl⟩; refine ⟨okF, ?_⟩)
   have hcp : zQ e.q et.q ≤ 0 ↔ tF m.q s ≤ (tol : Rat) := by rw [aHR, he, het]
   by_cases h1 : tF m.q s ≤ (tol : Rat)
   ·rw [if_pos (show okQ m.q tol s from ⟨h0, h1⟩)] at hst
    have h2 := hcp.2 h1
    repeat (refine aJ ?_)
    (refine dM (cs := recs eZ [(i : Int)]) ([.int .i64 (i : Int)]) rfl rfl (by intro v hv; repeat (first | exact absurd hv (List.not_mem_nil) | (rcases List.mem_cons.1 hv with rfl | hv; · rfl))) (by omega) rfl rfl rfl ?_; intro b; refine ⟨okF, ?_⟩)
    (refine iK (ys := [(i : Int)]) 2 rfl rfl rfl ?_ (by decide) rfl (by omega) (by omega) rfl rfl ?_; (· first | exact Src.blk aB | exact Src.row aB | exact Src.imm aB (by first | assumption | exact .inl (Ok.mk _ _))); intro q2 c3; refine ⟨okF, ?_⟩)
    repeat (refine aJ ?_)
    refine aQ (n - (i + 1)) _ _ _ (by first | omega | (simp only [List.length_append, List.length_cons, List.length_nil]; omega)) aS aG aF (⟨i + 1, zs ++ [(i : Int)], q2, c3, by omega, rfl, hst.symm, rfl, rfl, rfl⟩)
   ·rw [if_neg (show ¬ okQ m.q tol s from fun h => h1 h.2)] at hst
    have h2 : ¬ zQ e.q et.q ≤ 0 := fun h => h1 (hcp.1 h)
    repeat (refine aJ ?_)
    refine aQ (n - (i + 1)) _ _ _ (by first | omega | (simp only [List.length_append, List.length_cons, List.length_nil]; omega)) aS aG aF (⟨i + 1, zs, qe, ce, by omega, rfl, hst.symm, rfl, rfl, rfl⟩)
 ·obtain rfl : i = n := by omega
  have hz : zs = gD m.q l tol := by rw [hzs]; unfold gD; rw [hl]
  subst hz
  repeat (refine aJ ?_)
  refine uJ .here ?_
  refine aN (by first | exact .inl rfl | exact .inr rfl) rfl rfl _ _ aG aF (⟨rfl, qe, ce, rfl, rfl⟩)
end
end Go.Proofs.YtmmmfphealhapaaGreat
namespace Go.Proofs.YtmmmfphealhapaaGreat
open Go Go.Fx
structure BF where
 kd : Int
 ps : Option Addr
 cs : Nat
 smp : List Int
 pi : Option Addr
 ci : Nat
 inl : List Int
 m : MX
abbrev zF (f : BF) : List Value := [.int .i64 f.kd, .slice f.ps f.smp.length f.cs, .slice f.pi f.inl.length f.ci, .slice f.m.p f.m.rows.length f.m.c]
abbrev enB (b : Nat) (f : BF) : Ent := .blk b (zF f) 36
abbrev zBF : BF := ⟨0, none, 0, [], none, 0, [], ⟨none, 0, []⟩⟩
abbrev zF4 : List Value := [.int .i64 0, .slice none 0 0, .slice none 0 0, .slice none 0 0]
structure IsBF (f : BF) (X : List Nat) (w : World) : Prop where
 s : SlI f.ps (recs eZ f.smp) X w
 i : SlI f.pi (recs eZ f.inl) X w
 m : IsX f.m kX X w
instance (f : BF) : Fx.Good (IsBF f) := ⟨fun X Y w w' h he hY => ⟨Fx.Good.go (φ := SlI _ _) X Y w w' h.s he hY, Fx.Good.go (φ := SlI _ _) X Y w w' h.i he hY, Fx.Good.go (φ := IsX _ _) X Y w w' h.m he hY⟩⟩
theorem Hv.mkBF {I : List bA} {f : BF} (h1 : aX f.ps (recs eZ f.smp) ∈ I) (h2 : aX f.pi (recs eZ f.inl) ∈ I) (h3 : pM f.m kX ∈ I) : Hv I (IsBF f) := ⟨fun X w hw => ⟨hw _ h1, hw _ h2, hw _ h3⟩⟩
theorem Hv.bfS {I : List bA} {f : BF} (h : IsBF f ∈ I) : Hv I (aX f.ps (recs eZ f.smp)) := ⟨fun X w hw => (hw _ h : IsBF f X w).s⟩
theorem Hv.bfI {I : List bA} {f : BF} (h : IsBF f ∈ I) : Hv I (aX f.pi (recs eZ f.inl)) := ⟨fun X w hw => (hw _ h : IsBF f X w).i⟩
theorem Hv.bfM {I : List bA} {f : BF} (h : IsBF f ∈ I) : Hv I (pM f.m kX) := ⟨fun X w hw => (hw _ h : IsBF f X w).m⟩
theorem Hv.zBF {I : List bA} : Hv I (IsBF zBF) := ⟨fun X w _ => ⟨⟨fun j v hj => by simp [Go.Proofs.YtmmmfphealhapaaGreat.zBF, recs] at hj⟩, ⟨fun j v hj => by simp [Go.Proofs.YtmmmfphealhapaaGreat.zBF, recs] at hj⟩, ⟨fun j v hj => by simp [Go.Proofs.YtmmmfphealhapaaGreat.zBF, recs] at hj, fun r hr => by simp [Go.Proofs.YtmmmfphealhapaaGreat.zBF] at hr, ⟨Nat.le_refl _, .inr ⟨rfl, rfl⟩⟩⟩⟩⟩
def BR (mdl : List Int → Option Mt) (inl : Mt → List Int) (kd : Int) (vis : List (List Int)) (f : BF) : Prop :=
 match kL mdl inl vis with
 | none => f = zBF
 | some g => f.kd = kd ∧ f.smp = g.1 ∧ f.inl = g.2.1 ∧ f.m.q = g.2.2 ∧ f.m.dim 3 3 ∧ f.m.p ≠ none
theorem Mem.xptr {X : List Nat} {w0 w : World} {M : List Ent} {I : List bA} {m : MX} {k : Nat} (hm : pM m k ∈ I) (h0 : m.rows.length ≠ 0) (h : Mem X w0 M I w) : m.p ≠ none := fun e => by
 have hx : IsX m k (muts M) w := (h.imm _ hm).2
 rcases hx.cap.2 with h1 | h1
 ·obtain ⟨b, o, e2⟩ := h1.cases; rw [e] at e2; cases e2
 ·exact h0 h1.1
def bestC (x : Int) (l : List Q4) (tol : Int) : Int := if tX x l = 0 then (if tolP tol then 0 else 2) else tX x l
section
variable {X : List Nat} {w0 : World} {M0 M1 M2 : List Ent} {I0 : List bA}
theorem yZ {q : Option Addr} {a : List Int} {c n : Nat} (hl : a.length = n) (hn : 1 ≤ n ∧ n ≤ 100) :
  CD Tryz.prog 46 [.slice q n c] X w0 (.row q n c (recs eZ a) 3 1 :: M1) I0 (fun v M I => I0 = I ∧ ∃ (q' : Option Addr) (c' : Nat), v = .slice q' n c' ∧ M = .row q' n c' (recs eZ a) 3 1 :: .row q n c (recs eZ a) 3 1 :: M1) := by
 subst hl
 refine bV Tryz.func46 rfl Tryz.ntmps46 rfl ?_
 repeat (refine aJ ?_)
 refine lU (φ := ∃ b, q = some ⟨b, 0, none⟩ ∧ a.length ≤ c) (fun w hw => Mem.rowA hw (List.Mem.head _) (by omega)) (fun hb => ?_)
 obtain ⟨b, rfl, hc3⟩ := hb
 refine aD rfl (fun _ => iV rfl) rfl rfl ?_
 repeat (refine aJ ?_)
 (refine dM (cs := recs eZ []) ([]) rfl rfl (by intro v hv; repeat (first | exact absurd hv (List.not_mem_nil) | (rcases List.mem_cons.1 hv with rfl | hv; · rfl))) (by omega) rfl rfl rfl ?_; intro b1; refine ⟨okF, ?_⟩)
 repeat (refine aJ ?_)
 refine qC (mm := 0) 1 lN rfl (by omega) ?_
 refine iK (xs := []) (ys := a) 0 rfl rfl rfl (Src.row aB) (by decide) rfl (by simp; omega) (by simp; omega) rfl rfl ?_
 intro a2 c2
 refine ⟨okF, ?_⟩
 repeat (refine aJ ?_)
 refine aN (by first | exact .inl rfl | exact .inr rfl) rfl rfl _ _ aG aF (⟨rfl, a2, c2, by simp, by simp⟩)
theorem yY {kd tol : Int} {b3 b4 b5 bb n c size : Nat} {q : Option Addr} {l : List Q4} {mdl : List Int → Option Mt} (hl : l.length = n) (hn : n ≤ 64) (hsz : 1 ≤ size ∧ size ≤ 8) (hs : ∀ s ∈ l, s.near) (ht : 0 ≤ tol ∧ tol ≤ 1073741824)
  (f3 : aX (some ⟨b3, 0, none⟩) [.int .i64 kd] ∈ I0) (f4 : aX (some ⟨b4, 0, none⟩) [.slice q n c] ∈ I0) (f5 : aX (some ⟨b5, 0, none⟩) [.int .i64 tol] ∈ I0) (hq : aX q (recs kI l) ∈ I0)
  {vis : List (List Int)} {f : BF} {smp : List Int} {qs : Option Addr} {cs : Nat}
  (hM : ∀ M0 I0, aX q (recs kI l) ∈ I0 → CD Tryz.prog 44 [.int .i64 kd, .slice q n c, .slice qs size cs] X w0 (.row qs size cs (recs eZ smp) 3 1 :: M0) I0 (FitR (mdl smp) kX (.row qs size cs (recs eZ smp) 3 1 :: M0) I0))
  (hR : BR mdl (fun A => gD A l tol) kd vis f) (hsm : SmpP n size 0 smp) :
  CD Tryz.prog 43 [.slice qs size cs, .pointer (some ⟨b3, 0, none⟩), .pointer (some ⟨b4, 0, none⟩), .pointer (some ⟨b5, 0, none⟩), .pointer (some ⟨bb, 0, none⟩)] X w0 (.row qs size cs (recs eZ smp) 3 1 :: enB bb f :: M2) (IsBF f :: I0)
   (fun _ M I => ∃ f', BR mdl (fun A => gD A l tol) kd (vis ++ [smp]) f' ∧ M = .row qs size cs (recs eZ smp) 3 1 :: enB bb f' :: M2 ∧ I = IsBF f' :: I0) := by
 have hsl : smp.length = size := hsm.len
 subst hsl
 refine aOH Tryz.func43 rfl Tryz.ntmps43 rfl ?_
 repeat (refine aJ ?_)
 cases hm : mdl smp with
 | none =>
  rw [hm] at hM
  have hR2 : BR mdl (fun A => gD A l tol) kd (vis ++ [smp]) f := by
   unfold BR at hR ⊢
   rw [uO]
   unfold uQ
   rw [hm]
   exact hR
  (refine aA rfl (hM _ _ aB) rfl rfl ?_; rintro _ _ _ ⟨rfl, rfl, u, rfl⟩; refine ⟨okF, ?_⟩)
  repeat (refine aJ ?_)
  refine qZ (by first | exact .inl rfl | exact .inr rfl) rfl _ _ aG aF (⟨f, hR2, rfl, rfl⟩)
 | some A =>
  rw [hm] at hM
  (refine aA rfl (hM _ _ aB) rfl rfl ?_; rintro _ _ _ ⟨rfl, m, rfl, hmq, hmd, rfl⟩; refine ⟨okF, ?_⟩)
  have hI := fun M0 I0 h1 h2 => aOD (X := X) (w0 := w0) (M0 := M0) (I0 := I0) (m := m) (q := q) (l := l) (n := n) (c := c) (u := kX) (tol := tol) (by decide) hmd hl hn hs ht h1 h2
  rw [hmq] at hI
  obtain ⟨zs, hzs⟩ : ∃ zs, gD A l tol = zs := ⟨_, rfl⟩
  rw [hzs] at hI
  have hzl : zs.length ≤ 64 := by rw [← hzs]; unfold gD; exact Nat.le_trans qN (by omega)
  have hfl : f.inl.length ≤ 64 := by
   unfold BR at hR
   split at hR
   ·rw [hR]; exact Nat.zero_le _
   ·rename_i g hg
    rw [hR.2.2.1, (aAK hg).2.2]
    unfold gD
    exact Nat.le_trans qN (by omega)
  refine lU (φ := m.p ≠ none) (fun w hw => Mem.xptr (k := kX) (List.Mem.head _) (by rw [hmd.1]; decide) hw) (fun hmp => ?_)
  repeat (refine aJ ?_)
  (refine aA rfl (hI _ _ aB aB) rfl rfl ?_; rintro _ _ _ ⟨rfl, qi, ci, rfl, rfl⟩; refine ⟨okF, ?_⟩)
  by_cases hbet : f.inl.length < zs.length ∨ kL mdl (fun A => gD A l tol) vis = none
  ·have hnew : ∀ (q' : Option Addr) (c' : Nat), BR mdl (fun A => gD A l tol) kd (vis ++ [smp]) ⟨kd, q', c', smp, qi, ci, zs, m⟩ := by
    intro q' c'
    have e : uQ mdl (fun A => gD A l tol) (kL mdl (fun A => gD A l tol) vis) smp = some (smp, gD A l tol, A) := by
     unfold uQ
     rw [hm]
     cases hb : kL mdl (fun A => gD A l tol) vis with
     | none => rfl
     | some g =>
      have h1 := hbet.resolve_right (by rw [hb]; simp)
      unfold BR at hR
      rw [hb] at hR
      have h2 : g.2.1.length < (gD A l tol).length := by rw [hzs, ← hR.2.2.1]; exact h1
      show (if g.2.1.length < (gD A l tol).length then some (smp, gD A l tol, A) else some g) = _
      rw [if_pos h2]
    unfold BR
    rw [uO, e]
    exact ⟨rfl, rfl, hzs.symm, hmq, hmd, hmp⟩
   have hnil : ¬ f.inl.length < zs.length → f.m.p = none := fun h => by
    have h1 := hbet.resolve_left h
    unfold BR at hR
    rw [h1] at hR
    rw [hR]
   by_cases hgt : f.inl.length < zs.length
   ·repeat (refine aJ ?_)
    (repeat refine aH ?_); refine bB (.row qs smp.length cs (recs eZ smp) 3 1 :: M2) (aX qi (recs eZ zs) :: pM m kX :: I0) [0, 1, 3, 4, 2, 5, 6] [1, 0, 1, 1, 0, 0, 0] aG aF mixed (by kernel_rfl) ?_
    repeat (refine aJ ?_)
    (refine aA rfl (yZ rfl ⟨hsz.1, by omega⟩) rfl rfl ?_; rintro _ _ _ ⟨rfl, q2, c2, rfl, rfl⟩; refine ⟨okF, ?_⟩)
    refine fO .here ?_
    repeat (refine aJ ?_)
    (refine aD rfl (fun _ => nE (vals := [.int .i64 kd, .slice q2 smp.length c2, .slice qi zs.length ci, mv m]) (cells := zF ⟨kd, q2, c2, smp, qi, ci, zs, m⟩) rfl ?hpl rfl ?hz) rfl rfl ?_; (case hpl => repeat (first | exact True.intro | refine ⟨rfl, ?_⟩)); (case hz => rfl))
    repeat (refine aJ ?_)
    refine rO (φ := IsBF ⟨kd, q2, c2, smp, qi, ci, zs, m⟩) (Hv.mkBF aB aB aB) ?_
    refine jZ (M' := .row qs smp.length cs (recs eZ smp) 3 1 :: enB bb ⟨kd, q2, c2, smp, qi, ci, zs, m⟩ :: M2) (I' := IsBF ⟨kd, q2, c2, smp, qi, ci, zs, m⟩ :: I0) aG aF ?_
    refine qZ (by first | exact .inl rfl | exact .inr rfl) rfl _ _ aG aF (⟨_, hnew q2 c2, rfl, rfl⟩)
   ·have hp := hnil hgt
    repeat (refine aJ ?_)
    refine aD rfl (fun _ => iV rfl) rfl rfl ?_
    rw [hp]
    repeat (refine aJ ?_)
    (repeat refine aH ?_); refine bB (.row qs smp.length cs (recs eZ smp) 3 1 :: M2) (aX qi (recs eZ zs) :: pM m kX :: I0) [0, 1, 3, 4, 2, 5, 6] [1, 0, 1, 1, 0, 0, 0] aG aF mixed (by kernel_rfl) ?_
    repeat (refine aJ ?_)
    (refine aA rfl (yZ rfl ⟨hsz.1, by omega⟩) rfl rfl ?_; rintro _ _ _ ⟨rfl, q2, c2, rfl, rfl⟩; refine ⟨okF, ?_⟩)
    refine fO .here ?_
    repeat (refine aJ ?_)
    (refine aD rfl (fun _ => nE (vals := [.int .i64 kd, .slice q2 smp.length c2, .slice qi zs.length ci, mv m]) (cells := zF ⟨kd, q2, c2, smp, qi, ci, zs, m⟩) rfl ?hpl rfl ?hz) rfl rfl ?_; (case hpl => repeat (first | exact True.intro | refine ⟨rfl, ?_⟩)); (case hz => rfl))
    repeat (refine aJ ?_)
    refine rO (φ := IsBF ⟨kd, q2, c2, smp, qi, ci, zs, m⟩) (Hv.mkBF aB aB aB) ?_
    refine jZ (M' := .row qs smp.length cs (recs eZ smp) 3 1 :: enB bb ⟨kd, q2, c2, smp, qi, ci, zs, m⟩ :: M2) (I' := IsBF ⟨kd, q2, c2, smp, qi, ci, zs, m⟩ :: I0) aG aF ?_
    refine qZ (by first | exact .inl rfl | exact .inr rfl) rfl _ _ aG aF (⟨_, hnew q2 c2, rfl, rfl⟩)
  ·have hgt : ¬ f.inl.length < zs.length := fun h => hbet (.inl h)
   have hnn : kL mdl (fun A => gD A l tol) vis ≠ none := fun h => hbet (.inr h)
   obtain ⟨g, hg⟩ : ∃ g, kL mdl (fun A => gD A l tol) vis = some g := by
    cases hb : kL mdl (fun A => gD A l tol) vis with
    | none => exact absurd hb hnn
    | some g => exact ⟨g, rfl⟩
   have hR1 := hR
   unfold BR at hR1
   rw [hg] at hR1
   have hR2 : BR mdl (fun A => gD A l tol) kd (vis ++ [smp]) f := by
    unfold BR
    rw [uO, hg]
    unfold uQ
    rw [hm]
    have h2 : ¬ g.2.1.length < (gD A l tol).length := by rw [hzs, ← hR1.2.2.1]; exact hgt
    show match (if g.2.1.length < (gD A l tol).length then some (smp, gD A l tol, A) else some g) with | none => _ | some g => _
    rw [if_neg h2]
    exact hR1
   have hp : f.m.p.isNone = false := by
    cases hh : f.m.p with
    | none => exact absurd hh hR1.2.2.2.2.2
    | some a => rfl
   repeat (refine aJ ?_)
   refine aD rfl (fun _ => iV rfl) rfl rfl ?_
   rw [hp]
   repeat (refine aJ ?_)
   refine jZ (M' := .row qs smp.length cs (recs eZ smp) 3 1 :: enB bb f :: M2) (I' := IsBF f :: I0) aG aF ?_
   refine qZ (by first | exact .inl rfl | exact .inr rfl) rfl _ _ aG aF (⟨f, hR2, rfl, rfl⟩)
end
end Go.Proofs.YtmmmfphealhapaaGreat
