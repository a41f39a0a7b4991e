/- Chapter 34's law: add, mul, Normal, Solve. -/
import Derived.Test.YtgeagiikkeiioaaGreatZgbp
import Derived.Test.YtgeagiikkeiioaaGreatZgaw
set_option linter.unusedSimpArgs false
set_option linter.unusedVariables false
set_option maxRecDepth 100000
set_option maxHeartbeats 4000000
namespace Go.Proofs.YtgeagiikkeiioaaGreat
open Go Go.Fx
theorem aUH {k k' m n : Nat} (hk : k ≤ k') (h : m ≤ n) : kb k m ≤ kb k' n := by
 refine Nat.le_trans (nH k h) ?_
 clear h
 induction n with
 | zero => exact hk
 | succ n ih => show 4 * kb k n + 1 ≤ 4 * kb k' n + 1; omega
def sqF (m : LE) (R a b : Nat) : Rat := sm R (fun t => m.p.q.getD t 0 * at2 m.a.q t a * at2 m.a.q t b)
def VN (m : LE) (R i k a b : Nat) : Rat := if a < i then sqF m R a b else if a = i then sqF m k a b else 0
def NrmP (m : LE) (R n K : Nat) (M0 : List Ent) (I0 : List bA) (v : Value) (M : List Ent) (I : List bA) : Prop := M0 = M ∧ ∃ (x : MX) (y : RL), v = .tuple #[mv x, lv y] ∧ x.q = aHR R n m.a.q (fun t => m.p.q.getD t 0) ∧ x.dim n n ∧ y.es.length = n ∧ I = jP y K :: gD x K :: I0
theorem aPO {m : LE} {k a b : Nat} : sqF m (k + 1) a b = sqF m k a b + m.p.q.getD k 0 * at2 m.a.q k a * at2 m.a.q k b := rfl
section
variable {X : List Nat} {w0 : World} {M0 : List Ent} {I0 : List bA}
theorem aAO {a b : RE} {k m : Nat} (hk : k + m + 1 ≤ 100000000000) (ha : Hv I0 (eQ a k)) (hb : Hv I0 (eQ b m)) :
  CD Tryz.prog 153 [rv a, rv b] X w0 M0 I0 (RQ (a.q * b.q) (k + m) M0 I0) := by
 refine bD Tryz.func153 rfl Tryz.ntmps153 rfl ?_
 refine aJ ?_
 refine aI ?_
 (refine aP rfl rfl rfl ?_; intro b1; refine ⟨okF, ?_⟩)
 (refine aP rfl rfl rfl ?_; intro b2; refine ⟨okF, ?_⟩)
 (refine aN rfl rfl ?_; intro b3; refine ⟨okF, ?_⟩)
 repeat (refine aK ?_)
 (refine aA rfl (aBY (k := k) (m := m) (by omega) ha hb) rfl rfl ?_; rintro _ _ _ ⟨rfl, e, rfl, he, rfl⟩; refine ⟨okF, ?_⟩)
 repeat (refine aK ?_)
 refine bG (cs := eR e) (.inl rfl) rfl rfl aB rfl M0 (eQ e (k + m) :: I0) aC aD ⟨rfl, e, rfl, he, rfl⟩
theorem aGH {a b : RE} {k m : Nat} (hk : k + m + 1 ≤ 100000000000) (ha : Hv I0 (eQ a k)) (hb : Hv I0 (eQ b m)) :
  CD Tryz.prog 154 [rv a, rv b] X w0 M0 I0 (RQ (a.q + b.q) (k + m + 1) M0 I0) := by
 refine bD Tryz.func154 rfl Tryz.ntmps154 rfl ?_
 refine aJ ?_
 refine aI ?_
 (refine aP rfl rfl rfl ?_; intro b1; refine ⟨okF, ?_⟩)
 (refine aP rfl rfl rfl ?_; intro b2; refine ⟨okF, ?_⟩)
 (refine aN rfl rfl ?_; intro b3; refine ⟨okF, ?_⟩)
 repeat (refine aK ?_)
 (refine aA rfl (aBP (k := k) (m := m) (by omega) ha hb) rfl rfl ?_; rintro _ _ _ ⟨rfl, e, rfl, he, rfl⟩; refine ⟨okF, ?_⟩)
 repeat (refine aK ?_)
 refine bG (cs := eR e) (.inl rfl) rfl rfl aB rfl M0 (eQ e (k + m + 1) :: I0) aC aD ⟨rfl, e, rfl, he, rfl⟩
theorem aTD {m : LE} {R n : Nat} (f : m.fit R n) (h : mW m 30 ∈ I0) :
  CD Tryz.prog 103 [vLE m] X w0 M0 I0 (fun v M I => ∃ (bo co bb : Nat) (tlo : List Value) (rows : List MS) (bes : List RE), v = .tuple #[.slice (some ⟨bo, 0, none⟩) n co, .slice (some ⟨bb, 0, none⟩) n n] ∧ n ≤ co ∧ Shp rows n n ∧ Pw rows n n (sqF m R) ∧ bes.length = n ∧ M = .blk bb (recs eR bes) 42 :: .blk bo (recs eS rows ++ tlo) 34 :: (rows.map gJ ++ M0) ∧ I = fG rows (91 * (n * R)) :: cK bes (91 * (n * R)) :: I0) := by
 have lR := f.d.1.1
 have lC := f.d.r0
 have hll := f.l
 have hpl := f.p
 obtain ⟨r1, r2⟩ := f.d.2.1
 obtain ⟨n1, n2⟩ := f.d.2.2
 have hbig : n * R ≤ 4096 := Nat.le_trans (Nat.mul_le_mul n2 r2) (by decide)
 have hZ := fun M0 I0 => aAV (X := X) (w0 := w0) (M0 := M0) (I0 := I0) (R := n) (C := n) (by omega) (by omega)
 have hW := fun M0 I0 => vV (X := X) (w0 := w0) (M0 := M0) (I0 := I0) (x := 0) (by decide) (k := 0) (by decide)
 refine bQ (φ := gD m.a 30) (Hv.lea h) ?_
 refine bQ (φ := jP m.l 30) (Hv.lel' (List.Mem.tail _ h)) ?_
 refine bQ (φ := jP m.p 30) (Hv.lep (List.Mem.tail _ (List.Mem.tail _ h))) ?_
 refine bQ (φ := aT (m.a).p (recs eL (m.a).rows)) (Hv.xsl aB) ?_
 refine bQ (φ := aT (m.p).p (recs eR (m.p).es)) (Hv.lsl aB) ?_
 refine bQ (φ := aT (m.l).p (recs eR (m.l).es)) (Hv.lsl aB) ?_
 refine bE Tryz.func103 rfl Tryz.ntmps103 rfl ?_
 refine aJ ?_
 refine aI ?_
 (refine aP rfl rfl rfl ?_; intro b1; refine ⟨okF, ?_⟩)
 refine aF .here ?_
 repeat (refine aK ?_)
 rw [lC]
 repeat (refine aK ?_)
 (refine aA rfl (hZ _ _) rfl rfl ?_; rintro _ _ _ ⟨bo, co, tlo, rows0, rfl, hco, hs0, hp0, rfl, rfl⟩; refine ⟨okF, ?_⟩)
 repeat (refine aK ?_)
 (refine jM (n) rfl rfl (by omega) (by omega) (by omega) (by omega) (pK (enc := e4) (by decide) z4 n) rfl rfl ?_; intro bb; refine ⟨okF, ?_⟩)
 repeat (refine aK ?_)
 refine bL (φ := fG rows0 (91 * (0 * R))) (Hv.monoS (k := 0) aB (Nat.zero_le _)) ?_
 refine bL (φ := cK [] (91 * (0 * R))) Hv.nilR ?_
 refine aS [1, 4, 5, 6, 22] rfl (fun k G M I => ∃ (i : Nat) (rows : List MS) (bes : List RE), i ≤ n ∧ k = n - i ∧ bes.length = i ∧ Shp rows n n ∧ Pw rows n n (VN m R i 0) ∧ G = [(23, .int .i64 i)] ∧ M = .blk bb (recs e4 (bes.map t4 ++ List.replicate (n - i) z4)) 42 :: .blk bo (recs eS rows ++ tlo) 34 :: (rows.map gJ ++ M0) ∧ I = fG rows (91 * (i * R)) :: cK bes (91 * (i * R)) :: aT (some ⟨b1, 0, none⟩) [mv m.a, lv m.l, lv m.p] :: aT m.l.p (recs eR m.l.es) :: aT m.p.p (recs eR m.p.es) :: aT m.a.p (recs eL m.a.rows) :: jP m.p 30 :: jP m.l 30 :: gD m.a 30 :: I0) (n) _ _ _ aO aC aD (⟨0, rows0, [], by omega, by omega, rfl, hs0, fun a b ha hb => by
  have h_ := hp0 a b ha hb
  dsimp only at h_
  rw [h_]; unfold VN
  rw [if_neg (by omega)]
  by_cases e : a = 0
  ·rw [if_pos e]; rfl
  ·rw [if_neg e], rfl, rfl, rfl⟩) ?_
 rintro kk G M I ⟨i, rows, bes, hi, rfl, hbl, hs, hp, rfl, rfl, rfl⟩
 by_cases hin : i < n
 ·have hsm : (i + 1) * R = i * R + R := Nat.succ_mul i R
  have hle : i * R + R ≤ 4096 := by rw [← hsm]; exact Nat.le_trans (Nat.mul_le_mul_right R hin) hbig
  obtain ⟨iR, hiR⟩ : ∃ x, x = i * R := ⟨_, rfl⟩
  have hz2 := pJ (n := n - i) (z := z4) (by omega)
  have hl2 : ((bes.map t4 ++ z4 :: List.replicate (n - i - 1) z4).length : Int) = n := by simp; omega
  rw [hz2]
  rw [← hiR] at hsm hle ⊢
  repeat (refine aK ?_)
  (refine aA rfl (hW _ _) rfl rfl ?_; rintro _ _ _ ⟨rfl, e, rfl, he, rfl⟩; refine ⟨okF, ?_⟩)
  repeat (refine yXh ?_)
  refine fH (vs := eR e) rfl rfl rfl (Ones.one e) kU (StAts.r (t4 e) (by omega) rfl) rfl rfl ⟨okF, ?_⟩
  rw [vQ (by simp; omega)]
  repeat (refine aK ?_)
  refine bL (φ := eQ e (91 * (iR + 0))) (Hv.q (k := 0) aB (by omega)) ?_
  rw [Nat.sub_sub]
  refine aS [1, 4, 5, 6, 7, 22, 23, 31, 32] rfl (fun k G M I => ∃ (t : Nat) (rows : List MS) (e : RE), t ≤ R ∧ k = R - t ∧ Shp rows n n ∧ Pw rows n n (VN m R i t) ∧ G = [(33, .int .i64 t)] ∧ M = .blk bb (recs e4 (bes.map t4 ++ t4 e :: List.replicate (n - (i + 1)) z4)) 42 :: .blk bo (recs eS rows ++ tlo) 34 :: (rows.map gJ ++ M0) ∧ I = eQ e (91 * (iR + t)) :: fG rows (91 * (iR + t)) :: cK bes (91 * iR) :: aT (some ⟨b1, 0, none⟩) [mv m.a, lv m.l, lv m.p] :: aT m.l.p (recs eR m.l.es) :: aT m.p.p (recs eR m.p.es) :: aT m.a.p (recs eL m.a.rows) :: jP m.p 30 :: jP m.l 30 :: gD m.a 30 :: I0) (R) _ _ _ aO aC aD (⟨0, rows, e, by omega, by omega, hs, hp, rfl, rfl, rfl⟩) ?_
  rintro kk G M I ⟨t, rows1, e, ht, rfl, hs1, hp1, rfl, rfl, rfl⟩
  by_cases htR : t < R
  ·have hrt := f.d.1.row htR
   have hap := kS (es := m.p.es) (j := t) (by omega)
   have hat := nK (m := m.a) (i := t) (j := i) (by omega) (by omega)
   have hlb : ((bes.map t4 ++ t4 e :: List.replicate (n - (i + 1)) z4).length : Int) = n := by simp; omega
   refine bL (φ := jP (gt m.a.rows (t : Int)) 30) (Hv.xrow (m := m.a) aB (by omega)) ?_
   refine bL (φ := aT (gt m.a.rows (t : Int)).p (recs eR (gt m.a.rows (t : Int)).es)) (Hv.lsl aB) ?_
   refine bL (φ := eQ (gt m.l.es (t : Int)) 30) (Hv.lel (r := m.l) aB (by omega)) ?_
   refine bL (φ := eQ (gt m.p.es (t : Int)) 30) (Hv.lel (r := m.p) aB (by omega)) ?_
   refine bL (φ := eQ (gt (gt m.a.rows (t : Int)).es (i : Int)) 30) (Hv.lel (r := gt m.a.rows (t : Int)) aB (by omega)) ?_
   have hMw := fun M0 I0 h1 h2 => aAO (X := X) (w0 := w0) (M0 := M0) (I0 := I0) (a := gt m.p.es (t : Int)) (b := gt (gt m.a.rows (t : Int)).es (i : Int)) (k := 30) (m := 30) (by omega) h1 h2
   repeat (refine aK ?_)
   refine xM (fun G M I => ∃ (b10 : Nat) (w : RE), w.q = m.p.q.getD t 0 * at2 m.a.q t i ∧ G = [(1, .pointer (some ⟨b1, 0, none⟩)), (4, .int .i64 n), (5, .slice (some ⟨bo, 0, none⟩) n co), (6, .slice (some ⟨bb, 0, none⟩) n n), (7, .int .i64 i), (8, .int .i64 t), (9, lv (gt m.a.rows (t : Int))), (10, .pointer (some ⟨b10, 0, none⟩)), (22, .int .i64 n), (23, .int .i64 i), (31, mv m.a), (32, .int .i64 m.a.rows.length), (33, .int .i64 t)] ∧ M = .blk bb (recs e4 (bes.map t4 ++ t4 e :: List.replicate (n - (i + 1)) z4)) 42 :: .blk bo (recs eS rows1 ++ tlo) 34 :: (rows1.map gJ ++ M0) ∧ I = aT (some ⟨b10, 0, none⟩) (eR w) :: eQ w 60 :: eQ (gt (gt m.a.rows (t : Int)).es (i : Int)) 30 :: eQ (gt m.p.es (t : Int)) 30 :: eQ (gt m.l.es (t : Int)) 30 :: aT (gt m.a.rows (t : Int)).p (recs eR (gt m.a.rows (t : Int)).es) :: jP (gt m.a.rows (t : Int)) 30 :: eQ e (91 * (iR + t)) :: fG rows1 (91 * (iR + t)) :: cK bes (91 * iR) :: aT (some ⟨b1, 0, none⟩) [mv m.a, lv m.l, lv m.p] :: aT m.l.p (recs eR m.l.es) :: aT m.p.p (recs eR m.p.es) :: aT m.a.p (recs eL m.a.rows) :: jP m.p 30 :: jP m.l 30 :: gD m.a 30 :: I0) ?_ ?_
   ·((repeat refine aJ ?_); refine aEG (.blk bb (recs e4 (bes.map t4 ++ t4 e :: List.replicate (n - (i + 1)) z4)) 42 :: .blk bo (recs eS rows1 ++ tlo) 34 :: (rows1.map gJ ++ M0)) (eQ (gt (gt m.a.rows (t : Int)).es (i : Int)) 30 :: eQ (gt m.p.es (t : Int)) 30 :: eQ (gt m.l.es (t : Int)) 30 :: aT (gt m.a.rows (t : Int)).p (recs eR (gt m.a.rows (t : Int)).es) :: jP (gt m.a.rows (t : Int)) 30 :: eQ e (91 * (iR + t)) :: fG rows1 (91 * (iR + t)) :: cK bes (91 * iR) :: aT (some ⟨b1, 0, none⟩) [mv m.a, lv m.l, lv m.p] :: aT m.l.p (recs eR m.l.es) :: aT m.p.p (recs eR m.p.es) :: aT m.a.p (recs eL m.a.rows) :: jP m.p 30 :: jP m.l 30 :: gD m.a 30 :: I0) mixed ?_)
    refine vU (fuel := 3) (listed' := #[true, true, true, true, true, true, true, true, true, false, false, false]) [0, 1, 2, 3, 4, 5, 6, 7, 8] [2, 2, 2, 2, 1, 2, 2, 2, 1] aC aD (by kernel_rfl) (by kernel_rfl) rfl rfl ?_
    repeat (refine aK ?_)
    refine fA (fuel := 2) (i := 9) (j := 10) (by kernel_rfl) ?_ ?_
    ·(refine aA rfl (hMw _ _ (Hv.mem aB) (Hv.mem aB)) rfl rfl ?_; rintro _ _ _ ⟨rfl, w, rfl, hw, rfl⟩; refine ⟨okF, ?_⟩)
     refine bC ?_
     refine dI [10, 11] [0, 0] aC aD (by kernel_rfl) (by kernel_rfl) rfl rfl ?_
     repeat (refine aK ?_)
     (refine aN rfl rfl ?_; intro b10; refine ⟨okF, ?_⟩)
     repeat (refine aK ?_)
     (refine aBJ (b := b10) .here ?_; refine dP _ _ _ aO aC aD ⟨b10, w, by rw [hw, hat, hap], rfl, rfl, rfl⟩)
    ·(refine aN rfl rfl ?_; intro b10; refine ⟨okF, ?_⟩)
     refine bC ?_
     refine dI [9, 11] [0, 0] aC aD (by kernel_rfl) (by kernel_rfl) rfl rfl ?_
     repeat (refine aK ?_)
     (refine aA rfl (hMw _ _ (Hv.mem aB) (Hv.mem aB)) rfl rfl ?_; rintro _ _ _ ⟨rfl, w, rfl, hw, rfl⟩; refine ⟨okF, ?_⟩)
     repeat (refine aK ?_)
     (refine aBJ (b := b10) .here ?_; refine dP _ _ _ aO aC aD ⟨b10, w, by rw [hw, hat, hap], rfl, rfl, rfl⟩)
   ·rintro G M I ⟨b10, w, hw, rfl, rfl, rfl⟩
    have hMl := fun M0 I0 h1 h2 => aAO (X := X) (w0 := w0) (M0 := M0) (I0 := I0) (a := w) (b := gt m.l.es (t : Int)) (k := 60) (m := 30) (by omega) h1 h2
    have hAl := fun (x : RE) M0 I0 h1 h2 => aGH (X := X) (w0 := w0) (M0 := M0) (I0 := I0) (a := e) (b := x) (k := 91 * (iR + t)) (m := 90) (by omega) h1 h2
    have hgm : gt (bes.map t4 ++ t4 e :: List.replicate (n - (i + 1)) z4) (i : Int) = t4 e := tT (by simp; omega)
    repeat (refine aK ?_)
    (repeat refine aJ ?_); refine bK 2 [0, 1, 2, 3, 4, 5, 6, 7, 8, 9, 10, 11, 12, 13, 14, 15] [2, 2, 2, 2, 2, 1, 1, 2, 2, 2, 2, 1, 0, 0, 0, 0] mixed (by kernel_rfl) ?_
    repeat (refine aK ?_)
    rw [hgm]
    repeat (refine aK ?_)
    (refine aA rfl (hMl _ _ (Hv.mem aB) (Hv.mem aB)) rfl rfl ?_; rintro _ _ _ ⟨rfl, x1, rfl, hx1, rfl⟩; refine ⟨okF, ?_⟩)
    repeat (refine aK ?_)
    have hAx := hAl x1
    (refine aA rfl (hAx _ _ (Hv.mem aB) (Hv.mem aB)) rfl rfl ?_; rintro _ _ _ ⟨rfl, e2, rfl, he2, rfl⟩; refine ⟨okF, ?_⟩)
    repeat (refine yXh ?_)
    refine fH (vs := eR e2) rfl rfl rfl (Ones.one e2) kU (StAts.r (t4 e2) (by omega) rfl) rfl rfl ⟨okF, ?_⟩
    rw [vQ (by simp; omega)]
    repeat (refine aK ?_)
    refine bL (φ := eQ e2 (91 * (iR + (t + 1)))) (Hv.q (k := 91 * (iR + t) + 90 + 1) aB (by omega)) ?_
    refine bL (φ := fG rows1 (91 * (iR + (t + 1)))) (Hv.monoS (k := 91 * (iR + t)) aB (by omega)) ?_
    refine aS [1, 4, 5, 6, 7, 9, 10, 22, 23, 31, 32, 33, 63] rfl (fun k G M I => ∃ (j : Nat) (rows : List MS), j ≤ n ∧ k = n - j ∧ Shp rows n n ∧ (∀ a : Nat, a < n → a ≠ i → gt rows (a : Int) = gt rows1 (a : Int)) ∧ (∀ b : Nat, j ≤ b → gt (gt rows (i : Int)).es (b : Int) = gt (gt rows1 (i : Int)).es (b : Int)) ∧ (∀ b : Nat, b < j → (gt (gt rows (i : Int)).es (b : Int)).q = (gt (gt rows1 (i : Int)).es (b : Int)).q + w.q * at2 m.a.q t b) ∧ G = [(64, .int .i64 j)] ∧ M = .blk bb (recs e4 (bes.map t4 ++ t4 e2 :: List.replicate (n - (i + 1)) z4)) 42 :: .blk bo (recs eS rows ++ tlo) 34 :: (rows.map gJ ++ M0) ∧ I = fG rows (91 * (iR + (t + 1))) :: eQ e2 (91 * (iR + (t + 1))) :: aT (some ⟨b10, 0, none⟩) (eR w) :: eQ w 60 :: aT (gt m.a.rows (t : Int)).p (recs eR (gt m.a.rows (t : Int)).es) :: jP (gt m.a.rows (t : Int)) 30 :: fG rows1 (91 * (iR + t)) :: cK bes (91 * iR) :: aT (some ⟨b1, 0, none⟩) [mv m.a, lv m.l, lv m.p] :: aT m.l.p (recs eR m.l.es) :: aT m.p.p (recs eR m.p.es) :: aT m.a.p (recs eL m.a.rows) :: jP m.p 30 :: jP m.l 30 :: gD m.a 30 :: I0) (n) _ _ _ aO aC aD (⟨0, rows1, by omega, by omega, hs1, fun _ _ _ => rfl, fun _ _ => rfl, fun b hb => by omega, rfl, rfl, rfl⟩) ?_
    rintro kk G M I ⟨j, rows2, hj, rfl, hs2, hk2, hk2r, hd2, rfl, rfl, rfl⟩
    have hlen2 := hs2.len
    by_cases hjn : j < n
    ·have hrow2 := hs2.row hin
     have hrow1 := hs1.row hin
     have hmr := aIU (rows := rows2) (i := i) (M1 := M0) (by omega)
     have hatj := nK (m := m.a) (i := t) (j := j) (by omega) (by omega)
     have hMj := fun M0 I0 h1 h2 => aAO (X := X) (w0 := w0) (M0 := M0) (I0 := I0) (a := w) (b := gt (gt m.a.rows (t : Int)).es (j : Int)) (k := 60) (m := 30) (by omega) h1 h2
     have hAj := fun (x : RE) M0 I0 h1 h2 => aGH (X := X) (w0 := w0) (M0 := M0) (I0 := I0) (a := gt (gt rows1 (i : Int)).es (j : Int)) (b := x) (k := 91 * (iR + t)) (m := 90) (by omega) h1 h2
     refine bL (φ := eQ (gt (gt m.a.rows (t : Int)).es (j : Int)) 30) (Hv.lel (r := gt m.a.rows (t : Int)) aB (by omega)) ?_
     refine bL (φ := eQ (gt (gt rows1 (i : Int)).es (j : Int)) (91 * (iR + t))) (Hv.elS (rows := rows1) (k := 91 * (iR + t)) aB (by have := hs1.len; omega) (by omega) (Nat.le_refl _)) ?_
     repeat (refine aK ?_)
     (repeat refine aJ ?_); refine bK 2 [0, 1, 2, 3, 4, 5, 6, 7, 8, 9, 10, 11, 12, 13, 14, 15, 16, 17, 18, 19, 20] [2, 2, 2, 2, 2, 2, 2, 2, 2, 2, 2, 1, 1, 2, 2, 2, 1, 0, 0, 0, 0] mixed (by kernel_rfl) ?_
     repeat (first | (refine aK ?_) | (refine bI ?_; apply bX; exact fC; exact rfl; exact aB; exact AtsZ.app (AtsZ.r fE); exact rfl; exact rfl))
     repeat (refine aK ?_)
     rw [hk2r j (Nat.le_refl j)]
     repeat (first | (refine aK ?_) | (refine bI ?_; apply bX; exact fC; exact rfl; exact aB; exact AtsZ.app (AtsZ.r fE); exact rfl; exact rfl))
     repeat (refine aK ?_)
     (refine aA rfl (hMj _ _ (Hv.mem aB) (Hv.mem aB)) rfl rfl ?_; rintro _ _ _ ⟨rfl, x2, rfl, hx2, rfl⟩; refine ⟨okF, ?_⟩)
     repeat (refine aK ?_)
     have hAx2 := hAj x2
     (refine aA rfl (hAx2 _ _ (Hv.mem aB) (Hv.mem aB)) rfl rfl ?_; rintro _ _ _ ⟨rfl, e3, rfl, he3, rfl⟩; refine ⟨okF, ?_⟩)
     repeat (refine yXh ?_)
     refine fH (vs := eR e3) rfl rfl rfl (Ones.one e3) (aOQ (rows := rows2) (i := i) (r' := upR (gt rows2 (i : Int)) j e3) (by omega)) (StAts.app (StAts.r (enc := eR) (ms := (gt rows2 (i : Int)).es) (i := (j : Int)) e3 (by omega) rfl)) rfl rfl ⟨okF, ?_⟩
     rw [wO]
     refine iA (φ := eQ e3 (91 * (iR + (t + 1)))) (Hv.q (k := 91 * (iR + t) + 90 + 1) aB (by omega)) ?_
     refine iA (φ := fG (upS rows2 i j e3) (91 * (iR + (t + 1)))) (Hv.upS hs2 hin aB aB) ?_
     rw [← uB (i := i) (j := j) (e := e3) hs2 hin]
     repeat (refine aK ?_)
     refine aM (n - (j + 1)) _ _ _ (by first | omega | (simp only [List.length_append, List.length_cons, List.length_nil]; omega)) aO aC aD (⟨j + 1, upS rows2 i j e3, by omega, rfl, hs2.up hin, fun a ha hne => ?_, fun b hb => ?_, fun b hb => ?_, rfl, rfl, rfl⟩)
     ·rw [yA hs2 hin ha hne]; exact hk2 a ha hne
     ·rw [pO hs2 hin hjn, if_neg (by omega)]; exact hk2r b (by omega)
     ·rw [pO hs2 hin hjn]
      by_cases eb : b = j
      ·rw [if_pos eb, he3, hx2, eb, hatj]
      ·rw [if_neg eb]; exact hd2 b (by omega)
    ·obtain rfl : j = n := by omega
     repeat (refine aK ?_)
     refine aM (R - (t + 1)) _ _ _ (by first | omega | (simp only [List.length_append, List.length_cons, List.length_nil]; omega)) aO aC aD (⟨t + 1, rows2, e2, by omega, rfl, hs2, fun a b ha hb => ?_, rfl, rfl, rfl⟩)
     unfold VN
     by_cases ea : a = i
     ·subst ea
      rw [if_neg (by omega), if_pos rfl, aPO, hd2 b hb, hp1 a b ha hb, hw]
      unfold VN
      rw [if_neg (by omega), if_pos rfl]
     ·rw [hk2 a ha ea, hp1 a b ha hb]
      unfold VN
      by_cases el : a < i
      ·rw [if_pos el, if_pos el]
      ·rw [if_neg el, if_neg el, if_neg ea, if_neg ea]
  ·obtain rfl : t = R := by omega
   have e9 : bes.map t4 ++ t4 e :: List.replicate (n - (i + 1)) z4 = (bes ++ [e]).map t4 ++ List.replicate (n - (i + 1)) z4 := by simp
   rw [e9]
   refine bL (φ := cK bes (91 * (iR + t))) (Hv.allMono (k := 91 * iR) aB (by omega)) ?_
   refine bL (φ := cK (bes ++ [e]) (91 * (iR + t))) (Hv.snoc aB aB) ?_
   rw [← hsm]
   repeat (refine aK ?_)
   refine aM (n - (i + 1)) _ _ _ (by first | omega | (simp only [List.length_append, List.length_cons, List.length_nil]; omega)) aO aC aD (⟨i + 1, rows1, bes ++ [e], by omega, rfl, by simp; omega, hs1, fun a b ha hb => ?_, rfl, rfl, rfl⟩)
   rw [hp1 a b ha hb]
   unfold VN
   by_cases el : a < i
   ·rw [if_pos el, if_pos (by omega)]
   ·rw [if_neg el]
    by_cases ea : a = i
    ·rw [if_pos ea, if_pos (by omega)]
    ·rw [if_neg ea, if_neg (by omega)]
     by_cases ea1 : a = i + 1
     ·rw [if_pos ea1]; rfl
     ·rw [if_neg ea1]
 ·obtain rfl : i = n := by omega
  rw [Nat.sub_self, List.replicate_zero, List.append_nil, wM]
  repeat (refine aK ?_)
  refine dZ [2, 3] (by first | exact .inl rfl | exact .inr rfl) rfl rfl rfl _ _ aC aD (⟨bo, co, bb, tlo, rows, bes, rfl, hco, hs, fun a b ha hb => by
   rw [hp a b ha hb]; unfold VN; rw [if_pos ha], hbl, rfl, rfl⟩)
theorem aUU {m : LE} {R n : Nat} (f : m.fit R n) (h : mW m 30 ∈ I0) : CD Tryz.prog 103 [vLE m] X w0 M0 I0 (NrmP m R n (91 * (n * R)) M0 I0) := by
 refine CD.post (aTD f h) (fun v M I w h hw => ?_)
 obtain ⟨bo, co, bb, tlo, rows, bes, rfl, hco, hs, hp, hbl, rfl, rfl⟩ := h
 have h1 := Mem.blkL hw (List.Mem.tail _ (List.Mem.head _))
 have h2 := aAC h1 (fun r hr => by have := hs.col r hr; omega) (by rw [hs.len]; exact hco) (List.Mem.tail _ (List.Mem.head _))
 obtain ⟨q1, d1⟩ := q_xs (bo := bo) (co := co) hs hp
 refine ⟨M0, jP ⟨some ⟨bb, 0, none⟩, bes.length, bes⟩ (91 * (n * R)) :: gD (MS.x bo co rows) (91 * (n * R)) :: I0, ⟨rfl, MS.x bo co rows, ⟨some ⟨bb, 0, none⟩, bes.length, bes⟩, ?_, q1, d1, hbl, rfl⟩, h2.inc (.of fun φ hφ => ?_)⟩
 ·have e1 : (MS.x bo co rows).rows.length = n := d1.1
  show _ = Value.tuple #[.slice (some ⟨bo, 0, none⟩) (MS.x bo co rows).rows.length co, .slice (some ⟨bb, 0, none⟩) bes.length bes.length]
  rw [e1, hbl]
 ·rcases List.mem_cons.1 hφ with rfl | hφ
  ·exact List.Mem.tail _ (List.Mem.head _)
  ·rcases List.mem_cons.1 hφ with rfl | hφ
   ·exact List.Mem.head _
   ·exact List.Mem.tail _ (List.Mem.tail _ (List.Mem.tail _ (List.Mem.tail _ hφ)))
theorem aHH {m : LE} {R n : Nat} (f : m.fit R n) (hd : R ≤ 7 ∧ n ≤ 5) (h : mW m 30 ∈ I0) : CD Tryz.prog 44 [vLE m] X w0 M0 I0 (fun v M I => M0 = M ∧ I0 = I ∧ ∃ x : Value, v = .tuple #[x, .bool (B (rk m.a.q n = n))]) := by
 obtain ⟨n1, n2⟩ := f.d.2.2
 have hbig : n * R ≤ 35 := Nat.le_trans (Nat.mul_le_mul hd.2 hd.1) (by decide)
 have hkb : kb (91 * (n * R)) (n + n) ≤ 3400000000 := Nat.le_trans (aUH (k' := 3185) (by omega) (show n + n ≤ 10 by omega)) (by decide +kernel)
 have hN := fun M0 I0 h => aUU (X := X) (w0 := w0) (M0 := M0) (I0 := I0) (m := m) f h
 have hrk : ∀ x : Mt, x = aHR R n m.a.q (fun t => m.p.q.getD t 0) → rk x n = rk m.a.q n := fun x hx => by
  rw [hx]
  refine aUI (oH f.d.1) (fun k hk => ?_)
  have : k < m.p.es.length := by rw [f.p]; exact hk
  rw [kS this]
  exact f.pos _ (cZ (by omega))
 refine bE Tryz.func44 rfl Tryz.ntmps44 rfl ?_
 refine aJ ?_
 refine aI ?_
 (refine aP rfl rfl rfl ?_; intro b1; refine ⟨okF, ?_⟩)
 refine aF .here ?_
 repeat (refine aK ?_)
 (refine aA rfl (hN _ _ aB) rfl rfl ?_; rintro _ _ _ ⟨rfl, x, y, rfl, hx, hxd, hyl, rfl⟩; refine ⟨okF, ?_⟩)
 have hI := fun M0 I0 h => aRI (X := X) (w0 := w0) (M0 := M0) (I0 := I0) (a := x) (n := n) (u := 91 * (n * R)) rfl (by omega) (by omega) hxd h
 rw [hrk x.q hx] at hI
 have hu : 91 * (n * R) ≤ 3185 := by omega
 generalize 91 * (n * R) = u at *
 generalize kb u (n + n) = K at *
 by_cases e : rk m.a.q n = n
 ·simp only [if_pos e] at hI
  rw [bR e]
  repeat (refine aK ?_)
  (refine aA rfl (hI _ _ aB) rfl rfl ?_; rintro _ _ _ ⟨rfl, z, rfl, hzd, rfl⟩; refine ⟨okF, ?_⟩)
  have hkm : n * (K + u + 1) ≤ 50000000000 := Nat.le_trans (Nat.mul_le_mul hd.2 (show K + u + 1 ≤ 3500000000 by omega)) (by decide)
  have hA := fun M0 I0 h1 h2 => aHV (X := X) (w0 := w0) (M0 := M0) (I0 := I0) (a := z) (x := y) (R := n) (C := n) (k0 := K) (m := u) (by omega) hkm (by omega) (by omega) hzd hyl h1 h2
  repeat (refine aK ?_)
  (refine aA rfl (hA _ _ aB aB) rfl rfl ?_; rintro _ _ _ ⟨rfl, r, rfl, hr, rfl⟩; refine ⟨okF, ?_⟩)
  repeat (refine aK ?_)
  refine dZ [2, 3] (by first | exact .inl rfl | exact .inr rfl) rfl rfl rfl _ _ aC aD (⟨rfl, rfl, lv r, rfl⟩)
 ·simp only [if_neg e] at hI
  rw [aY e]
  repeat (refine aK ?_)
  (refine aA rfl (hI _ _ aB) rfl rfl ?_; rintro _ _ _ ⟨rfl, rfl, rfl⟩; refine ⟨okF, ?_⟩)
  repeat (refine aK ?_)
  refine dZ [2, 3] (by first | exact .inl rfl | exact .inr rfl) rfl rfl rfl _ _ aC aD (⟨rfl, rfl, _, rfl⟩)
end
end Go.Proofs.YtgeagiikkeiioaaGreat
