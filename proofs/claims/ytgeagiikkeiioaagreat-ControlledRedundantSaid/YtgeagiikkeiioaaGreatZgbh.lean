/- The document's product, transposed matrix, product with a list. matrix.Inverse. Equality of lists and matrices; matrices of integers; the chapter's example. Matrices of integers; the chapter's example. The chapter's example. Symmetric elimination, plain: pivots and leading determinants; the quadratic form as a sum of squares; witnesses. The document's SameList, SameMatrix, Symmetric, Nonzero, Form, Leading, Definite. Arguments opened: matrices, lists, fractions, wherever they lie. Arguments opened, with what their sizes are at most: lists, matrices, fractions, wherever they lie. -/
import Derived.Test.YtgeagiikkeiioaaGreatZgbe
import Derived.Test.YtgeagiikkeiioaaGreatZgaw
import Derived.Test.YtgeagiikkeiioaaGreatZgbg
import Derived.Test.YtgeagiikkeiioaaGreatZgba
import Derived.Test.YtgeagiikkeiioaaGreatZgaz
import Derived.SizedLaws
set_option linter.unusedSimpArgs false
set_option linter.unusedVariables false
set_option maxRecDepth 100000
set_option maxHeartbeats 4000000
namespace Go.Proofs.YtgeagiikkeiioaaGreat
open Go Go.Fx
section
variable {X : List Nat} {w0 : World} {M0 : List Ent} {I0 : List bA}
theorem aNA {a b : MX} {R C D k0 m : Nat} (hk : k0 + m ≤ 20000000000) (hKK : C * (k0 + m + 1) ≤ 50000000000) (hR : 1 ≤ R ∧ R ≤ 64) (hC : 1 ≤ C ∧ C ≤ 64) (hD : 1 ≤ D ∧ D ≤ 64) (da : a.dim R C) (db : b.dim C D) (ha : gD a k0 ∈ I0) (hb : gD b m ∈ I0) :
  CD Tryz.prog 79 [mv a, mv b] X w0 M0 I0 (MsP R D (fun i j => sm C (fun t => at2 a.q i t * at2 b.q t j)) (C * (k0 + m + 1)) M0 I0) := by
 have lR := da.1
 have lC := db.1
 have lD : (gt b.rows 0).es.length = D := db.row (i := 0) (by omega)
 have hW := fun M0 I0 => uF (X := X) (w0 := w0) (M0 := M0) (I0 := I0) (x := 0) (by decide)
 obtain ⟨K, hK⟩ : ∃ K, K = C * (k0 + m + 1) := ⟨_, rfl⟩
 rw [← hK] at hKK ⊢
 refine bQ (φ := aT (a).p (recs eL (a).rows)) (Hv.xsl aB) ?_
 refine bQ (φ := aT (b).p (recs eL (b).rows)) (Hv.xsl aB) ?_
 refine bD Tryz.func79 rfl Tryz.ntmps79 rfl ?_
 repeat (refine aK ?_)
 rw [lR, lD]
 (refine aA rfl (aAV (R := R) (C := D) (by omega) (by omega)) rfl rfl ?_; rintro _ _ _ ⟨bo, co, tlo, rows0, rfl, hco, hs0, hp0, rfl, rfl⟩; refine ⟨okF, ?_⟩)
 repeat (refine aK ?_)
 refine bL (φ := fG rows0 K) (Hv.monoS (k := 0) (List.Mem.head _) (by omega)) ?_
 refine aS [0, 1, 5] rfl (fun k G M I => ∃ (i : Nat) (rows : List MS), i ≤ R ∧ k = R - i ∧ Shp rows R D ∧ Pw rows R D (fun x y => if x < i then sm C (fun t => at2 a.q x t * at2 b.q t y) else 0) ∧ G = [(6, .int .i64 i)] ∧ M = .blk bo (recs eS rows ++ tlo) 34 :: (rows.map gJ ++ M0) ∧ I = fG rows K :: aT b.p (recs eL b.rows) :: aT a.p (recs eL a.rows) :: I0) (R) _ _ _ aO aC aD (⟨0, rows0, by omega, rfl, hs0, fun x y hx hy => by (have h_ := hp0 x y hx hy; dsimp only at h_ ⊢; rw [h_, if_neg (by omega)]), rfl, rfl, rfl⟩) ?_
 rintro kk G M I ⟨i, rows, hi, rfl, hs, hp, rfl, rfl, rfl⟩
 by_cases hiR : i < R
 ·have hra := da.row hiR
  refine bL (φ := aT (gt (a).rows (i : Int)).p (recs eR (gt (a).rows (i : Int)).es)) (Hv.xrsl aB (by omega)) ?_
  have hp_ : Pw rows R D (fun x y => if x < i ∨ (x = i ∧ y < 0) then sm C (fun t => at2 a.q x t * at2 b.q t y) else 0) := fun x y hx hy => by
   have h_ := hp x y hx hy
   dsimp only at h_ ⊢
   rw [h_]
   by_cases e : x < i
   ·rw [if_pos e, if_pos (.inl e)]
   ·rw [if_neg e, if_neg (by omega)]
  repeat (refine aK ?_)
  refine aS [0, 1, 5, 6] rfl (fun k G M I => ∃ (j : Nat) (rows : List MS), j ≤ D ∧ k = D - j ∧ Shp rows R D ∧ Pw rows R D (fun x y => if x < i ∨ (x = i ∧ y < j) then sm C (fun t => at2 a.q x t * at2 b.q t y) else 0) ∧ G = [(7, .int .i64 j)] ∧ M = .blk bo (recs eS rows ++ tlo) 34 :: (rows.map gJ ++ M0) ∧ I = fG rows K :: aT (gt a.rows (i : Int)).p (recs eR (gt a.rows (i : Int)).es) :: aT b.p (recs eL b.rows) :: aT a.p (recs eL a.rows) :: I0) (D) _ _ _ aO aC aD (⟨0, rows, by omega, rfl, hs, hp_, rfl, rfl, rfl⟩) ?_
  rintro kk G M I ⟨j, rows1, hj, rfl, hs1, hp1, rfl, rfl, rfl⟩
  have hlen := hs1.len
  by_cases hjD : j < D
  ·have hrow := hs1.row hiR
   repeat (refine aK ?_)
   (refine aA rfl (hW _ _) rfl rfl ?_; rintro _ _ _ ⟨rfl, z0, rfl, hz0, rfl⟩; refine ⟨okF, ?_⟩)
   repeat (refine aK ?_)
   (refine aN rfl rfl ?_; intro b8; refine ⟨okF, ?_⟩)
   repeat (refine aK ?_)
   refine aS [0, 1, 5, 6, 7, 8] rfl (fun k G M I => ∃ (t : Nat) (s : RE), t ≤ C ∧ k = C - t ∧ s.q = sm t (fun t => at2 a.q i t * at2 b.q t j) ∧ G = [(9, .int .i64 t)] ∧ M = .blk b8 (eR s) 42 :: .blk bo (recs eS rows1 ++ tlo) 34 :: (rows1.map gJ ++ M0) ∧ I = eQ s (t * (k0 + m + 1)) :: fG rows1 K :: aT (gt a.rows (i : Int)).p (recs eR (gt a.rows (i : Int)).es) :: aT b.p (recs eL b.rows) :: aT a.p (recs eL a.rows) :: I0) (C) _ _ _ aO aC aD (⟨0, z0, by omega, rfl, hz0, rfl, rfl, by rw [Nat.zero_mul]⟩) ?_
   rintro kk G M I ⟨t, s, ht, rfl, hsq, rfl, rfl, rfl⟩
   have hu : t * (k0 + m + 1) ≤ K := by rw [hK]; exact Nat.mul_le_mul_right _ ht
   by_cases htC : t < C
   ·have hu2 : (t + 1) * (k0 + m + 1) = t * (k0 + m + 1) + (k0 + m) + 1 := by rw [Nat.succ_mul]; omega
    have hrb := db.row htC
    have hat := nK (m := a) (i := i) (j := t) (by omega) (by omega)
    have hat2 := nK (m := b) (i := t) (j := j) (by omega) (by omega)
    refine bL (φ := aT (gt (b).rows (t : Int)).p (recs eR (gt (b).rows (t : Int)).es)) (Hv.xrsl aB (by omega)) ?_
    have hu3 : (t + 1) * (k0 + m + 1) ≤ K := by rw [hK]; exact Nat.mul_le_mul_right _ htC
    generalize t * (k0 + m + 1) = u at *
    repeat (refine aK ?_)
    (repeat refine aJ ?_); refine bK 2 [0, 1, 2, 3, 4, 5, 6, 7, 8, 9, 10, 11, 12, 13, 14, 15, 16, 17] [1, 2, 2, 2, 2, 2, 2, 1, 2, 2, 2, 2, 2, 2, 1, 0, 0, 0] mixed (by kernel_rfl) ?_
    repeat (refine aK ?_)
    (refine aA rfl (aBY (k := k0) (m := m) (by omega) (Hv.xel aB (by omega) (by omega)) (Hv.xel aB (by omega) (by omega))) rfl rfl ?_; rintro _ _ _ ⟨rfl, e1, rfl, he1, rfl⟩; refine ⟨okF, ?_⟩)
    (refine aA rfl (aBP (k := u) (m := k0 + m) (by omega) (Hv.mem aB) (Hv.mem aB)) rfl rfl ?_; rintro _ _ _ ⟨rfl, e2, rfl, he2, rfl⟩; refine ⟨okF, ?_⟩)
    repeat (refine aK ?_)
    rw [← hu2]
    refine aM (C - (t + 1)) _ _ _ (by first | omega | (simp only [List.length_append, List.length_cons, List.length_nil]; omega)) aO aC aD (⟨t + 1, e2, by omega, rfl, ?_, rfl, rfl, rfl⟩)
    simp only [sm]
    rw [he2, he1, hsq, hat, hat2]
   ·obtain rfl : t = C := by omega
    repeat (refine aK ?_)
    (repeat refine aJ ?_); refine bK 0 [0, 1, 2, 3, 4, 5, 6, 7] [0, 0, 0, 0, 0, 0, 0, 0] mixed (by kernel_rfl) ?_
    repeat (refine yXh ?_)
    refine fH (vs := eR s) rfl rfl rfl (Ones.one s) (aOQ (rows := rows1) (i := i) (r' := upR (gt rows1 (i : Int)) j s) (by omega)) (StAts.app (StAts.r (enc := eR) (ms := (gt rows1 (i : Int)).es) (i := (j : Int)) s (by omega) rfl)) rfl rfl ⟨okF, ?_⟩
    rw [wO]
    refine iA (φ := eQ s K) (Hv.q (k := t * (k0 + m + 1)) aB hu) ?_
    refine iA (φ := fG (upS rows1 i j s) K) (Hv.upS hs1 hiR aB aB) ?_
    rw [← uB (i := i) (j := j) (e := s) hs1 hiR]
    repeat (refine aK ?_)
    refine aM (D - (j + 1)) _ _ _ (by first | omega | (simp only [List.length_append, List.length_cons, List.length_nil]; omega)) aO aC aD (⟨j + 1, upS rows1 i j s, by omega, rfl, hs1.up hiR, hp1.up hs1 hiR hjD (fun x y hx hy => ?_), rfl, rfl, rfl⟩)
    try dsimp only
    by_cases e1 : x = i ∧ y = j
    ·rw [if_pos e1, if_pos (by omega), hsq, e1.1, e1.2]
    ·rw [if_neg e1]
     by_cases e2 : x < i ∨ (x = i ∧ y < j)
     ·rw [if_pos e2, if_pos (by omega)]
     ·rw [if_neg e2, if_neg (by omega)]
  ·obtain rfl : j = D := by omega
   repeat (refine aK ?_)
   refine aM (R - (i + 1)) _ _ _ (by first | omega | (simp only [List.length_append, List.length_cons, List.length_nil]; omega)) aO aC aD (⟨i + 1, rows1, by omega, rfl, hs1, fun x y hx hy => ?_, rfl, rfl, rfl⟩)
   have h_ := hp1 x y hx hy
   dsimp only at h_ ⊢
   rw [h_]
   by_cases e2 : x < i + 1
   ·rw [if_pos e2, if_pos (by omega)]
   ·rw [if_neg e2, if_neg (by omega)]
 ·obtain rfl : i = R := by omega
  repeat (refine aK ?_)
  refine aH (by first | exact .inl rfl | exact .inr rfl) rfl rfl _ _ aC aD (⟨bo, co, tlo, rows, rfl, hco, hs, fun x y hx hy => by (have h_ := hp x y hx hy; dsimp only at h_ ⊢; rw [h_, if_pos hx]), rfl, rfl⟩)
theorem aMT {x : RL} {n k0 : Nat} (hn : n ≤ 100) (hl : x.es.length = n) (hx : jP x k0 ∈ I0) : CD Tryz.prog 80 [lv x] X w0 M0 I0 (XQ (vE n 1 (fun i _ => x.q.getD i 0)) n 1 k0 M0 I0) := by
 refine bQ (φ := aT (x).p (recs eR (x).es)) (Hv.lsl aB) ?_
 refine bE Tryz.func80 rfl Tryz.ntmps80 rfl ?_
 repeat (refine aK ?_)
 (refine aL (cs := recs eL []) ([]) rfl rfl (by intro v hv; repeat (first | exact absurd hv (List.not_mem_nil) | (rcases List.mem_cons.1 hv with rfl | hv; · rfl))) (by omega) rfl rfl rfl ?_; intro bo; refine ⟨okF, ?_⟩; refine iJ (mm := 0) 1 .here rfl (by omega) ?_)
 repeat (refine aK ?_)
 refine bL (φ := mK [] k0) Hv.nilL ?_
 refine aS [0] rfl (fun k G M I => ∃ (i : Nat) (rs : List RL) (q : Option Addr) (c : Nat), i ≤ n ∧ k = n - i ∧ rs.length = i ∧ (∀ r ∈ rs, r.es.length = 1) ∧ rs.map RL.q = (List.range i).map (fun t => [x.q.getD t 0]) ∧ G = [(3, .slice q rs.length c), (4, .int .i64 i)] ∧ M = .row q rs.length c (recs eL rs) 34 1 :: M0 ∧ I = mK rs k0 :: aT x.p (recs eR x.es) :: I0) (n) _ _ _ aO aC aD (⟨0, [], _, _, by omega, rfl, rfl, by simp, rfl, rfl, rfl, rfl⟩) ?_
 rintro kk G M I ⟨i, rs, q, c, hi, rfl, hrl, hrc, hrq, rfl, rfl, rfl⟩
 by_cases hin : i < n
 ·obtain ⟨s, hse⟩ : ∃ s, gt x.es (i : Int) = s := ⟨_, rfl⟩
  have hv : ∀ I, jP x k0 ∈ I → Hv I (eQ s k0) := fun I h => by rw [← hse]; exact Hv.lel h (by omega)
  have hqs := kS (es := x.es) (j := i) (by omega)
  rw [hse] at hqs
  repeat (refine aK ?_)
  rw [hse]
  refine iA (φ := eQ s k0) (hv _ aB) ?_
  refine iA (φ := cK [] k0) Hv.nilR ?_
  refine iA (φ := cK ([] ++ [s]) k0) (Hv.snoc aB aB) ?_
  rw [List.nil_append]
  (refine aL (cs := recs eR [s]) ([rv s]) rfl rfl (by intro v hv; repeat (first | exact absurd hv (List.not_mem_nil) | (rcases List.mem_cons.1 hv with rfl | hv; · rfl))) (by omega) rfl rfl rfl ?_; intro b; refine ⟨okF, ?_⟩)
  refine iJ (mm := 1) 4 .here rfl (by omega) ?_
  refine aTR (es := [s]) (k := k0) aB ?_
  repeat (refine aK ?_)
  (refine aL (cs := recs eL [(⟨some ⟨b, 0, none⟩, 1, [s]⟩ : RL)]) ([lv (⟨some ⟨b, 0, none⟩, 1, [s]⟩ : RL)]) rfl rfl (by intro v hv; repeat (first | exact absurd hv (List.not_mem_nil) | (rcases List.mem_cons.1 hv with rfl | hv; · rfl))) (by omega) rfl rfl rfl ?_; intro b2; refine ⟨okF, ?_⟩)
  (refine aX (ys := [(⟨some ⟨b, 0, none⟩, 1, [s]⟩ : RL)]) 1 rfl rfl rfl ?_ (by decide) rfl (by omega) (by omega) rfl rfl ?_; (· first | exact Src.blk aB | exact Src.row aB | exact Src.imm aB (by first | assumption | exact .inl (Ok.mk _ _))); intro q2 c2; refine ⟨okF, ?_⟩)
  repeat (refine aK ?_)
  refine fM (φ := mK (rs ++ [(⟨some ⟨b, 0, none⟩, 1, [s]⟩ : RL)]) k0) (Hv.snocL aB aB) ?_
  refine aM (n - (i + 1)) _ _ _ (by first | omega | (simp only [List.length_append, List.length_cons, List.length_nil]; omega)) aO aC aD (⟨i + 1, rs ++ [(⟨some ⟨b, 0, none⟩, 1, [s]⟩ : RL)], q2, c2, by omega, rfl, by simp [hrl], fun r hr => ?_, ?_, rfl, rfl, rfl⟩)
  ·rcases List.mem_append.1 hr with h | h
   ·exact hrc r h
   ·rw [List.mem_singleton.1 h]; rfl
  ·rw [aNO, hrq, List.range_succ, List.map_append]
   show _ ++ [[s.q]] = _ ++ [[x.q.getD i 0]]
   rw [hqs]
 ·obtain rfl : i = n := by omega
  repeat (refine aK ?_)
  refine vY aB ?_
  refine aH (by first | exact .inl rfl | exact .inr rfl) rfl rfl _ _ aC aD (⟨rfl, ⟨q, c, rs⟩, rfl, ?_, ⟨hrl, hrc⟩, rfl⟩)
  show rs.map RL.q = _
  rw [hrq]
  unfold vE
  apply List.map_congr_left
  intro a _
  rfl
theorem aNP {a : MX} {R C k0 : Nat} (hR : R ≤ 100) (hC : 1 ≤ C) (da : a.dim R C) (ha : gD a k0 ∈ I0) : CD Tryz.prog 78 [mv a] X w0 M0 I0 (LQ ((List.range R).map (fun i => at2 a.q i 0)) k0 M0 I0) := by
 have lR := da.1
 refine bQ (φ := aT (a).p (recs eL (a).rows)) (Hv.xsl aB) ?_
 refine bE Tryz.func78 rfl Tryz.ntmps78 rfl ?_
 repeat (refine aK ?_)
 (refine aL (cs := recs eR []) ([]) rfl rfl (by intro v hv; repeat (first | exact absurd hv (List.not_mem_nil) | (rcases List.mem_cons.1 hv with rfl | hv; · rfl))) (by omega) rfl rfl rfl ?_; intro bo; refine ⟨okF, ?_⟩; refine iJ (mm := 0) 4 .here rfl (by omega) ?_)
 repeat (refine aK ?_)
 refine bL (φ := cK [] k0) Hv.nilR ?_
 refine aS [0] rfl (fun k G M I => ∃ (i : Nat) (es : List RE) (q : Option Addr) (c : Nat), i ≤ R ∧ k = R - i ∧ es.length = i ∧ qs es = (List.range i).map (fun i => at2 a.q i 0) ∧ G = [(3, .slice q es.length c), (4, .int .i64 i)] ∧ M = .row q es.length c (recs eR es) 42 4 :: M0 ∧ I = cK es k0 :: aT a.p (recs eL a.rows) :: I0) (R) _ _ _ aO aC aD (⟨0, [], _, _, by omega, rfl, rfl, rfl, rfl, rfl, rfl⟩) ?_
 rintro kk G M I ⟨i, es, q, c, hi, rfl, hel, heq, rfl, rfl, rfl⟩
 by_cases hiR : i < R
 ·have hra := da.row hiR
  refine bL (φ := aT (gt (a).rows (i : Int)).p (recs eR (gt (a).rows (i : Int)).es)) (Hv.xrsl aB (by omega)) ?_
  obtain ⟨s, hse⟩ : ∃ s, gt (gt a.rows (i : Int)).es 0 = s := ⟨_, rfl⟩
  have hv : ∀ I, gD a k0 ∈ I → Hv I (eQ s k0) := fun I h => by rw [← hse]; exact Hv.xel h (by omega) (by omega)
  have hat : at2 a.q i 0 = s.q := by rw [← hse]; exact nK (m := a) (i := i) (j := 0) (by omega) (by omega)
  repeat (refine aK ?_)
  rw [hse]
  refine iA (φ := eQ s k0) (hv _ aB) ?_
  (refine aL (cs := recs eR [s]) ([rv s]) rfl rfl (by intro v hv; repeat (first | exact absurd hv (List.not_mem_nil) | (rcases List.mem_cons.1 hv with rfl | hv; · rfl))) (by omega) rfl rfl rfl ?_; intro b; refine ⟨okF, ?_⟩)
  (refine aX (ys := [s]) 1 rfl rfl rfl ?_ (by decide) rfl (by omega) (by omega) rfl rfl ?_; (· first | exact Src.blk aB | exact Src.row aB | exact Src.imm aB (by first | assumption | exact .inl (Ok.mk _ _))); intro q2 c2; refine ⟨okF, ?_⟩)
  repeat (refine aK ?_)
  refine fM (φ := cK (es ++ [s]) k0) (Hv.snoc aB aB) ?_
  refine aM (R - (i + 1)) _ _ _ (by first | omega | (simp only [List.length_append, List.length_cons, List.length_nil]; omega)) aO aC aD (⟨i + 1, es ++ [s], q2, c2, by omega, rfl, by simp; omega, ?_, rfl, rfl, rfl⟩)
  show (es ++ [s]).map RE.q = _
  rw [List.map_append, List.range_succ, List.map_append, ← heq]
  show qs es ++ [s.q] = qs es ++ [at2 a.q i 0]
  rw [hat]
 ·obtain rfl : i = R := by omega
  repeat (refine aK ?_)
  refine yP aB ?_
  refine aH (by first | exact .inl rfl | exact .inr rfl) rfl rfl _ _ aC aD (⟨rfl, ⟨q, c, es⟩, rfl, heq, rfl⟩)
theorem aHV {a : MX} {x : RL} {R C k0 m : Nat} (hk : k0 + m ≤ 20000000000) (hKK : C * (k0 + m + 1) ≤ 50000000000) (hR : 1 ≤ R ∧ R ≤ 64) (hC : 1 ≤ C ∧ C ≤ 64) (da : a.dim R C) (hl : x.es.length = C) (ha : gD a k0 ∈ I0) (hx : jP x m ∈ I0) :
  CD Tryz.prog 20 [mv a, lv x] X w0 M0 I0 (LQ ((List.range R).map (fun i => sm C (fun t => at2 a.q i t * x.q.getD t 0))) (C * (k0 + m + 1)) M0 I0) := by
 have hCo := fun M0 I0 h => aMT (X := X) (w0 := w0) (M0 := M0) (I0 := I0) (x := x) (n := C) (k0 := m) (by omega) hl h
 have hMu := fun (y : MX) (hy : y.dim C 1) M0 I0 h1 h2 => aTN (aNA (X := X) (w0 := w0) (M0 := M0) (I0 := I0) (a := a) (b := y) (R := R) (C := C) (D := 1) (k0 := k0) (m := m) hk hKK hR hC (by omega) da hy h1 h2)
 have hFi := fun (y : MX) (hy : y.dim R 1) M0 I0 h1 => aNP (X := X) (w0 := w0) (M0 := M0) (I0 := I0) (a := y) (R := R) (C := 1) (k0 := C * (k0 + m + 1)) (by omega) (by omega) hy h1
 refine bD Tryz.func20 rfl Tryz.ntmps20 rfl ?_
 repeat (refine aK ?_)
 (refine aA rfl (hCo _ _ aB) rfl rfl ?_; rintro _ _ _ ⟨rfl, y, rfl, hy, hyd, rfl⟩; refine ⟨okF, ?_⟩)
 (refine aA rfl (hMu y hyd _ _ aB aB) rfl rfl ?_; rintro _ _ _ ⟨rfl, z, rfl, hz, hzd, rfl⟩; refine ⟨okF, ?_⟩)
 (refine aA rfl (hFi z hzd _ _ aB) rfl rfl ?_; rintro _ _ _ ⟨rfl, r, rfl, hr, rfl⟩; refine ⟨okF, ?_⟩)
 repeat (refine aK ?_)
 refine aH (by first | exact .inl rfl | exact .inr rfl) rfl rfl _ _ aC aD (⟨rfl, r, rfl, ?_, rfl⟩)
 rw [hr]
 apply List.map_congr_left
 intro i hi
 rw [hz, nU (List.mem_range.1 hi) (by omega)]
 exact bJ (fun t ht => by rw [hy, nU ht (by omega)])
end
end Go.Proofs.YtgeagiikkeiioaaGreat
namespace Go.Proofs.YtgeagiikkeiioaaGreat
open Go Go.Fx
def besI (n : Nat) (A : Mt) : Mt := vE n (n + n) (fun i j => if j < n then at2 A i j else oO i (j - n))
def invM (n : Nat) (A : Mt) : Mt := vE n n (fun i j => at2 (iH (besI n A) n).1 i (n + j))
section
variable {X : List Nat} {w0 : World} {M0 : List Ent} {I0 : List bA}
end
end Go.Proofs.YtgeagiikkeiioaaGreat
namespace Go.Proofs.YtgeagiikkeiioaaGreat
open Go Go.Fx
structure IL where
 p : Option Addr
 c : Nat
 xs : List Int
instance : Inhabited IL := ⟨⟨none, 0, []⟩⟩
abbrev eIL (r : IL) : List Value := [.slice r.p r.xs.length r.c]
abbrev ivL (r : IL) : Value := .slice r.p r.xs.length r.c
instance : Sized eIL 1 := ⟨fun _ => rfl⟩
instance : Ones eIL := ⟨fun m u hu => by simp only [eIL, List.mem_cons, List.not_mem_nil, or_false] at hu; subst hu; rfl⟩
/- ---------- IndexFunc, ContainsFunc of [][]int ---------- -/
section
variable {X : List Nat} {w0 : World} {M0 : List Ent} {I0 : List bA}
end
section
variable {X : List Nat} {w0 : World} {M0 : List Ent} {I0 : List bA}
end
end Go.Proofs.YtgeagiikkeiioaaGreat
namespace Go.Proofs.YtgeagiikkeiioaaGreat
open Go Go.Fx
structure AllIL (rows : List IL) (X : List Nat) (w : World) : Prop where
 go : ∀ r ∈ rows, Sl X w r.p (recs (eI .i64) r.xs)
abbrev allIL (rows : List IL) : bA := AllIL rows
instance (rows : List IL) : Fx.Good (AllIL rows) := ⟨fun X Y w w' h he hY => ⟨fun r hm => Sl.carry (h.go r hm) he hY⟩⟩
abbrev bxI (b : Nat) (q : Option Addr) (n c : Nat) : bA := aT (some ⟨b, 0, none⟩) [.slice q n c]
section
variable {X : List Nat} {w0 : World} {M0 : List Ent} {I0 : List bA}
end
end Go.Proofs.YtgeagiikkeiioaaGreat
namespace Go.Proofs.YtgeagiikkeiioaaGreat
open Go Go.Fx
def kA : Mt := [[((2 : Int) : Rat), ((1 : Int) : Rat)], [((1 : Int) : Rat), ((1 : Int) : Rat)]]
def kC : Mt := [[((1 : Int) : Rat), ((-1 : Int) : Rat)], [((-1 : Int) : Rat), ((2 : Int) : Rat)]]
section
variable {X : List Nat} {w0 : World} {M0 : List Ent} {I0 : List bA}
end
end Go.Proofs.YtgeagiikkeiioaaGreat
namespace Go.Proofs.YtgeagiikkeiioaaGreat
def rsF (f : Nat → Nat → Rat) : Nat → Nat → Nat → Rat
 | 0 => f
 | k + 1 => fun i j => if k < i ∧ k ≤ j then rsF f k i j - rsF f k i k / rsF f k k k * rsF f k k j else rsF f k i j
def bk (f : Nat → Nat → Rat) (k : Nat) : Nat → Nat → Rat := fun a b => rsF f k (a + k) (b + k)
def pvs (f : Nat → Nat → Rat) : Nat → Rat
 | 0 => 1
 | k + 1 => pvs f k * bk f k 0 0
def qf (f : Nat → Nat → Rat) (v : Nat → Rat) (n k : Nat) : Rat := sm (n - k) (fun a => sm (n - k) (fun b => bk f k a b * v (a + k) * v (b + k)))
def yk (f : Nat → Nat → Rat) (v : Nat → Rat) (n k : Nat) : Rat := v k + sm (n - (k + 1)) (fun a => bk f k (a + 1) 0 / bk f k 0 0 * v (a + (k + 1)))
end Go.Proofs.YtgeagiikkeiioaaGreat
namespace Go.Proofs.YtgeagiikkeiioaaGreat
open Go Go.Fx
def qfr (A : Mt) (v : List Rat) (n : Nat) : Rat := sm n (fun t => v.getD t 0 * sm n (fun j => at2 A t j * v.getD j 0))
section
variable {X : List Nat} {w0 : World} {M0 : List Ent} {I0 : List bA}
end
end Go.Proofs.YtgeagiikkeiioaaGreat
namespace Go.Proofs.YtgeagiikkeiioaaGreat
open Go Go.Fx
open Go.ChangeShapes Go.WideShapes Go.RowKit Go.ChangeAt
section
variable {H : Type} {enc : TypeId × Value → H} {P : Program} {W : World}
end
section
variable {H : Type} {enc : TypeId × Value → H} {W : World}
end
end Go.Proofs.YtgeagiikkeiioaaGreat
namespace Go.Proofs.YtgeagiikkeiioaaGreat
open Go Go.Fx
open Go.ChangeShapes Go.WideShapes Go.RowKit Go.ChangeAt
def WL.rch (r : WL) : Prop := r.es.length ≤ 35184372088832 ∧ ∀ e ∈ r.es, e.reach
def WM.rch (m : WM) : Prop := m.rows.length ≤ 35184372088832 ∧ ∀ r ∈ m.rows, r.rch
section
variable {H : Type} {enc : TypeId × Value → H} {P : Program} {W : World}
theorem tK {e : TypeId} {z : Nat} : ∀ {ds : List (DataW H)} {d : DataW H}, d ∈ ds → z ∈ d.weights P e → z ∈ DataW.weightsAll P e ds
 | [], _, h, _ => by simp at h
 | x :: r, d, h, hz => by
  simp only [DataW.weightsAll, List.mem_append]
  rcases List.mem_cons.1 h with rfl | h
  ·exact .inl hz
  ·exact .inr (tK h hz)
theorem aLY {ts : List TypeId} {ds : List (DataW H)} (h : (DataW.weightsEach P ts ds).all (· ≤ reachBytes) = true) {j : Nat} {t : TypeId} {d : DataW H} (ht : ts[j]? = some t) (hd : ds[j]? = some d) : ∀ x ∈ d.weights P t, x ≤ reachBytes := by
 induction ts generalizing ds j with
 | nil => simp at ht
 | cons t' ts ih =>
  cases ds with
  | nil => simp at hd
  | cons d' ds =>
   simp only [DataW.weightsEach, List.all_append, Bool.and_eq_true] at h
   cases j with
   | zero =>
    simp at ht hd
    subst ht; subst hd
    intro x hx
    exact of_decide_eq_true (List.all_eq_true.1 h.1 x hx)
   | succ j => exact ih h.2 (by simpa using ht) (by simpa using hd)
theorem aLN {fuel : Nat} {t e : TypeId} {cs : List Value} {x : DataW H × List MemPlace} (ht : P.underlying t = some (.slice e)) (hc : 1 ≤ P.cellsOf e) (h : DataW.trod enc P W 0 (fun _ => true) true fuel t cs = some x) (hw : ∀ z ∈ x.1.weights P t, z ≤ reachBytes) :
  ∃ (a : Option Addr) (len c : Nat), cs = [.slice a len c] ∧ (len : Int) ≤ 9223372036854775807 ∧ Cap a len c ∧
   ∃ rows : List (List Value), rows.length = len ∧ (∀ r ∈ rows, r.length = P.cellsOf e ∧ ∃ n y, DataW.trod enc P W 0 (fun _ => true) true n e r = some y ∧ (∀ z ∈ y.1.weights P e, z ≤ reachBytes)) ∧ len * P.bytesOf e ≤ reachBytes ∧ Sl [] W a rows.flatten := by
 rcases DataW.trod_slice ht h with ⟨hcs, _⟩ | ⟨a', len, c, elems, rest, n, _, hcs, hx, _, hlc, hcm, hlen, hel, hsp, _⟩
 ·exact ⟨none, 0, 0, hcs, by omega, ⟨Nat.le_refl _, .inr ⟨rfl, rfl⟩⟩, [], rfl, by simp, by simp, Sl.nil _ _ _⟩
 ·have hm : maxLen = 9223372036854775807 := by decide
  obtain ⟨hrl, hsp⟩ := hsp rfl
  subst hx
  have hwt : ∀ z ∈ (elems.length + rest.length) * P.bytesOf e :: (DataW.weightsAll P e (elems.map (·.1)) ++ DataW.weightsAll P e (rest.map (·.1))), z ≤ reachBytes := fun z hz => hw z (by simpa [DataW.weights, ht] using hz)
  have hwl : len * P.bytesOf e ≤ reachBytes := Nat.le_trans (Nat.mul_le_mul_right _ (by omega)) (hwt _ List.mem_cons_self)
  have hwe : ∀ y ∈ elems, ∀ z ∈ y.1.weights P e, z ≤ reachBytes := fun y hy z hz => hwt z (List.mem_cons_of_mem _ (List.mem_append_left _ (tK (List.mem_map.2 ⟨y, hy, rfl⟩) hz)))
  have hspot : 0 < c → Ok (some a') := fun h0 => by
   have : ∃ v, W.cell? a' = some v := by
    by_cases hl : 0 < len
    ·have := hel 0 hl
     rw [List.getElem?_eq_getElem (by omega), Option.bind_eq_some_iff] at this
     obtain ⟨cs', h1, _⟩ := this
     obtain ⟨_, hl2, hcell⟩ := World.cells?_some h1
     have := hcell 0 (by omega)
     rw [List.getElem?_eq_getElem (by omega)] at this
     have e1 : (a'.add (0 * P.cellsOf e)).add 0 = a' := by simp [Addr.add]
     rw [e1] at this
     exact ⟨_, this⟩
    ·have hl0 : len = 0 := by omega
     have := hsp 0 (by omega)
     rw [List.getElem?_eq_getElem (by omega), Option.bind_eq_some_iff] at this
     obtain ⟨cs', h1, _⟩ := this
     obtain ⟨_, hl2, hcell⟩ := World.cells?_some h1
     have := hcell 0 (by omega)
     rw [List.getElem?_eq_getElem (by omega)] at this
     have e1 : (a'.add ((len + 0) * P.cellsOf e)).add 0 = a' := by simp [Addr.add, hl0]
     rw [e1] at this
     exact ⟨_, this⟩
   obtain ⟨v, hv⟩ := this
   unfold World.cell? at hv
   cases a' with
   | mk b o s =>
    have : s = none := by
     cases s with
     | none => rfl
     | some s => split at hv <;> simp at hv
    subst this
    exact Ok.mk b o
  have hcap : Cap (some a') len c := ⟨hlc, by
   by_cases h0 : 0 < c
   ·exact .inl (hspot h0)
   ·exact .inr ⟨by omega, by omega⟩⟩
  refine ⟨some a', len, c, hcs, by omega, hcap, ?_⟩
  have each : ∀ i, i < len → ∃ cs y, W.cells? 0 (a'.add (i * P.cellsOf e)) (P.cellsOf e) = some cs ∧ DataW.trod enc P W 0 (fun _ => true) true n e cs = some y ∧ y ∈ elems := fun i hi => by
   have := hel i hi
   rw [List.getElem?_eq_getElem (by omega), Option.bind_eq_some_iff] at this
   obtain ⟨cs, h1, h2⟩ := this
   exact ⟨cs, _, h1, h2, List.getElem_mem _⟩
  refine ⟨(List.range len).map (fun i => (W.cells? 0 (a'.add (i * P.cellsOf e)) (P.cellsOf e)).getD []), by simp, ?_, hwl, ?_⟩
  ·intro r hr
   obtain ⟨i, hi, rfl⟩ := List.mem_map.1 hr
   obtain ⟨cs, y, h4, h5, h6⟩ := each i (by simpa using hi)
   rw [h4]
   exact ⟨(World.cells?_some h4).2.1, n, y, h5, hwe y h6⟩
  ·intro j v hj
   have hall : ∀ r ∈ (List.range len).map (fun i => (W.cells? 0 (a'.add (i * P.cellsOf e)) (P.cellsOf e)).getD []), r.length = P.cellsOf e := by
    intro r hr
    obtain ⟨i, hi, rfl⟩ := List.mem_map.1 hr
    obtain ⟨cs, y, h4, h5, _⟩ := each i (by simpa using hi)
    rw [h4]
    exact (World.cells?_some h4).2.1
   obtain ⟨i, row, h4, h5, h6⟩ := aFG _ j v hall hj
   rw [List.getElem?_map] at h4
   obtain ⟨i', hi', rfl⟩ := Option.map_eq_some_iff.1 h4
   have hii : i' = i ∧ i < len := by
    obtain ⟨q1, q2⟩ := List.getElem?_eq_some_iff.1 hi'
    rw [List.getElem_range] at q2
    exact ⟨q2.symm, by simpa using q1⟩
   obtain ⟨rfl, hil⟩ := hii
   have hok : Ok (some a') := hspot (by omega)
   obtain ⟨cs, y, h7, h8, _⟩ := each i' hil
   rw [h7] at h6
   simp only [Option.getD_some] at h6
   obtain ⟨_, hl, hc'⟩ := World.cells?_some h7
   have hlt : j - i' * P.cellsOf e < P.cellsOf e := by
    have := (List.getElem?_eq_some_iff.1 h6).1
    omega
   have hcell := hc' _ hlt
   rw [h6] at hcell
   refine ⟨hok, by simp, ?_⟩
   obtain ⟨b, o, eq⟩ := hok.cases
   injection eq with eq
   subst eq
   rw [add_lit, add_lit] at hcell
   rw [← hcell]
   simp only [pt, bl, of, Option.getD_some]
   congr 2
   omega
theorem vP {α : Type} {en : α → List Value} {Pm : α → Prop} {fuel : Nat} {t e : TypeId} {cs : List Value} {x : DataW H × List MemPlace} (ht : P.underlying t = some (.slice e)) (hc : 1 ≤ P.cellsOf e)
  (hdec : ∀ (r : List Value) n y, r.length = P.cellsOf e → DataW.trod enc P W 0 (fun _ => true) true n e r = some y → (∀ z ∈ y.1.weights P e, z ≤ reachBytes) → ∃ m, r = en m ∧ Pm m) (h : DataW.trod enc P W 0 (fun _ => true) true fuel t cs = some x) (hw : ∀ z ∈ x.1.weights P t, z ≤ reachBytes) :
  ∃ (a : Option Addr) (ms : List α) (c : Nat), cs = [.slice a ms.length c] ∧ Sl [] W a (recs en ms) ∧ (∀ m ∈ ms, Pm m) ∧ (ms.length : Int) ≤ 9223372036854775807 ∧ Cap a ms.length c ∧ ms.length * P.bytesOf e ≤ reachBytes := by
 obtain ⟨a, len, c, rfl, h1, h3, rows, hl, hr, hwl, hs⟩ := aLN ht hc h hw
 have key : ∀ rows : List (List Value), (∀ r ∈ rows, r.length = P.cellsOf e ∧ ∃ n y, DataW.trod enc P W 0 (fun _ => true) true n e r = some y ∧ (∀ z ∈ y.1.weights P e, z ≤ reachBytes)) → ∃ ms : List α, rows = ms.map en ∧ ∀ m ∈ ms, Pm m := by
  intro rows
  induction rows with
  | nil => intro _; exact ⟨[], rfl, by simp⟩
  | cons r rows ih =>
   intro hr
   obtain ⟨hrl, n, y, hy, hwy⟩ := hr r (by simp)
   obtain ⟨m, rfl, hm⟩ := hdec r n y hrl hy hwy
   obtain ⟨ms, rfl, hms⟩ := ih (fun r' hr' => hr r' (by simp [hr']))
   exact ⟨m :: ms, rfl, fun m' hm' => by
    rcases List.mem_cons.1 hm' with rfl | hm'
    ·exact hm
    ·exact hms m' hm'⟩
 obtain ⟨ms, rfl, hms⟩ := key rows hr
 have hlen : ms.length = len := by simpa using hl
 subst hlen
 refine ⟨a, ms, c, rfl, ?_, hms, h1, h3, hwl⟩
 rw [← List.flatMap_def] at hs
 exact hs
theorem aHE {tr t0 t1 : TypeId} {fr : Array Field} {m k n : Nat} {cs : List Value} {y : DataW H × List MemPlace} (hr : P.underlying tr = some (.struct fr)) (hfr : fr.toList.map (fun f => (f.offset, f.type)) = [(0, t0), (m, t1)]) (cm : P.cellsOf t0 = m) (ck : P.cellsOf t1 = k) (c5 : P.cellsOf tr = m + k) (h : DataW.trod enc P W 0 (fun _ => true) true n tr cs = some y) (hw : ∀ z ∈ y.1.weights P tr, z ≤ reachBytes) :
  cs.length = m + k ∧ ∃ n' z0 z1, DataW.trod enc P W 0 (fun _ => true) true n' t0 (cs.take m) = some z0 ∧ DataW.trod enc P W 0 (fun _ => true) true n' t1 (cs.drop m) = some z1 ∧ (∀ z ∈ z0.1.weights P t0, z ≤ reachBytes) ∧ (∀ z ∈ z1.1.weights P t1, z ≤ reachBytes) := by
 obtain ⟨zs, n', rfl, rfl, hl, hzl, hz⟩ := DataW.trod_struct hr h
 have hsz : fr.toList.length = 2 := by have := congrArg List.length hfr; simpa using this
 obtain ⟨f0, f1, hfs⟩ : ∃ f0 f1, fr.toList = [f0, f1] := by
  match hh : fr.toList, hsz with
  | [a, b], _ => exact ⟨a, b, rfl⟩
 rw [hfs] at hfr
 simp only [List.map_cons, List.map_nil, List.cons.injEq, Prod.mk.injEq, and_true] at hfr
 obtain ⟨⟨o0, e0⟩, o1, e1⟩ := hfr
 rw [c5] at hl
 have hg0 : fr[0]? = some f0 := by rw [← Array.getElem?_toList, hfs]; rfl
 have hg1 : fr[1]? = some f1 := by rw [← Array.getElem?_toList, hfs]; rfl
 have h0 := hz 0 f0 hg0
 have h1 := hz 1 f1 hg1
 rw [o0, e0, cm] at h0
 rw [o1, e1, ck] at h1
 have hz2 : zs.length = 2 := by rw [hzl]; simpa using hsz
 obtain ⟨z0, z1, rfl⟩ : ∃ z0 z1, zs = [z0, z1] := by
  match zs, hz2 with
  | [a, b], _ => exact ⟨a, b, rfl⟩
 simp only [List.drop_zero, List.getElem?_cons_zero, List.getElem?_cons_succ] at h0 h1
 rw [List.take_of_length_le (l := cs.drop m) (by simp; omega)] at h1
 have hww : ∀ x ∈ DataW.weights P t0 z0.1 ++ DataW.weights P t1 z1.1, x ≤ reachBytes := fun x hx => hw x (by simp [DataW.weights, hr, hfs, DataW.weightsEach, e0, e1]; simpa using hx)
 exact ⟨hl, n', z0, z1, h0, h1, fun x hx => hww x (List.mem_append.2 (.inl hx)), fun x hx => hww x (List.mem_append.2 (.inr hx))⟩
theorem aPX {t tb ts te : TypeId} {fs : Array Field} {n : Nat} {cs : List Value} {y : DataW H × List MemPlace} (ht : P.underlying t = some (.struct fs)) (hf : fs.toList.map (fun f => (f.offset, f.type)) = [(0, tb), (1, ts)]) (hb : P.underlying tb = some .bool) (hs : P.underlying ts = some (.slice te)) (he : P.underlying te = some (.int .u32))
  (c1 : P.cellsOf tb = 1) (c2 : P.cellsOf ts = 1) (c3 : P.cellsOf te = 1) (c4 : P.cellsOf t = 2) (hB : P.bytesOf te = 4) (h : DataW.trod enc P W 0 (fun _ => true) true n t cs = some y) (hw : ∀ z ∈ y.1.weights P t, z ≤ reachBytes) :
  ∃ (nb : Bool) (a : Option Addr) (g : List Int) (c : Nat), cs = [.bool nb, .slice a g.length c] ∧ (∀ x ∈ g, 0 ≤ x) ∧ Sl [] W a (recs eG g) ∧ Cap a g.length c ∧ (g.length : Int) ≤ 9223372036854775807 ∧ g.length ≤ 35184372088832 := by
 obtain ⟨hl, n', z0, z1, h0, h1, hw0, hw1⟩ := aHE ht hf c1 c2 c4 h hw
 obtain ⟨u0, u1, rfl⟩ : ∃ u0 u1, cs = [u0, u1] := by
  match cs, hl with
  | [a, b], _ => exact ⟨a, b, rfl⟩
 obtain ⟨nb, hnb, _⟩ := DataW.trod_bool hb h0
 simp at hnb
 subst hnb
 obtain ⟨a, g, c, e1, hsl, hg, hlen, hcap, hgl⟩ := vP (en := eG) (Pm := fun x => 0 ≤ x) hs (by omega) (fun r n y hr hy _ => by
  obtain ⟨x, rfl, hw⟩ := aRQ he hy
  refine ⟨x, rfl, ?_⟩
  simp [Lit.wf] at hw
  have h32 : IntKind.u32.min = 0 := by decide
  rw [h32] at hw
  exact hw.1) h1 hw1
 simp at e1
 subst e1
 exact ⟨nb, a, g, c, rfl, hg, hsl, hcap, hlen, by rw [hB] at hgl; have : reachBytes = 140737488351232 := rfl; omega⟩
theorem aUS {tr t tb ts te : TypeId} {fr fs : Array Field} {n : Nat} {cs : List Value} {y : DataW H × List MemPlace} (hr : P.underlying tr = some (.struct fr)) (hfr : fr.toList.map (fun f => (f.offset, f.type)) = [(0, t), (2, t)]) (ht : P.underlying t = some (.struct fs)) (hf : fs.toList.map (fun f => (f.offset, f.type)) = [(0, tb), (1, ts)]) (hb : P.underlying tb = some .bool) (hs : P.underlying ts = some (.slice te)) (he : P.underlying te = some (.int .u32))
  (c1 : P.cellsOf tb = 1) (c2 : P.cellsOf ts = 1) (c3 : P.cellsOf te = 1) (c4 : P.cellsOf t = 2) (c5 : P.cellsOf tr = 4) (hB : P.bytesOf te = 4) (h : DataW.trod enc P W 0 (fun _ => true) true n tr cs = some y) (hw : ∀ z ∈ y.1.weights P tr, z ≤ reachBytes) :
  ∃ r : RW, cs = eW r ∧ IsW r [] W ∧ r.reach := by
 obtain ⟨hl, n', z0, z1, h0, h1, hw0, hw1⟩ := aHE hr hfr c4 c4 c5 h hw
 obtain ⟨n1, p1, g1, k1, e1, a1, a2, a3, a4, a5⟩ := aPX ht hf hb hs he c1 c2 c3 c4 hB h0 hw0
 obtain ⟨n2, p2, g2, k2, e2, b1, b2, b3, b4, b5⟩ := aPX ht hf hb hs he c1 c2 c3 c4 hB h1 hw1
 refine ⟨⟨n1, p1, g1, k1, n2, p2, g2, k2⟩, ?_, ⟨⟨a1, b1, a4, b4, a3, b3⟩, a2, b2⟩, a5, b5⟩
 rw [← List.take_append_drop 2 cs, e1, e2]
 rfl
end
section
variable {H : Type} {enc : TypeId × Value → H} {W : World}
theorem aNU {n : Nat} {cs : List Value} {y : DataW H × List MemPlace} (h : DataW.trod enc Tryz.prog W 0 (fun _ => true) true n 42 cs = some y) (hw : ∀ z ∈ y.1.weights Tryz.prog 42, z ≤ reachBytes) : ∃ r : RW, cs = eW r ∧ IsW r [] W ∧ r.reach :=
 aUS (tb := 4) (ts := 38) (te := 155) (t := 40) (tr := 42) Tryz.underlying42 (by rfl) Tryz.underlying40 (by rfl) Tryz.underlying4 Tryz.underlying38 Tryz.underlying155 (by kernel_rfl) (by kernel_rfl) (by kernel_rfl) (by kernel_rfl) (by kernel_rfl) (by kernel_rfl) h hw
theorem yJ {n : Nat} {cs : List Value} {y : DataW H × List MemPlace} (h : DataW.trod enc Tryz.prog W 0 (fun _ => true) true n 34 cs = some y) (hw : ∀ z ∈ y.1.weights Tryz.prog 34, z ≤ reachBytes) : ∃ r : WL, cs = wH r ∧ IsWL r [] W ∧ r.rch := by
 obtain ⟨a, ms, c, e, hs, hm, _, hc, hl⟩ := vP (en := eW) (Pm := fun r => IsW r [] W ∧ r.reach) Tryz.underlying34 (by rw [show Tryz.prog.cellsOf 42 = 4 by kernel_rfl]; decide) (fun r n y _ hy hw => aNU hy hw) h hw
 rw [show Tryz.prog.bytesOf 42 = 64 by kernel_rfl] at hl
 have hr : reachBytes = 140737488351232 := rfl
 exact ⟨⟨a, c, ms⟩, e, ⟨hs, fun e he => (hm e he).1, hc⟩, by show ms.length ≤ _; omega, fun e he => (hm e he).2⟩
theorem aQV {n : Nat} {cs : List Value} {y : DataW H × List MemPlace} (h : DataW.trod enc Tryz.prog W 0 (fun _ => true) true n 29 cs = some y) (hw : ∀ z ∈ y.1.weights Tryz.prog 29, z ≤ reachBytes) : ∃ r : WM, cs = eWM r ∧ IsWM r [] W ∧ r.rch := by
 obtain ⟨a, ms, c, e, hs, hm, _, hc, hl⟩ := vP (en := wH) (Pm := fun r => IsWL r [] W ∧ r.rch) Tryz.underlying29 (by rw [show Tryz.prog.cellsOf 34 = 1 by kernel_rfl]; decide) (fun r n y _ hy hw => yJ hy hw) h hw
 rw [show Tryz.prog.bytesOf 34 = 24 by kernel_rfl] at hl
 have hr : reachBytes = 140737488351232 := rfl
 exact ⟨⟨a, c, ms⟩, e, ⟨hs, fun e he => (hm e he).1, hc⟩, by show ms.length ≤ _; omega, fun e he => (hm e he).2⟩
end
end Go.Proofs.YtgeagiikkeiioaaGreat
