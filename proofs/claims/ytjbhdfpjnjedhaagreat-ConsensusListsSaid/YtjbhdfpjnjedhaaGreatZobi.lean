/- The document's product, transposed matrix, product with a list. Equality of lists and matrices; matrices of integers; the chapter's example. Matrices of integers; the chapter's example. The chapter's example. Arguments, opened: slices of records, structs with slices. Arguments opened: matrices, lists, fractions, wherever they lie. What the laws of matrices share. Vectors of space in memory; products of lists. -/
import Derived.Test.YtjbhdfpjnjedhaaGreatZobh
import Derived.Test.YtjbhdfpjnjedhaaGreatZoan
import Derived.Test.YtjbhdfpjnjedhaaGreatZobf
import Derived.Test.YtjbhdfpjnjedhaaGreatZoab
import Derived.Test.YtjbhdfpjnjedhaaGreatZoae
import Derived.Test.YtjbhdfpjnjedhaaGreatZoaz
set_option linter.unusedSimpArgs false
set_option linter.unusedVariables false
set_option maxRecDepth 100000
set_option maxHeartbeats 4000000
namespace Go.Proofs.YtjbhdfpjnjedhaaGreat
open Go Go.Fx
section
variable {X : List Nat} {w0 : World} {M0 : List Ent} {I0 : List aY}
theorem aEI {a b : MX} {R C D k0 m : Nat} (hk : k0 + m ≤ 20000000000) (hKK : C * (k0 + m + 1) ≤ 50000000000) (hR : 1 ≤ R ∧ R ≤ 64) (hC : 1 ≤ C ∧ C ≤ 64) (hD : 1 ≤ D ∧ D ≤ 64) (da : a.dim R C) (db : b.dim C D) (ha : iT a k0 ∈ I0) (hb : iT b m ∈ I0) :
  CD Tryz.prog 83 [mv a, mv b] X w0 M0 I0 (MsP R D (fun i j => sm C (fun t => at2 a.q i t * at2 b.q t j)) (C * (k0 + m + 1)) M0 I0) := by
 have lR := da.1
 have lC := db.1
 have lD : (gt b.rows 0).es.length = D := db.row (i := 0) (by omega)
 have hW := fun M0 I0 => uC (X := X) (w0 := w0) (M0 := M0) (I0 := I0) (x := 0) (by decide)
 obtain ⟨K, hK⟩ : ∃ K, K = C * (k0 + m + 1) := ⟨_, rfl⟩
 rw [← hK] at hKK ⊢
 refine bT (φ := aM (a).p (recs eL (a).rows)) (Hv.xsl aB) ?_
 refine bT (φ := aM (b).p (recs eL (b).rows)) (Hv.xsl aB) ?_
 refine aW Tryz.func83 rfl Tryz.ntmps83 rfl ?_
 repeat (refine aI ?_)
 rw [lR, lD]
 (refine aA rfl (aBE (R := R) (C := D) (by omega) (by omega)) rfl rfl ?_; rintro _ _ _ ⟨bo, co, tlo, rows0, rfl, hco, hs0, hp0, rfl, rfl⟩; refine ⟨okF, ?_⟩)
 repeat (refine aI ?_)
 refine eO (φ := iG rows0 K) (Hv.monoS (k := 0) (List.Mem.head _) (by omega)) ?_
 refine aP [0, 1, 5] rfl (fun k G M I => ∃ (i : Nat) (rows : List MS), i ≤ R ∧ k = R - i ∧ Shp rows R D ∧ Pw rows R D (fun x y => if x < i then sm C (fun t => at2 a.q x t * at2 b.q t y) else 0) ∧ G = [(6, .int .i64 i)] ∧ M = .blk bo (recs eS rows ++ tlo) 53 :: (rows.map iU ++ M0) ∧ I = iG rows K :: aM b.p (recs eL b.rows) :: aM a.p (recs eL a.rows) :: I0) (R) _ _ _ aO aD aC (⟨0, rows0, by omega, rfl, hs0, fun x y hx hy => by (have h_ := hp0 x y hx hy; dsimp only at h_ ⊢; rw [h_, if_neg (by omega)]), rfl, rfl, rfl⟩) ?_
 rintro kk G M I ⟨i, rows, hi, rfl, hs, hp, rfl, rfl, rfl⟩
 by_cases hiR : i < R
 ·have hra := da.row hiR
  refine eO (φ := aM (gt (a).rows (i : Int)).p (recs eR (gt (a).rows (i : Int)).es)) (Hv.xrsl aB (by omega)) ?_
  have hp_ : Pw rows R D (fun x y => if x < i ∨ (x = i ∧ y < 0) then sm C (fun t => at2 a.q x t * at2 b.q t y) else 0) := fun x y hx hy => by
   have h_ := hp x y hx hy
   dsimp only at h_ ⊢
   rw [h_]
   by_cases e : x < i
   ·rw [if_pos e, if_pos (.inl e)]
   ·rw [if_neg e, if_neg (by omega)]
  repeat (refine aI ?_)
  refine aP [0, 1, 5, 6] rfl (fun k G M I => ∃ (j : Nat) (rows : List MS), j ≤ D ∧ k = D - j ∧ Shp rows R D ∧ Pw rows R D (fun x y => if x < i ∨ (x = i ∧ y < j) then sm C (fun t => at2 a.q x t * at2 b.q t y) else 0) ∧ G = [(7, .int .i64 j)] ∧ M = .blk bo (recs eS rows ++ tlo) 53 :: (rows.map iU ++ M0) ∧ I = iG rows K :: aM (gt a.rows (i : Int)).p (recs eR (gt a.rows (i : Int)).es) :: aM b.p (recs eL b.rows) :: aM a.p (recs eL a.rows) :: I0) (D) _ _ _ aO aD aC (⟨0, rows, by omega, rfl, hs, hp_, rfl, rfl, rfl⟩) ?_
  rintro kk G M I ⟨j, rows1, hj, rfl, hs1, hp1, rfl, rfl, rfl⟩
  have hlen := hs1.len
  by_cases hjD : j < D
  ·have hrow := hs1.row hiR
   repeat (refine aI ?_)
   (refine aA rfl (hW _ _) rfl rfl ?_; rintro _ _ _ ⟨rfl, z0, rfl, hz0, rfl⟩; refine ⟨okF, ?_⟩)
   repeat (refine aI ?_)
   (refine aJ rfl rfl ?_; intro b8; refine ⟨okF, ?_⟩)
   repeat (refine aI ?_)
   refine aP [0, 1, 5, 6, 7, 8] rfl (fun k G M I => ∃ (t : Nat) (s : RE), t ≤ C ∧ k = C - t ∧ s.q = sm t (fun t => at2 a.q i t * at2 b.q t j) ∧ G = [(9, .int .i64 t)] ∧ M = .blk b8 (eR s) 50 :: .blk bo (recs eS rows1 ++ tlo) 53 :: (rows1.map iU ++ M0) ∧ I = dD s (t * (k0 + m + 1)) :: iG rows1 K :: aM (gt a.rows (i : Int)).p (recs eR (gt a.rows (i : Int)).es) :: aM b.p (recs eL b.rows) :: aM a.p (recs eL a.rows) :: I0) (C) _ _ _ aO aD aC (⟨0, z0, by omega, rfl, hz0, rfl, rfl, by rw [Nat.zero_mul]⟩) ?_
   rintro kk G M I ⟨t, s, ht, rfl, hsq, rfl, rfl, rfl⟩
   have hu : t * (k0 + m + 1) ≤ K := by rw [hK]; exact Nat.mul_le_mul_right _ ht
   by_cases htC : t < C
   ·have hu2 : (t + 1) * (k0 + m + 1) = t * (k0 + m + 1) + (k0 + m) + 1 := by rw [Nat.succ_mul]; omega
    have hrb := db.row htC
    have hat := nK (m := a) (i := i) (j := t) (by omega) (by omega)
    have hat2 := nK (m := b) (i := t) (j := j) (by omega) (by omega)
    refine eO (φ := aM (gt (b).rows (t : Int)).p (recs eR (gt (b).rows (t : Int)).es)) (Hv.xrsl aB (by omega)) ?_
    have hu3 : (t + 1) * (k0 + m + 1) ≤ K := by rw [hK]; exact Nat.mul_le_mul_right _ htC
    generalize t * (k0 + m + 1) = u at *
    repeat (refine aI ?_)
    (repeat refine aH ?_); refine bA 2 [0, 1, 2, 3, 4, 5, 6, 7, 8, 9, 10, 11, 12, 13, 14, 15, 16, 17] [1, 2, 2, 2, 2, 2, 2, 1, 2, 2, 2, 2, 2, 2, 1, 0, 0, 0] mixed (by kernel_rfl) ?_
    repeat (refine aI ?_)
    (refine aA rfl (rZ (k := k0) (m := m) (by omega) (Hv.xel aB (by omega) (by omega)) (Hv.xel aB (by omega) (by omega))) rfl rfl ?_; rintro _ _ _ ⟨rfl, e1, rfl, he1, rfl⟩; refine ⟨okF, ?_⟩)
    (refine aA rfl (wY (k := u) (m := k0 + m) (by omega) (Hv.mem aB) (Hv.mem aB)) rfl rfl ?_; rintro _ _ _ ⟨rfl, e2, rfl, he2, rfl⟩; refine ⟨okF, ?_⟩)
    repeat (refine aI ?_)
    rw [← hu2]
    refine aK (C - (t + 1)) _ _ _ (by first | omega | (simp only [List.length_append, List.length_cons, List.length_nil]; omega)) aO aD aC (⟨t + 1, e2, by omega, rfl, ?_, rfl, rfl, rfl⟩)
    simp only [sm]
    rw [he2, he1, hsq, hat, hat2]
   ·obtain rfl : t = C := by omega
    repeat (refine aI ?_)
    (repeat refine aH ?_); refine bA 0 [0, 1, 2, 3, 4, 5, 6, 7] [0, 0, 0, 0, 0, 0, 0, 0] mixed (by kernel_rfl) ?_
    repeat (refine yXh ?_)
    refine gG (vs := eR s) rfl rfl rfl (Ones.one s) (aWA (rows := rows1) (i := i) (r' := upR (gt rows1 (i : Int)) j s) (by omega)) (StAts.app (StAts.r (enc := eR) (ms := (gt rows1 (i : Int)).es) (i := (j : Int)) s (by omega) rfl)) rfl rfl ⟨okF, ?_⟩
    rw [aAD]
    refine dS (φ := dD s K) (Hv.q (k := t * (k0 + m + 1)) aB hu) ?_
    refine dS (φ := iG (upS rows1 i j s) K) (Hv.upS hs1 hiR aB aB) ?_
    rw [← xQ (i := i) (j := j) (e := s) hs1 hiR]
    repeat (refine aI ?_)
    refine aK (D - (j + 1)) _ _ _ (by first | omega | (simp only [List.length_append, List.length_cons, List.length_nil]; omega)) aO aD aC (⟨j + 1, upS rows1 i j s, by omega, rfl, hs1.up hiR, hp1.up hs1 hiR hjD (fun x y hx hy => ?_), rfl, rfl, rfl⟩)
    try dsimp only
    by_cases e1 : x = i ∧ y = j
    ·rw [if_pos e1, if_pos (by omega), hsq, e1.1, e1.2]
    ·rw [if_neg e1]
     by_cases e2 : x < i ∨ (x = i ∧ y < j)
     ·rw [if_pos e2, if_pos (by omega)]
     ·rw [if_neg e2, if_neg (by omega)]
  ·obtain rfl : j = D := by omega
   repeat (refine aI ?_)
   refine aK (R - (i + 1)) _ _ _ (by first | omega | (simp only [List.length_append, List.length_cons, List.length_nil]; omega)) aO aD aC (⟨i + 1, rows1, by omega, rfl, hs1, fun x y hx hy => ?_, rfl, rfl, rfl⟩)
   have h_ := hp1 x y hx hy
   dsimp only at h_ ⊢
   rw [h_]
   by_cases e2 : x < i + 1
   ·rw [if_pos e2, if_pos (by omega)]
   ·rw [if_neg e2, if_neg (by omega)]
 ·obtain rfl : i = R := by omega
  repeat (refine aI ?_)
  refine aG (by first | exact .inl rfl | exact .inr rfl) rfl rfl _ _ aD aC (⟨bo, co, tlo, rows, rfl, hco, hs, fun x y hx hy => by (have h_ := hp x y hx hy; dsimp only at h_ ⊢; rw [h_, if_pos hx]), rfl, rfl⟩)
theorem aGR {a : MX} {R C k0 : Nat} (hR : 1 ≤ R ∧ R ≤ 64) (hC : 1 ≤ C ∧ C ≤ 64) (da : a.dim R C) (ha : iT a k0 ∈ I0) :
  CD Tryz.prog 82 [mv a] X w0 M0 I0 (MsP C R (fun i j => at2 a.q j i) k0 M0 I0) := by
 have lR := da.1
 have lC : (gt a.rows 0).es.length = C := da.row (i := 0) (by omega)
 refine bT (φ := aM (a).p (recs eL (a).rows)) (Hv.xsl aB) ?_
 refine aZ Tryz.func82 rfl Tryz.ntmps82 rfl ?_
 repeat (refine aI ?_)
 rw [lR, lC]
 (refine aA rfl (aBE (R := C) (C := R) (by omega) (by omega)) rfl rfl ?_; rintro _ _ _ ⟨bo, co, tlo, rows0, rfl, hco, hs0, hp0, rfl, rfl⟩; refine ⟨okF, ?_⟩)
 repeat (refine aI ?_)
 refine eO (φ := iG rows0 k0) (Hv.monoS (k := 0) (List.Mem.head _) (by omega)) ?_
 refine aP [0, 3] rfl (fun k G M I => ∃ (i : Nat) (rows : List MS), i ≤ R ∧ k = R - i ∧ Shp rows C R ∧ Pw rows C R (fun x y => if y < i then at2 a.q y x else 0) ∧ G = [(4, .int .i64 i)] ∧ M = .blk bo (recs eS rows ++ tlo) 53 :: (rows.map iU ++ M0) ∧ I = iG rows k0 :: aM a.p (recs eL a.rows) :: I0) (R) _ _ _ aO aD aC (⟨0, rows0, by omega, rfl, hs0, fun x y hx hy => by (have h_ := hp0 x y hx hy; dsimp only at h_ ⊢; rw [h_, if_neg (by omega)]), rfl, rfl, rfl⟩) ?_
 rintro kk G M I ⟨i, rows, hi, rfl, hs, hp, rfl, rfl, rfl⟩
 by_cases hiR : i < R
 ·have hra := da.row hiR
  refine eO (φ := aM (gt (a).rows (i : Int)).p (recs eR (gt (a).rows (i : Int)).es)) (Hv.xrsl aB (by omega)) ?_
  have hp_ : Pw rows C R (fun x y => if y < i ∨ (y = i ∧ x < 0) then at2 a.q y x else 0) := fun x y hx hy => by
   have h_ := hp x y hx hy
   dsimp only at h_ ⊢
   rw [h_]
   by_cases e : y < i
   ·rw [if_pos e, if_pos (.inl e)]
   ·rw [if_neg e, if_neg (by omega)]
  repeat (refine aI ?_)
  refine aP [0, 3, 4] rfl (fun k G M I => ∃ (j : Nat) (rows : List MS), j ≤ C ∧ k = C - j ∧ Shp rows C R ∧ Pw rows C R (fun x y => if y < i ∨ (y = i ∧ x < j) then at2 a.q y x else 0) ∧ G = [(5, .int .i64 j)] ∧ M = .blk bo (recs eS rows ++ tlo) 53 :: (rows.map iU ++ M0) ∧ I = iG rows k0 :: aM (gt a.rows (i : Int)).p (recs eR (gt a.rows (i : Int)).es) :: aM a.p (recs eL a.rows) :: I0) (C) _ _ _ aO aD aC (⟨0, rows, by omega, rfl, hs, hp_, rfl, rfl, rfl⟩) ?_
  rintro kk G M I ⟨j, rows1, hj, rfl, hs1, hp1, rfl, rfl, rfl⟩
  have hlen := hs1.len
  by_cases hjC : j < C
  ·have hrow := hs1.row hjC
   have hat := nK (m := a) (i := i) (j := j) (by omega) (by omega)
   obtain ⟨s, hse⟩ : ∃ s, gt (gt a.rows (i : Int)).es (j : Int) = s := ⟨_, rfl⟩
   have hv : ∀ I, iT a k0 ∈ I → Hv I (dD s k0) := fun I h => by rw [← hse]; exact Hv.xel h (by omega) (by omega)
   repeat (refine aI ?_)
   (repeat refine aH ?_); refine bA 0 [0, 1, 2, 3, 4, 5, 6, 7, 8, 9, 10, 11, 12, 13] [0, 0, 0, 0, 0, 0, 0, 0, 0, 0, 0, 0, 0, 0] mixed (by kernel_rfl) ?_
   repeat (refine yXh ?_)
   rw [hse]
   refine gG (vs := eR s) rfl rfl rfl (Ones.one s) (repS (rows := rows1) (i := j) (r' := upR (gt rows1 (j : Int)) i s) (by omega)) (StAts.app (StAts.r (enc := eR) (ms := (gt rows1 (j : Int)).es) (i := (i : Int)) s (by omega) rfl)) rfl rfl ⟨okF, ?_⟩
   rw [aAD]
   refine dS (φ := dD s k0) (hv _ aB) ?_
   refine dS (φ := iG (upS rows1 j i s) k0) (Hv.upS hs1 hjC aB aB) ?_
   rw [← xQ (i := j) (j := i) (e := s) hs1 hjC]
   repeat (refine aI ?_)
   refine aK (C - (j + 1)) _ _ _ (by first | omega | (simp only [List.length_append, List.length_cons, List.length_nil]; omega)) aO aD aC (⟨j + 1, upS rows1 j i s, by omega, rfl, hs1.up hjC, hp1.up hs1 hjC hiR (fun x y hx hy => ?_), rfl, rfl, rfl⟩)
   try dsimp only
   by_cases e1 : x = j ∧ y = i
   ·rw [if_pos e1, if_pos (by omega), e1.1, e1.2, hat, hse]
   ·rw [if_neg e1]
    by_cases e2 : y < i ∨ (y = i ∧ x < j)
    ·rw [if_pos e2, if_pos (by omega)]
    ·rw [if_neg e2, if_neg (by omega)]
  ·obtain rfl : j = C := by omega
   repeat (refine aI ?_)
   refine aK (R - (i + 1)) _ _ _ (by first | omega | (simp only [List.length_append, List.length_cons, List.length_nil]; omega)) aO aD aC (⟨i + 1, rows1, by omega, rfl, hs1, fun x y hx hy => ?_, rfl, rfl, rfl⟩)
   have h_ := hp1 x y hx hy
   dsimp only at h_ ⊢
   rw [h_]
   by_cases e2 : y < i + 1
   ·rw [if_pos e2, if_pos (by omega)]
   ·rw [if_neg e2, if_neg (by omega)]
 ·obtain rfl : i = R := by omega
  repeat (refine aI ?_)
  refine aG (by first | exact .inl rfl | exact .inr rfl) rfl rfl _ _ aD aC (⟨bo, co, tlo, rows, rfl, hco, hs, fun x y hx hy => by (have h_ := hp x y hx hy; dsimp only at h_ ⊢; rw [h_, if_pos hy]), rfl, rfl⟩)
theorem aDW {x : RL} {n k0 : Nat} (hn : n ≤ 100) (hl : x.es.length = n) (hx : jI x k0 ∈ I0) : CD Tryz.prog 97 [lv x] X w0 M0 I0 (XQ (uK n 1 (fun i _ => x.q.getD i 0)) n 1 k0 M0 I0) := by
 refine bT (φ := aM (x).p (recs eR (x).es)) (Hv.lsl aB) ?_
 refine aZ Tryz.func97 rfl Tryz.ntmps97 rfl ?_
 repeat (refine aI ?_)
 (refine aN (cs := recs eL []) ([]) rfl rfl (by intro v hv; repeat (first | exact absurd hv (List.not_mem_nil) | (rcases List.mem_cons.1 hv with rfl | hv; · rfl))) (by omega) rfl rfl rfl ?_; intro bo; refine ⟨okF, ?_⟩; refine gJ (mm := 0) 1 .here rfl (by omega) ?_)
 repeat (refine aI ?_)
 refine eO (φ := gD [] k0) Hv.nilL ?_
 refine aP [0] rfl (fun k G M I => ∃ (i : Nat) (rs : List RL) (q : Option Addr) (c : Nat), i ≤ n ∧ k = n - i ∧ rs.length = i ∧ (∀ r ∈ rs, r.es.length = 1) ∧ rs.map RL.q = (List.range i).map (fun t => [x.q.getD t 0]) ∧ G = [(3, .slice q rs.length c), (4, .int .i64 i)] ∧ M = .row q rs.length c (recs eL rs) 53 1 :: M0 ∧ I = gD rs k0 :: aM x.p (recs eR x.es) :: I0) (n) _ _ _ aO aD aC (⟨0, [], _, _, by omega, rfl, rfl, by simp, rfl, rfl, rfl, rfl⟩) ?_
 rintro kk G M I ⟨i, rs, q, c, hi, rfl, hrl, hrc, hrq, rfl, rfl, rfl⟩
 by_cases hin : i < n
 ·obtain ⟨s, hse⟩ : ∃ s, gt x.es (i : Int) = s := ⟨_, rfl⟩
  have hv : ∀ I, jI x k0 ∈ I → Hv I (dD s k0) := fun I h => by rw [← hse]; exact Hv.lel h (by omega)
  have hqs := kE (es := x.es) (j := i) (by omega)
  rw [hse] at hqs
  repeat (refine aI ?_)
  rw [hse]
  refine dS (φ := dD s k0) (hv _ aB) ?_
  refine dS (φ := bB [] k0) Hv.nilR ?_
  refine dS (φ := bB ([] ++ [s]) k0) (Hv.snoc aB aB) ?_
  rw [List.nil_append]
  (refine aN (cs := recs eR [s]) ([rv s]) rfl rfl (by intro v hv; repeat (first | exact absurd hv (List.not_mem_nil) | (rcases List.mem_cons.1 hv with rfl | hv; · rfl))) (by omega) rfl rfl rfl ?_; intro b; refine ⟨okF, ?_⟩)
  refine gJ (mm := 1) 4 .here rfl (by omega) ?_
  refine aJC (es := [s]) (k := k0) aB ?_
  repeat (refine aI ?_)
  (refine aN (cs := recs eL [(⟨some ⟨b, 0, none⟩, 1, [s]⟩ : RL)]) ([lv (⟨some ⟨b, 0, none⟩, 1, [s]⟩ : RL)]) rfl rfl (by intro v hv; repeat (first | exact absurd hv (List.not_mem_nil) | (rcases List.mem_cons.1 hv with rfl | hv; · rfl))) (by omega) rfl rfl rfl ?_; intro b2; refine ⟨okF, ?_⟩)
  (refine bJ (ys := [(⟨some ⟨b, 0, none⟩, 1, [s]⟩ : RL)]) 1 rfl rfl rfl ?_ (by decide) rfl (by omega) (by omega) rfl rfl ?_; (· first | exact Src.blk aB | exact Src.row aB | exact Src.imm aB (by first | assumption | exact .inl (Ok.mk _ _))); intro q2 c2; refine ⟨okF, ?_⟩)
  repeat (refine aI ?_)
  refine fD (φ := gD (rs ++ [(⟨some ⟨b, 0, none⟩, 1, [s]⟩ : RL)]) k0) (Hv.snocL aB aB) ?_
  refine aK (n - (i + 1)) _ _ _ (by first | omega | (simp only [List.length_append, List.length_cons, List.length_nil]; omega)) aO aD aC (⟨i + 1, rs ++ [(⟨some ⟨b, 0, none⟩, 1, [s]⟩ : RL)], q2, c2, by omega, rfl, by simp [hrl], fun r hr => ?_, ?_, rfl, rfl, rfl⟩)
  ·rcases List.mem_append.1 hr with h | h
   ·exact hrc r h
   ·rw [List.mem_singleton.1 h]; rfl
  ·rw [aRA, hrq, List.range_succ, List.map_append]
   show _ ++ [[s.q]] = _ ++ [[x.q.getD i 0]]
   rw [hqs]
 ·obtain rfl : i = n := by omega
  repeat (refine aI ?_)
  refine aBJ aB ?_
  refine aG (by first | exact .inl rfl | exact .inr rfl) rfl rfl _ _ aD aC (⟨rfl, ⟨q, c, rs⟩, rfl, ?_, ⟨hrl, hrc⟩, rfl⟩)
  show rs.map RL.q = _
  rw [hrq]
  unfold uK
  apply List.map_congr_left
  intro a _
  rfl
theorem aPS {a : MX} {R C k0 : Nat} (hR : R ≤ 100) (hC : 1 ≤ C) (da : a.dim R C) (ha : iT a k0 ∈ I0) : CD Tryz.prog 121 [mv a] X w0 M0 I0 (LQ ((List.range R).map (fun i => at2 a.q i 0)) k0 M0 I0) := by
 have lR := da.1
 refine bT (φ := aM (a).p (recs eL (a).rows)) (Hv.xsl aB) ?_
 refine aZ Tryz.func121 rfl Tryz.ntmps121 rfl ?_
 repeat (refine aI ?_)
 (refine aN (cs := recs eR []) ([]) rfl rfl (by intro v hv; repeat (first | exact absurd hv (List.not_mem_nil) | (rcases List.mem_cons.1 hv with rfl | hv; · rfl))) (by omega) rfl rfl rfl ?_; intro bo; refine ⟨okF, ?_⟩; refine gJ (mm := 0) 4 .here rfl (by omega) ?_)
 repeat (refine aI ?_)
 refine eO (φ := bB [] k0) Hv.nilR ?_
 refine aP [0] rfl (fun k G M I => ∃ (i : Nat) (es : List RE) (q : Option Addr) (c : Nat), i ≤ R ∧ k = R - i ∧ es.length = i ∧ qs es = (List.range i).map (fun i => at2 a.q i 0) ∧ G = [(3, .slice q es.length c), (4, .int .i64 i)] ∧ M = .row q es.length c (recs eR es) 50 4 :: M0 ∧ I = bB es k0 :: aM a.p (recs eL a.rows) :: I0) (R) _ _ _ aO aD aC (⟨0, [], _, _, by omega, rfl, rfl, rfl, rfl, rfl, rfl⟩) ?_
 rintro kk G M I ⟨i, es, q, c, hi, rfl, hel, heq, rfl, rfl, rfl⟩
 by_cases hiR : i < R
 ·have hra := da.row hiR
  refine eO (φ := aM (gt (a).rows (i : Int)).p (recs eR (gt (a).rows (i : Int)).es)) (Hv.xrsl aB (by omega)) ?_
  obtain ⟨s, hse⟩ : ∃ s, gt (gt a.rows (i : Int)).es 0 = s := ⟨_, rfl⟩
  have hv : ∀ I, iT a k0 ∈ I → Hv I (dD s k0) := fun I h => by rw [← hse]; exact Hv.xel h (by omega) (by omega)
  have hat : at2 a.q i 0 = s.q := by rw [← hse]; exact nK (m := a) (i := i) (j := 0) (by omega) (by omega)
  repeat (refine aI ?_)
  rw [hse]
  refine dS (φ := dD s k0) (hv _ aB) ?_
  (refine aN (cs := recs eR [s]) ([rv s]) rfl rfl (by intro v hv; repeat (first | exact absurd hv (List.not_mem_nil) | (rcases List.mem_cons.1 hv with rfl | hv; · rfl))) (by omega) rfl rfl rfl ?_; intro b; refine ⟨okF, ?_⟩)
  (refine bJ (ys := [s]) 1 rfl rfl rfl ?_ (by decide) rfl (by omega) (by omega) rfl rfl ?_; (· first | exact Src.blk aB | exact Src.row aB | exact Src.imm aB (by first | assumption | exact .inl (Ok.mk _ _))); intro q2 c2; refine ⟨okF, ?_⟩)
  repeat (refine aI ?_)
  refine fD (φ := bB (es ++ [s]) k0) (Hv.snoc aB aB) ?_
  refine aK (R - (i + 1)) _ _ _ (by first | omega | (simp only [List.length_append, List.length_cons, List.length_nil]; omega)) aO aD aC (⟨i + 1, es ++ [s], q2, c2, by omega, rfl, by simp; omega, ?_, rfl, rfl, rfl⟩)
  show (es ++ [s]).map RE.q = _
  rw [List.map_append, List.range_succ, List.map_append, ← heq]
  show qs es ++ [s.q] = qs es ++ [at2 a.q i 0]
  rw [hat]
 ·obtain rfl : i = R := by omega
  repeat (refine aI ?_)
  refine aFZ aB ?_
  refine aG (by first | exact .inl rfl | exact .inr rfl) rfl rfl _ _ aD aC (⟨rfl, ⟨q, c, es⟩, rfl, heq, rfl⟩)
theorem aJP {a : MX} {x : RL} {R C k0 m : Nat} (hk : k0 + m ≤ 20000000000) (hKK : C * (k0 + m + 1) ≤ 50000000000) (hR : 1 ≤ R ∧ R ≤ 64) (hC : 1 ≤ C ∧ C ≤ 64) (da : a.dim R C) (hl : x.es.length = C) (ha : iT a k0 ∈ I0) (hx : jI x m ∈ I0) :
  CD Tryz.prog 74 [mv a, lv x] X w0 M0 I0 (LQ ((List.range R).map (fun i => sm C (fun t => at2 a.q i t * x.q.getD t 0))) (C * (k0 + m + 1)) M0 I0) := by
 have hCo := fun M0 I0 h => aDW (X := X) (w0 := w0) (M0 := M0) (I0 := I0) (x := x) (n := C) (k0 := m) (by omega) hl h
 have hMu := fun (y : MX) (hy : y.dim C 1) M0 I0 h1 h2 => aPP (aEI (X := X) (w0 := w0) (M0 := M0) (I0 := I0) (a := a) (b := y) (R := R) (C := C) (D := 1) (k0 := k0) (m := m) hk hKK hR hC (by omega) da hy h1 h2)
 have hFi := fun (y : MX) (hy : y.dim R 1) M0 I0 h1 => aPS (X := X) (w0 := w0) (M0 := M0) (I0 := I0) (a := y) (R := R) (C := 1) (k0 := C * (k0 + m + 1)) (by omega) (by omega) hy h1
 refine aW Tryz.func74 rfl Tryz.ntmps74 rfl ?_
 repeat (refine aI ?_)
 (refine aA rfl (hCo _ _ aB) rfl rfl ?_; rintro _ _ _ ⟨rfl, y, rfl, hy, hyd, rfl⟩; refine ⟨okF, ?_⟩)
 (refine aA rfl (hMu y hyd _ _ aB aB) rfl rfl ?_; rintro _ _ _ ⟨rfl, z, rfl, hz, hzd, rfl⟩; refine ⟨okF, ?_⟩)
 (refine aA rfl (hFi z hzd _ _ aB) rfl rfl ?_; rintro _ _ _ ⟨rfl, r, rfl, hr, rfl⟩; refine ⟨okF, ?_⟩)
 repeat (refine aI ?_)
 refine aG (by first | exact .inl rfl | exact .inr rfl) rfl rfl _ _ aD aC (⟨rfl, r, rfl, ?_, rfl⟩)
 rw [hr]
 apply List.map_congr_left
 intro i hi
 rw [hz, oP (List.mem_range.1 hi) (by omega)]
 exact dH (fun t ht => by rw [hy, oP ht (by omega)])
end
end Go.Proofs.YtjbhdfpjnjedhaaGreat
namespace Go.Proofs.YtjbhdfpjnjedhaaGreat
open Go Go.Fx
structure IL where
 p : Option Addr
 c : Nat
 xs : List Int
instance : Inhabited IL := ⟨⟨none, 0, []⟩⟩
abbrev eIL (r : IL) : List Value := [.slice r.p r.xs.length r.c]
abbrev ivL (r : IL) : Value := .slice r.p r.xs.length r.c
instance : Sized eIL 1 := ⟨fun _ => rfl⟩
instance : Ones eIL := ⟨fun m u hu => by simp only [eIL, List.mem_cons, List.not_mem_nil, or_false] at hu; subst hu; rfl⟩
/- ---------- IndexFunc, ContainsFunc of [][]int ---------- -/
section
variable {X : List Nat} {w0 : World} {M0 : List Ent} {I0 : List aY}
end
theorem q_ext {x y : RL} (hl : x.es.length = y.es.length) (h : ∀ j : Nat, j < x.es.length → (gt x.es (j : Int)).q = (gt y.es (j : Int)).q) : x.q = y.q := by
 apply vB
 ·simp [hl]
 ·intro t ht
  have ht' : t < x.es.length := by simpa using ht
  rw [kE ht', kE (by omega)]
  exact h t ht'
theorem q_at {x y : RL} (h : x.q = y.q) {j : Nat} (hj : j < x.es.length) : (gt x.es (j : Int)).q = (gt y.es (j : Int)).q := by
 have hl : x.es.length = y.es.length := by have := congrArg List.length h; simpa using this
 rw [← kE hj, ← kE (by omega)]
 exact congrArg (fun l => List.getD l j 0) h
section
variable {X : List Nat} {w0 : World} {M0 : List Ent} {I0 : List aY}
theorem aXX {a b : MX} (hl : a.rows.length = b.rows.length) (h : ∀ j : Nat, j < a.rows.length → (gt a.rows (j : Int)).q = (gt b.rows (j : Int)).q) : a.q = b.q := by
 apply List.ext_getElem
 ·simp [hl]
 ·intro j h1 h2
  have hj : j < a.rows.length := by simpa using h1
  have := h j hj
  rw [fC hj, fC (by omega)] at this
  simpa using this
theorem aXV {a b : MX} (h : a.q = b.q) {j : Nat} (hj : j < a.rows.length) : (gt a.rows (j : Int)).q = (gt b.rows (j : Int)).q := by
 have hl : a.rows.length = b.rows.length := by have := congrArg List.length h; simpa using this
 rw [← zT hj, ← zT (by omega), h]
end
end Go.Proofs.YtjbhdfpjnjedhaaGreat
namespace Go.Proofs.YtjbhdfpjnjedhaaGreat
open Go Go.Fx
structure AllIL (rows : List IL) (X : List Nat) (w : World) : Prop where
 go : ∀ r ∈ rows, Sl X w r.p (recs (eI .i64) r.xs)
abbrev allIL (rows : List IL) : aY := AllIL rows
instance (rows : List IL) : Fx.Good (AllIL rows) := ⟨fun X Y w w' h he hY => ⟨fun r hm => Sl.carry (h.go r hm) he hY⟩⟩
abbrev bxI (b : Nat) (q : Option Addr) (n c : Nat) : aY := aM (some ⟨b, 0, none⟩) [.slice q n c]
section
variable {X : List Nat} {w0 : World} {M0 : List Ent} {I0 : List aY}
end
end Go.Proofs.YtjbhdfpjnjedhaaGreat
namespace Go.Proofs.YtjbhdfpjnjedhaaGreat
open Go Go.Fx
def kA : Mt := [[((2 : Int) : Rat), ((1 : Int) : Rat)], [((1 : Int) : Rat), ((1 : Int) : Rat)]]
def kC : Mt := [[((1 : Int) : Rat), ((-1 : Int) : Rat)], [((-1 : Int) : Rat), ((2 : Int) : Rat)]]
section
variable {X : List Nat} {w0 : World} {M0 : List Ent} {I0 : List aY}
end
end Go.Proofs.YtjbhdfpjnjedhaaGreat
namespace Go.Fx
open Go.ChangeShapes Go.WideShapes Go.RowKit Go.ChangeAt
section
variable {H : Type} {enc : TypeId × Value → H} {P : Program} {W : World}
theorem aGP {sz : Nat} : ∀ (rows : List (List Value)) (k : Nat) (v : Value), (∀ r ∈ rows, r.length = sz) → rows.flatten[k]? = some v → ∃ i row, rows[i]? = some row ∧ i * sz ≤ k ∧ row[k - i * sz]? = some v
 | [], k, v, _, h => by simp at h
 | r :: rows, k, v, hr, h => by
  rw [List.flatten_cons] at h
  have hl := hr r (by simp)
  by_cases hk : k < r.length
  ·rw [List.getElem?_append_left hk] at h
   exact ⟨0, r, by simp, by omega, by simpa using h⟩
  ·rw [List.getElem?_append_right (by omega)] at h
   obtain ⟨i, row, h1, h2, h3⟩ := aGP rows _ v (fun r' hr' => hr r' (by simp [hr'])) h
   refine ⟨i + 1, row, by simpa using h1, by rw [Nat.add_mul]; omega, ?_⟩
   rw [← h3]
   congr 1
   rw [Nat.add_mul]; omega
theorem aOK {base fuel : Nat} {t e : TypeId} {v : Value} {x : DataW H × List MemPlace} (ht : P.underlying t = some (.slice e)) (hv : Value.okWide P W .any base t v) (h : DataW.trod enc P W 0 (fun _ => true) true fuel t v.cells.toList = some x) :
  ∃ (a : Option Addr) (len c : Nat), v = .slice a len c ∧ (len : Int) ≤ 9223372036854775807 ∧ len ≤ c ∧ (Ok a ∨ (a = none ∧ len = 0 ∧ c = 0)) ∧
   ∃ rows : List (List Value), rows.length = len ∧ (∀ r ∈ rows, r.length = P.cellsOf e ∧ ∃ n y, DataW.trod enc P W 0 (fun _ => true) true n e r = some y) ∧ Sl [] W a rows.flatten := by
 obtain ⟨a, len, c, rfl⟩ := okWide_slice ht hv
 obtain ⟨h1, h2, h3⟩ := aGQ ht hv
 refine ⟨a, len, c, rfl, h1, h2, h3, ?_⟩
 rcases DataW.trod_slice ht h with ⟨hcs, _⟩ | ⟨a', len', cap', elems, rest, n, _, hcs, _, _, _, _, hlen, hel, _, _⟩
 ·simp [Value.cells] at hcs
  obtain ⟨rfl, rfl, rfl⟩ := hcs
  exact ⟨[], rfl, by simp, Sl.nil _ _ _⟩
 ·simp [Value.cells] at hcs
  obtain ⟨rfl, rfl, rfl⟩ := hcs
  have hok : Ok (some a') := h3.resolve_right (by simp)
  have each : ∀ i, i < len → ∃ cs y, W.cells? 0 (a'.add (i * P.cellsOf e)) (P.cellsOf e) = some cs ∧ DataW.trod enc P W 0 (fun _ => true) true n e cs = some y := fun i hi => by
   have := hel i hi
   rw [List.getElem?_eq_getElem (by omega), Option.bind_eq_some_iff] at this
   obtain ⟨cs, h1, h2⟩ := this
   exact ⟨cs, _, h1, h2⟩
  refine ⟨(List.range len).map (fun i => (W.cells? 0 (a'.add (i * P.cellsOf e)) (P.cellsOf e)).getD []), by simp, ?_, ?_⟩
  ·intro r hr
   obtain ⟨i, hi, rfl⟩ := List.mem_map.1 hr
   obtain ⟨cs, y, h4, h5⟩ := each i (by simpa using hi)
   rw [h4]
   exact ⟨(World.cells?_some h4).2.1, n, y, h5⟩
  ·intro j v hj
   have hall : ∀ r ∈ (List.range len).map (fun i => (W.cells? 0 (a'.add (i * P.cellsOf e)) (P.cellsOf e)).getD []), r.length = P.cellsOf e := by
    intro r hr
    obtain ⟨i, hi, rfl⟩ := List.mem_map.1 hr
    obtain ⟨cs, y, h4, h5⟩ := each i (by simpa using hi)
    rw [h4]
    exact (World.cells?_some h4).2.1
   obtain ⟨i, row, h4, h5, h6⟩ := aGP _ j v hall hj
   rw [List.getElem?_map] at h4
   obtain ⟨i', hi', rfl⟩ := Option.map_eq_some_iff.1 h4
   have hii : i' = i ∧ i < len := by
    obtain ⟨q1, q2⟩ := List.getElem?_eq_some_iff.1 hi'
    rw [List.getElem_range] at q2
    exact ⟨q2.symm, by simpa using q1⟩
   obtain ⟨rfl, hil⟩ := hii
   obtain ⟨cs, y, h7, h8⟩ := each i' hil
   rw [h7] at h6
   simp only [Option.getD_some] at h6
   obtain ⟨_, hl, hc⟩ := World.cells?_some h7
   have hlt : j - i' * P.cellsOf e < P.cellsOf e := by
    have := (List.getElem?_eq_some_iff.1 h6).1
    omega
   have hcell := hc _ hlt
   rw [h6] at hcell
   refine ⟨hok, by simp, ?_⟩
   obtain ⟨b, o, eq⟩ := hok.cases
   injection eq with eq
   subst eq
   rw [add_lit, add_lit] at hcell
   rw [← hcell]
   simp only [pt, bl, of, Option.getD_some]
   congr 2
   omega
theorem aGZ {α : Type} {en : α → List Value} {Pm : α → Prop} {base : Nat} {t e : TypeId} {v : Value} {d : DataW H} {p : List MemPlace} (ht : P.underlying t = some (.slice e)) (hdec : ∀ (r : List Value) n y, r.length = P.cellsOf e → DataW.trod enc P W 0 (fun _ => true) true n e r = some y → ∃ m, r = en m ∧ Pm m)
  (hv : Value.okWide P W .any base t v) (h : DataW.Trod enc P W 0 (fun _ => true) true t v d p) :
  ∃ (a : Option Addr) (ms : List α) (c : Nat), v = .slice a ms.length c ∧ Sl [] W a (recs en ms) ∧ (∀ m ∈ ms, Pm m) ∧ (ms.length : Int) ≤ 9223372036854775807 ∧ ms.length ≤ c ∧ (Ok a ∨ (a = none ∧ ms.length = 0 ∧ c = 0)) := by
 obtain ⟨fuel, hf⟩ := h
 obtain ⟨a, len, c, rfl, h1, h2, h3, rows, hl, hr, hs⟩ := aOK ht hv hf
 have key : ∀ rows : List (List Value), (∀ r ∈ rows, r.length = P.cellsOf e ∧ ∃ n y, DataW.trod enc P W 0 (fun _ => true) true n e r = some y) → ∃ ms : List α, rows = ms.map en ∧ ∀ m ∈ ms, Pm m := by
  intro rows
  induction rows with
  | nil => intro _; exact ⟨[], rfl, by simp⟩
  | cons r rows ih =>
   intro hr
   obtain ⟨hrl, n, y, hy⟩ := hr r (by simp)
   obtain ⟨m, rfl, hm⟩ := hdec r n y hrl hy
   obtain ⟨ms, rfl, hms⟩ := ih (fun r' hr' => hr r' (by simp [hr']))
   exact ⟨m :: ms, rfl, fun m' hm' => by
    rcases List.mem_cons.1 hm' with rfl | hm'
    ·exact hm
    ·exact hms m' hm'⟩
 obtain ⟨ms, rfl, hms⟩ := key rows hr
 have hlen : ms.length = len := by simpa using hl
 subst hlen
 refine ⟨a, ms, c, rfl, ?_, hms, h1, h2, h3⟩
 rw [← List.flatMap_def] at hs
 exact hs
theorem aVH {t : TypeId} {k : IntKind} {n : Nat} {cs : List Value} {y : DataW H × List MemPlace} (ht : P.underlying t = some (.int k)) (h : DataW.trod enc P W 0 (fun _ => true) true n t cs = some y) : ∃ x : Int, cs = [.int k x] ∧ (Lit.int k x).wf = true := by
 obtain ⟨m, h1, _, h2⟩ := DataW.trod_int ht h
 exact ⟨m, h1, h2⟩
theorem aOZ {t : TypeId} {k : IntKind} {m n : Nat} {cs : List Value} {y : DataW H × List MemPlace} {fs : Array Field} (ht : P.underlying t = some (.struct fs)) (hf : fs.toList.map (fun (f : Field) => (f.offset, P.cellsOf f.type)) = (List.range m).map (fun i => (i, 1))) (hk : ∀ f ∈ fs.toList, P.underlying f.type = some (.int k)) (hl : cs.length = m)
  (h : DataW.trod enc P W 0 (fun _ => true) true n t cs = some y) : ∃ xs : List Int, cs = xs.map (Value.int k) ∧ xs.length = m ∧ ∀ x ∈ xs, (Lit.int k x).wf = true := by
 obtain ⟨zs, n', rfl, _, _, hzl, hz⟩ := DataW.trod_struct ht h
 have each : ∀ i, i < m → ∃ x : Int, cs[i]? = some (.int k x) ∧ (Lit.int k x).wf = true := fun i hi => by
  have hsz : fs.toList.length = m := by have := congrArg List.length hf; simpa using this
  obtain ⟨f, hfi⟩ : ∃ f, fs.toList[i]? = some f := ⟨_, List.getElem?_eq_getElem (by omega)⟩
  have hoff : (f.offset, P.cellsOf f.type) = (i, 1) := by
   have : (fs.toList.map (fun f => (f.offset, P.cellsOf f.type)))[i]? = some (f.offset, P.cellsOf f.type) := by rw [List.getElem?_map, hfi]; rfl
   rw [hf, List.getElem?_map, List.getElem?_range hi] at this
   simpa using this.symm
  injection hoff with ho hc
  have hf2 : fs[i]? = some f := by simpa using hfi
  have := hz i f hf2
  rw [List.getElem?_eq_getElem (by rw [hzl]; exact (Array.getElem?_eq_some_iff.1 hf2).1), ho, hc] at this
  obtain ⟨x, hx, hw⟩ := aVH (hk f (List.mem_of_getElem? hfi)) this
  refine ⟨x, ?_, hw⟩
  have : ((cs.drop i).take 1)[0]? = some (.int k x) := by rw [hx]; rfl
  rw [List.getElem?_take, if_pos (by omega), List.getElem?_drop] at this
  simpa using this
 refine ⟨cs.map (fun v => match v with | .int _ x => x | _ => 0), ?_, by simpa using hl, ?_⟩
 ·apply List.ext_getElem
  ·simp
  ·intro i h1 h2
   obtain ⟨x, hx, _⟩ := each i (by omega)
   have : cs[i] = .int k x := by
    have := (List.getElem?_eq_some_iff.1 hx).2
    exact this
   simp [this]
 ·intro x hx
  obtain ⟨v, hv, rfl⟩ := List.mem_map.1 hx
  obtain ⟨i, hi, rfl⟩ := List.mem_iff_getElem.1 hv
  obtain ⟨y, hy, hw⟩ := each i (by omega)
  have : cs[i] = .int k y := (List.getElem?_eq_some_iff.1 hy).2
  rw [this]
  exact hw
theorem Mem.startS {W : World} {I : List aY} {a : Option Addr} {cs : List Value} (h : Mem [] W [] I W) (hs : Sl [] W a cs) : Mem [] W [] (aM a cs :: I) W := h.add (φ := aM a cs) ⟨hs⟩
end
end Go.Fx
namespace Go.Proofs.YtjbhdfpjnjedhaaGreat
open Go Go.Fx
open Go.ChangeShapes Go.WideShapes Go.RowKit Go.ChangeAt
section
variable {H : Type} {enc : TypeId × Value → H} {P : Program} {W : World}
theorem aQY {tr t0 t1 : TypeId} {fr : Array Field} {m k n : Nat} {cs : List Value} {y : DataW H × List MemPlace} (hr : P.underlying tr = some (.struct fr)) (hfr : fr.toList.map (fun f => (f.offset, f.type)) = [(0, t0), (m, t1)]) (cm : P.cellsOf t0 = m) (ck : P.cellsOf t1 = k) (c5 : P.cellsOf tr = m + k) (h : DataW.trod enc P W 0 (fun _ => true) true n tr cs = some y) :
  cs.length = m + k ∧ ∃ n' z0 z1, DataW.trod enc P W 0 (fun _ => true) true n' t0 (cs.take m) = some z0 ∧ DataW.trod enc P W 0 (fun _ => true) true n' t1 (cs.drop m) = some z1 := by
 obtain ⟨zs, n', rfl, rfl, hl, hzl, hz⟩ := DataW.trod_struct hr h
 have hsz : fr.toList.length = 2 := by have := congrArg List.length hfr; simpa using this
 obtain ⟨f0, f1, hfs⟩ : ∃ f0 f1, fr.toList = [f0, f1] := by
  match hh : fr.toList, hsz with
  | [a, b], _ => exact ⟨a, b, rfl⟩
 rw [hfs] at hfr
 simp only [List.map_cons, List.map_nil, List.cons.injEq, Prod.mk.injEq, and_true] at hfr
 obtain ⟨⟨o0, e0⟩, o1, e1⟩ := hfr
 rw [c5] at hl
 have hg0 : fr[0]? = some f0 := by rw [← Array.getElem?_toList, hfs]; rfl
 have hg1 : fr[1]? = some f1 := by rw [← Array.getElem?_toList, hfs]; rfl
 have h0 := hz 0 f0 hg0
 have h1 := hz 1 f1 hg1
 rw [o0, e0, cm] at h0
 rw [o1, e1, ck] at h1
 have hz2 : zs.length = 2 := by rw [hzl]; simpa using hsz
 obtain ⟨z0, z1, rfl⟩ : ∃ z0 z1, zs = [z0, z1] := by
  match zs, hz2 with
  | [a, b], _ => exact ⟨a, b, rfl⟩
 simp only [List.drop_zero, List.getElem?_cons_zero, List.getElem?_cons_succ] at h0 h1
 rw [List.take_of_length_le (l := cs.drop m) (by simp; omega)] at h1
 exact ⟨hl, n', z0, z1, h0, h1⟩
end
section
variable {H : Type} {enc : TypeId × Value → H} {W : World}
end
end Go.Proofs.YtjbhdfpjnjedhaaGreat
namespace Go.Proofs.YtjbhdfpjnjedhaaGreat
open Go Go.Fx
end Go.Proofs.YtjbhdfpjnjedhaaGreat
namespace Go.Proofs.YtjbhdfpjnjedhaaGreat
open Go Go.Fx
structure V3 where
 x : Rat
 y : Rat
 z : Rat
def V3.dot (a b : V3) : Rat := a.x * b.x + a.y * b.y + a.z * b.z
def V3.sub (a b : V3) : V3 := ⟨a.x - b.x, a.y - b.y, a.z - b.z⟩
def V3.along (a : V3) (s : Rat) (b : V3) : V3 := ⟨a.x + s * b.x, a.y + s * b.y, a.z + s * b.z⟩
structure TE where
 x : RE
 y : RE
 z : RE
instance : Inhabited TE := ⟨⟨default, default, default⟩⟩
abbrev eT (p : TE) : List Value := recs eR [p.x, p.y, p.z]
abbrev tv (p : TE) : Value := .agg (recs eR [p.x, p.y, p.z]).toArray
instance : Sized eT 12 := ⟨fun _ => rfl⟩
instance : Ones eT := ⟨fun m u hu => xD _ u hu⟩
def TE.v (p : TE) : V3 := ⟨p.x.q, p.y.q, p.z.q⟩
structure IsT (p : TE) (k : Nat) (X : List Nat) (w : World) : Prop where
 x : IsR p.x k X w
 y : IsR p.y k X w
 z : IsR p.z k X w
abbrev isT (p : TE) (k : Nat) : aY := IsT p k
instance (p : TE) (k : Nat) : Fx.Good (IsT p k) := ⟨fun X Y w w' h he hY => ⟨Fx.Good.go (φ := IsR _ _) X Y w w' h.x he hY, Fx.Good.go (φ := IsR _ _) X Y w w' h.y he hY, Fx.Good.go (φ := IsR _ _) X Y w w' h.z he hY⟩⟩
theorem Hv.mkT {I : List aY} {a b c : RE} {k : Nat} (ha : Hv I (dD a k)) (hb : Hv I (dD b k)) (hc : Hv I (dD c k)) : Hv I (isT ⟨a, b, c⟩ k) := ⟨fun X w hw => ⟨ha.go X w hw, hb.go X w hw, hc.go X w hw⟩⟩
def TE.l (p : TE) (b : Nat) : RL := ⟨some ⟨b, 0, none⟩, 3, [p.x, p.y, p.z]⟩
theorem Hv.tl {I : List aY} {p : TE} {b k : Nat} (h : Hv I (isT p k)) (hs : aM (some ⟨b, 0, none⟩) (eT p) ∈ I) : Hv I (jI (p.l b) k) := ⟨fun X w hw => ⟨(hw _ hs : SlI _ _ X w).go, fun e he => by
 have h1 := h.go X w hw
 have he : e ∈ [p.x, p.y, p.z] := he
 simp only [List.mem_cons, List.not_mem_nil, or_false] at he
 rcases he with rfl | rfl | rfl
 ·exact h1.x
 ·exact h1.y
 ·exact h1.z, ⟨Nat.le_refl 3, .inl (Ok.mk _ _)⟩⟩⟩
def TQ (q : V3) (k : Nat) (M0 : List Ent) (I0 : List aY) (v : Value) (M : List Ent) (I : List aY) : Prop := M0 = M ∧ ∃ p : TE, v = tv p ∧ p.v = q ∧ I = isT p k :: I0
section
variable {X : List Nat} {w0 : World} {M0 : List Ent} {I0 : List aY}
end
end Go.Proofs.YtjbhdfpjnjedhaaGreat
