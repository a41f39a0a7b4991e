/- The document's product, transposed matrix, product with a list. matrix.Inverse. Equality of lists and matrices; matrices of integers; the chapter's example. Matrices of integers; the chapter's example. The chapter's example. Symmetric elimination, plain: pivots and leading determinants; the quadratic form as a sum of squares; witnesses. The document's SameList, SameMatrix, Symmetric, Nonzero, Form, Leading, Definite. Arguments, opened: slices of records, structs with slices. Arguments opened: matrices, lists, fractions, wherever they lie. Arguments opened: integers, fractions in groups of digits, as they come in. -/
import Derived.Test.YtkccjglmnhgabaaGreatZjbe
import Derived.Test.YtkccjglmnhgabaaGreatZjam
import Derived.Test.YtkccjglmnhgabaaGreatZjbh
import Derived.Test.YtkccjglmnhgabaaGreatZjba
import Derived.Test.YtkccjglmnhgabaaGreatZjbi
import Derived.Test.YtkccjglmnhgabaaGreatZjab
import Derived.Test.YtkccjglmnhgabaaGreatZjae
import Derived.Test.YtkccjglmnhgabaaGreatZjay
set_option linter.unusedSimpArgs false
set_option linter.unusedVariables false
set_option maxRecDepth 100000
set_option maxHeartbeats 4000000
namespace Go.Proofs.YtkccjglmnhgabaaGreat
open Go Go.Fx
section
variable {X : List Nat} {w0 : World} {M0 : List Ent} {I0 : List aZ}
theorem aPL {a b : MX} {R C D k0 m : Nat} (hk : k0 + m ≤ 20000000000) (hKK : C * (k0 + m + 1) ≤ 50000000000) (hR : 1 ≤ R ∧ R ≤ 64) (hC : 1 ≤ C ∧ C ≤ 64) (hD : 1 ≤ D ∧ D ≤ 64) (da : a.dim R C) (db : b.dim C D) (ha : fJ a k0 ∈ I0) (hb : fJ b m ∈ I0) :
  CD Tryz.prog 134 [mv a, mv b] X w0 M0 I0 (MsP R D (fun i j => sm C (fun t => at2 a.q i t * at2 b.q t j)) (C * (k0 + m + 1)) M0 I0) := by
 have lR := da.1
 have lC := db.1
 have lD : (gt b.rows 0).es.length = D := db.row (i := 0) (by omega)
 have hW := fun M0 I0 => uP (X := X) (w0 := w0) (M0 := M0) (I0 := I0) (x := 0) (by decide)
 obtain ⟨K, hK⟩ : ∃ K, K = C * (k0 + m + 1) := ⟨_, rfl⟩
 rw [← hK] at hKK ⊢
 refine cK (φ := aQ (a).p (recs eL (a).rows)) (Hv.xsl aB) ?_
 refine cK (φ := aQ (b).p (recs eL (b).rows)) (Hv.xsl aB) ?_
 refine bF Tryz.func134 rfl Tryz.ntmps134 rfl ?_
 repeat (refine aK ?_)
 rw [lR, lD]
 (refine aA rfl (aRL (R := R) (C := D) (by omega) (by omega)) rfl rfl ?_; rintro _ _ _ ⟨bo, co, tlo, rows0, rfl, hco, hs0, hp0, rfl, rfl⟩; refine ⟨okF, ?_⟩)
 repeat (refine aK ?_)
 refine dK (φ := iM rows0 K) (Hv.monoS (k := 0) (List.Mem.head _) (by omega)) ?_
 refine aM [0, 1, 5] rfl (fun k G M I => ∃ (i : Nat) (rows : List MS), i ≤ R ∧ k = R - i ∧ Shp rows R D ∧ Pw rows R D (fun x y => if x < i then sm C (fun t => at2 a.q x t * at2 b.q t y) else 0) ∧ G = [(6, .int .i64 i)] ∧ M = .blk bo (recs eS rows ++ tlo) 39 :: (rows.map jC ++ M0) ∧ I = iM rows K :: aQ b.p (recs eL b.rows) :: aQ a.p (recs eL a.rows) :: I0) (R) _ _ _ aP aG aD (⟨0, rows0, by omega, rfl, hs0, fun x y hx hy => by (have h_ := hp0 x y hx hy; dsimp only at h_ ⊢; rw [h_, if_neg (by omega)]), rfl, rfl, rfl⟩) ?_
 rintro kk G M I ⟨i, rows, hi, rfl, hs, hp, rfl, rfl, rfl⟩
 by_cases hiR : i < R
 ·have hra := da.row hiR
  refine dK (φ := aQ (gt (a).rows (i : Int)).p (recs eR (gt (a).rows (i : Int)).es)) (Hv.xrsl aB (by omega)) ?_
  have hp_ : Pw rows R D (fun x y => if x < i ∨ (x = i ∧ y < 0) then sm C (fun t => at2 a.q x t * at2 b.q t y) else 0) := fun x y hx hy => by
   have h_ := hp x y hx hy
   dsimp only at h_ ⊢
   rw [h_]
   by_cases e : x < i
   ·rw [if_pos e, if_pos (.inl e)]
   ·rw [if_neg e, if_neg (by omega)]
  repeat (refine aK ?_)
  refine aM [0, 1, 5, 6] rfl (fun k G M I => ∃ (j : Nat) (rows : List MS), j ≤ D ∧ k = D - j ∧ Shp rows R D ∧ Pw rows R D (fun x y => if x < i ∨ (x = i ∧ y < j) then sm C (fun t => at2 a.q x t * at2 b.q t y) else 0) ∧ G = [(7, .int .i64 j)] ∧ M = .blk bo (recs eS rows ++ tlo) 39 :: (rows.map jC ++ M0) ∧ I = iM rows K :: aQ (gt a.rows (i : Int)).p (recs eR (gt a.rows (i : Int)).es) :: aQ b.p (recs eL b.rows) :: aQ a.p (recs eL a.rows) :: I0) (D) _ _ _ aP aG aD (⟨0, rows, by omega, rfl, hs, hp_, rfl, rfl, rfl⟩) ?_
  rintro kk G M I ⟨j, rows1, hj, rfl, hs1, hp1, rfl, rfl, rfl⟩
  have hlen := hs1.len
  by_cases hjD : j < D
  ·have hrow := hs1.row hiR
   repeat (refine aK ?_)
   (refine aA rfl (hW _ _) rfl rfl ?_; rintro _ _ _ ⟨rfl, z0, rfl, hz0, rfl⟩; refine ⟨okF, ?_⟩)
   repeat (refine aK ?_)
   (refine aL rfl rfl ?_; intro b8; refine ⟨okF, ?_⟩)
   repeat (refine aK ?_)
   refine aM [0, 1, 5, 6, 7, 8] rfl (fun k G M I => ∃ (t : Nat) (s : RE), t ≤ C ∧ k = C - t ∧ s.q = sm t (fun t => at2 a.q i t * at2 b.q t j) ∧ G = [(9, .int .i64 t)] ∧ M = .blk b8 (eR s) 37 :: .blk bo (recs eS rows1 ++ tlo) 39 :: (rows1.map jC ++ M0) ∧ I = dX s (t * (k0 + m + 1)) :: iM rows1 K :: aQ (gt a.rows (i : Int)).p (recs eR (gt a.rows (i : Int)).es) :: aQ b.p (recs eL b.rows) :: aQ a.p (recs eL a.rows) :: I0) (C) _ _ _ aP aG aD (⟨0, z0, by omega, rfl, hz0, rfl, rfl, by rw [Nat.zero_mul]⟩) ?_
   rintro kk G M I ⟨t, s, ht, rfl, hsq, rfl, rfl, rfl⟩
   have hu : t * (k0 + m + 1) ≤ K := by rw [hK]; exact Nat.mul_le_mul_right _ ht
   by_cases htC : t < C
   ·have hu2 : (t + 1) * (k0 + m + 1) = t * (k0 + m + 1) + (k0 + m) + 1 := by rw [Nat.succ_mul]; omega
    have hrb := db.row htC
    have hat := sN (m := a) (i := i) (j := t) (by omega) (by omega)
    have hat2 := sN (m := b) (i := t) (j := j) (by omega) (by omega)
    refine dK (φ := aQ (gt (b).rows (t : Int)).p (recs eR (gt (b).rows (t : Int)).es)) (Hv.xrsl aB (by omega)) ?_
    have hu3 : (t + 1) * (k0 + m + 1) ≤ K := by rw [hK]; exact Nat.mul_le_mul_right _ htC
    generalize t * (k0 + m + 1) = u at *
    repeat (refine aK ?_)
    (repeat refine aI ?_); refine bR 2 [0, 1, 2, 3, 4, 5, 6, 7, 8, 9, 10, 11, 12, 13, 14, 15, 16, 17] [1, 2, 2, 2, 2, 2, 2, 1, 2, 2, 2, 2, 2, 2, 1, 0, 0, 0] mixed (by kernel_rfl) ?_
    repeat (refine aK ?_)
    (refine aA rfl (rC (k := k0) (m := m) (by omega) (Hv.xel aB (by omega) (by omega)) (Hv.xel aB (by omega) (by omega))) rfl rfl ?_; rintro _ _ _ ⟨rfl, e1, rfl, he1, rfl⟩; refine ⟨okF, ?_⟩)
    (refine aA rfl (yF (k := u) (m := k0 + m) (by omega) (Hv.mem aB) (Hv.mem aB)) rfl rfl ?_; rintro _ _ _ ⟨rfl, e2, rfl, he2, rfl⟩; refine ⟨okF, ?_⟩)
    repeat (refine aK ?_)
    rw [← hu2]
    refine aJ (C - (t + 1)) _ _ _ (by first | omega | (simp only [List.length_append, List.length_cons, List.length_nil]; omega)) aP aG aD (⟨t + 1, e2, by omega, rfl, ?_, rfl, rfl, rfl⟩)
    simp only [sm]
    rw [he2, he1, hsq, hat, hat2]
   ·obtain rfl : t = C := by omega
    repeat (refine aK ?_)
    (repeat refine aI ?_); refine bR 0 [0, 1, 2, 3, 4, 5, 6, 7] [0, 0, 0, 0, 0, 0, 0, 0] mixed (by kernel_rfl) ?_
    repeat (refine yXh ?_)
    refine eY (vs := eR s) rfl rfl rfl (Ones.one s) (aWJ (rows := rows1) (i := i) (r' := upR (gt rows1 (i : Int)) j s) (by omega)) (StAts.app (StAts.r (enc := eR) (ms := (gt rows1 (i : Int)).es) (i := (j : Int)) s (by omega) rfl)) rfl rfl ⟨okF, ?_⟩
    rw [aFY]
    refine iQ (φ := dX s K) (Hv.q (k := t * (k0 + m + 1)) aB hu) ?_
    refine iQ (φ := iM (upS rows1 i j s) K) (Hv.upS hs1 hiR aB aB) ?_
    rw [← aCQ (i := i) (j := j) (e := s) hs1 hiR]
    repeat (refine aK ?_)
    refine aJ (D - (j + 1)) _ _ _ (by first | omega | (simp only [List.length_append, List.length_cons, List.length_nil]; omega)) aP aG aD (⟨j + 1, upS rows1 i j s, by omega, rfl, hs1.up hiR, hp1.up hs1 hiR hjD (fun x y hx hy => ?_), rfl, rfl, rfl⟩)
    try dsimp only
    by_cases e1 : x = i ∧ y = j
    ·rw [if_pos e1, if_pos (by omega), hsq, e1.1, e1.2]
    ·rw [if_neg e1]
     by_cases e2 : x < i ∨ (x = i ∧ y < j)
     ·rw [if_pos e2, if_pos (by omega)]
     ·rw [if_neg e2, if_neg (by omega)]
  ·obtain rfl : j = D := by omega
   repeat (refine aK ?_)
   refine aJ (R - (i + 1)) _ _ _ (by first | omega | (simp only [List.length_append, List.length_cons, List.length_nil]; omega)) aP aG aD (⟨i + 1, rows1, by omega, rfl, hs1, fun x y hx hy => ?_, rfl, rfl, rfl⟩)
   have h_ := hp1 x y hx hy
   dsimp only at h_ ⊢
   rw [h_]
   by_cases e2 : x < i + 1
   ·rw [if_pos e2, if_pos (by omega)]
   ·rw [if_neg e2, if_neg (by omega)]
 ·obtain rfl : i = R := by omega
  repeat (refine aK ?_)
  refine aF (by first | exact .inl rfl | exact .inr rfl) rfl rfl _ _ aG aD (⟨bo, co, tlo, rows, rfl, hco, hs, fun x y hx hy => by (have h_ := hp x y hx hy; dsimp only at h_ ⊢; rw [h_, if_pos hx]), rfl, rfl⟩)
theorem le_kc {C k0 m : Nat} (hC : C ≤ 64) (hk : k0 + m ≤ 700000000) : C * (k0 + m + 1) ≤ 50000000000 := Nat.le_trans (Nat.mul_le_mul hC (show k0 + m + 1 ≤ 700000001 by omega)) (by decide)
theorem aOB {x : RL} {n k0 : Nat} (hn : n ≤ 100) (hl : x.es.length = n) (hx : nD x k0 ∈ I0) : CD Tryz.prog 135 [lv x] X w0 M0 I0 (XQ (wP n 1 (fun i _ => x.q.getD i 0)) n 1 k0 M0 I0) := by
 refine cK (φ := aQ (x).p (recs eR (x).es)) (Hv.lsl aB) ?_
 refine aU Tryz.func135 rfl Tryz.ntmps135 rfl ?_
 repeat (refine aK ?_)
 (refine aW (cs := recs eL []) ([]) rfl rfl (by intro v hv; repeat (first | exact absurd hv (List.not_mem_nil) | (rcases List.mem_cons.1 hv with rfl | hv; · rfl))) (by omega) rfl rfl rfl ?_; intro bo; refine ⟨okF, ?_⟩; refine fO (mm := 0) 1 .here rfl (by omega) ?_)
 repeat (refine aK ?_)
 refine dK (φ := nS [] k0) Hv.nilL ?_
 refine aM [0] rfl (fun k G M I => ∃ (i : Nat) (rs : List RL) (q : Option Addr) (c : Nat), i ≤ n ∧ k = n - i ∧ rs.length = i ∧ (∀ r ∈ rs, r.es.length = 1) ∧ rs.map RL.q = (List.range i).map (fun t => [x.q.getD t 0]) ∧ G = [(3, .slice q rs.length c), (4, .int .i64 i)] ∧ M = .row q rs.length c (recs eL rs) 39 1 :: M0 ∧ I = nS rs k0 :: aQ x.p (recs eR x.es) :: I0) (n) _ _ _ aP aG aD (⟨0, [], _, _, by omega, rfl, rfl, by simp, rfl, rfl, rfl, rfl⟩) ?_
 rintro kk G M I ⟨i, rs, q, c, hi, rfl, hrl, hrc, hrq, rfl, rfl, rfl⟩
 by_cases hin : i < n
 ·obtain ⟨s, hse⟩ : ∃ s, gt x.es (i : Int) = s := ⟨_, rfl⟩
  have hv : ∀ I, nD x k0 ∈ I → Hv I (dX s k0) := fun I h => by rw [← hse]; exact Hv.lel h (by omega)
  have hqs := kE (es := x.es) (j := i) (by omega)
  rw [hse] at hqs
  repeat (refine aK ?_)
  rw [hse]
  refine iQ (φ := dX s k0) (hv _ aB) ?_
  refine iQ (φ := dB [] k0) Hv.nilR ?_
  refine iQ (φ := dB ([] ++ [s]) k0) (Hv.snoc aB aB) ?_
  rw [List.nil_append]
  (refine aW (cs := recs eR [s]) ([rv s]) rfl rfl (by intro v hv; repeat (first | exact absurd hv (List.not_mem_nil) | (rcases List.mem_cons.1 hv with rfl | hv; · rfl))) (by omega) rfl rfl rfl ?_; intro b; refine ⟨okF, ?_⟩)
  refine fO (mm := 1) 4 .here rfl (by omega) ?_
  refine aQM (es := [s]) (k := k0) aB ?_
  repeat (refine aK ?_)
  (refine aW (cs := recs eL [(⟨some ⟨b, 0, none⟩, 1, [s]⟩ : RL)]) ([lv (⟨some ⟨b, 0, none⟩, 1, [s]⟩ : RL)]) rfl rfl (by intro v hv; repeat (first | exact absurd hv (List.not_mem_nil) | (rcases List.mem_cons.1 hv with rfl | hv; · rfl))) (by omega) rfl rfl rfl ?_; intro b2; refine ⟨okF, ?_⟩)
  (refine dD (ys := [(⟨some ⟨b, 0, none⟩, 1, [s]⟩ : RL)]) 1 rfl rfl rfl ?_ (by decide) rfl (by omega) (by omega) rfl rfl ?_; (· first | exact Src.blk aB | exact Src.row aB | exact Src.imm aB (by first | assumption | exact .inl (Ok.mk _ _))); intro q2 c2; refine ⟨okF, ?_⟩)
  repeat (refine aK ?_)
  refine gP (φ := nS (rs ++ [(⟨some ⟨b, 0, none⟩, 1, [s]⟩ : RL)]) k0) (Hv.snocL aB aB) ?_
  refine aJ (n - (i + 1)) _ _ _ (by first | omega | (simp only [List.length_append, List.length_cons, List.length_nil]; omega)) aP aG aD (⟨i + 1, rs ++ [(⟨some ⟨b, 0, none⟩, 1, [s]⟩ : RL)], q2, c2, by omega, rfl, by simp [hrl], fun r hr => ?_, ?_, rfl, rfl, rfl⟩)
  ·rcases List.mem_append.1 hr with h | h
   ·exact hrc r h
   ·rw [List.mem_singleton.1 h]; rfl
  ·rw [yT, hrq, List.range_succ, List.map_append]
   show _ ++ [[s.q]] = _ ++ [[x.q.getD i 0]]
   rw [hqs]
 ·obtain rfl : i = n := by omega
  repeat (refine aK ?_)
  refine aCP aB ?_
  refine aF (by first | exact .inl rfl | exact .inr rfl) rfl rfl _ _ aG aD (⟨rfl, ⟨q, c, rs⟩, rfl, ?_, ⟨hrl, hrc⟩, rfl⟩)
  show rs.map RL.q = _
  rw [hrq]
  unfold wP
  apply List.map_congr_left
  intro a _
  rfl
theorem aTL {a : MX} {R C k0 : Nat} (hR : R ≤ 100) (hC : 1 ≤ C) (da : a.dim R C) (ha : fJ a k0 ∈ I0) : CD Tryz.prog 133 [mv a] X w0 M0 I0 (LQ ((List.range R).map (fun i => at2 a.q i 0)) k0 M0 I0) := by
 have lR := da.1
 refine cK (φ := aQ (a).p (recs eL (a).rows)) (Hv.xsl aB) ?_
 refine aU Tryz.func133 rfl Tryz.ntmps133 rfl ?_
 repeat (refine aK ?_)
 (refine aW (cs := recs eR []) ([]) rfl rfl (by intro v hv; repeat (first | exact absurd hv (List.not_mem_nil) | (rcases List.mem_cons.1 hv with rfl | hv; · rfl))) (by omega) rfl rfl rfl ?_; intro bo; refine ⟨okF, ?_⟩; refine fO (mm := 0) 4 .here rfl (by omega) ?_)
 repeat (refine aK ?_)
 refine dK (φ := dB [] k0) Hv.nilR ?_
 refine aM [0] rfl (fun k G M I => ∃ (i : Nat) (es : List RE) (q : Option Addr) (c : Nat), i ≤ R ∧ k = R - i ∧ es.length = i ∧ qs es = (List.range i).map (fun i => at2 a.q i 0) ∧ G = [(3, .slice q es.length c), (4, .int .i64 i)] ∧ M = .row q es.length c (recs eR es) 37 4 :: M0 ∧ I = dB es k0 :: aQ a.p (recs eL a.rows) :: I0) (R) _ _ _ aP aG aD (⟨0, [], _, _, by omega, rfl, rfl, rfl, rfl, rfl, rfl⟩) ?_
 rintro kk G M I ⟨i, es, q, c, hi, rfl, hel, heq, rfl, rfl, rfl⟩
 by_cases hiR : i < R
 ·have hra := da.row hiR
  refine dK (φ := aQ (gt (a).rows (i : Int)).p (recs eR (gt (a).rows (i : Int)).es)) (Hv.xrsl aB (by omega)) ?_
  obtain ⟨s, hse⟩ : ∃ s, gt (gt a.rows (i : Int)).es 0 = s := ⟨_, rfl⟩
  have hv : ∀ I, fJ a k0 ∈ I → Hv I (dX s k0) := fun I h => by rw [← hse]; exact Hv.xel h (by omega) (by omega)
  have hat : at2 a.q i 0 = s.q := by rw [← hse]; exact sN (m := a) (i := i) (j := 0) (by omega) (by omega)
  repeat (refine aK ?_)
  rw [hse]
  refine iQ (φ := dX s k0) (hv _ aB) ?_
  (refine aW (cs := recs eR [s]) ([rv s]) rfl rfl (by intro v hv; repeat (first | exact absurd hv (List.not_mem_nil) | (rcases List.mem_cons.1 hv with rfl | hv; · rfl))) (by omega) rfl rfl rfl ?_; intro b; refine ⟨okF, ?_⟩)
  (refine dD (ys := [s]) 1 rfl rfl rfl ?_ (by decide) rfl (by omega) (by omega) rfl rfl ?_; (· first | exact Src.blk aB | exact Src.row aB | exact Src.imm aB (by first | assumption | exact .inl (Ok.mk _ _))); intro q2 c2; refine ⟨okF, ?_⟩)
  repeat (refine aK ?_)
  refine gP (φ := dB (es ++ [s]) k0) (Hv.snoc aB aB) ?_
  refine aJ (R - (i + 1)) _ _ _ (by first | omega | (simp only [List.length_append, List.length_cons, List.length_nil]; omega)) aP aG aD (⟨i + 1, es ++ [s], q2, c2, by omega, rfl, by simp; omega, ?_, rfl, rfl, rfl⟩)
  show (es ++ [s]).map RE.q = _
  rw [List.map_append, List.range_succ, List.map_append, ← heq]
  show qs es ++ [s.q] = qs es ++ [at2 a.q i 0]
  rw [hat]
 ·obtain rfl : i = R := by omega
  repeat (refine aK ?_)
  refine aKP aB ?_
  refine aF (by first | exact .inl rfl | exact .inr rfl) rfl rfl _ _ aG aD (⟨rfl, ⟨q, c, es⟩, rfl, heq, rfl⟩)
theorem aKO {a : MX} {x : RL} {R C k0 m : Nat} (hk : k0 + m ≤ 20000000000) (hKK : C * (k0 + m + 1) ≤ 50000000000) (hR : 1 ≤ R ∧ R ≤ 64) (hC : 1 ≤ C ∧ C ≤ 64) (da : a.dim R C) (hl : x.es.length = C) (ha : fJ a k0 ∈ I0) (hx : nD x m ∈ I0) :
  CD Tryz.prog 70 [mv a, lv x] X w0 M0 I0 (LQ ((List.range R).map (fun i => sm C (fun t => at2 a.q i t * x.q.getD t 0))) (C * (k0 + m + 1)) M0 I0) := by
 have hCo := fun M0 I0 h => aOB (X := X) (w0 := w0) (M0 := M0) (I0 := I0) (x := x) (n := C) (k0 := m) (by omega) hl h
 have hMu := fun (y : MX) (hy : y.dim C 1) M0 I0 h1 h2 => CD_ms (aPL (X := X) (w0 := w0) (M0 := M0) (I0 := I0) (a := a) (b := y) (R := R) (C := C) (D := 1) (k0 := k0) (m := m) hk hKK hR hC (by omega) da hy h1 h2)
 have hFi := fun (y : MX) (hy : y.dim R 1) M0 I0 h1 => aTL (X := X) (w0 := w0) (M0 := M0) (I0 := I0) (a := y) (R := R) (C := 1) (k0 := C * (k0 + m + 1)) (by omega) (by omega) hy h1
 refine bF Tryz.func70 rfl Tryz.ntmps70 rfl ?_
 repeat (refine aK ?_)
 (refine aA rfl (hCo _ _ aB) rfl rfl ?_; rintro _ _ _ ⟨rfl, y, rfl, hy, hyd, rfl⟩; refine ⟨okF, ?_⟩)
 (refine aA rfl (hMu y hyd _ _ aB aB) rfl rfl ?_; rintro _ _ _ ⟨rfl, z, rfl, hz, hzd, rfl⟩; refine ⟨okF, ?_⟩)
 (refine aA rfl (hFi z hzd _ _ aB) rfl rfl ?_; rintro _ _ _ ⟨rfl, r, rfl, hr, rfl⟩; refine ⟨okF, ?_⟩)
 repeat (refine aK ?_)
 refine aF (by first | exact .inl rfl | exact .inr rfl) rfl rfl _ _ aG aD (⟨rfl, r, rfl, ?_, rfl⟩)
 rw [hr]
 apply List.map_congr_left
 intro i hi
 rw [hz, yX (List.mem_range.1 hi) (by omega)]
 exact bE (fun t ht => by rw [hy, yX ht (by omega)])
theorem aOF {a : MX} {x : RL} {R C k0 m : Nat} (hk : k0 + m ≤ 700000000) (hm : m ≤ 600000000) (hR : 1 ≤ R ∧ R ≤ 64) (hC : 1 ≤ C ∧ C ≤ 64) (da : a.dim R C) (hl : x.es.length = C) (ha : fJ a k0 ∈ I0) (hx : nD x m ∈ I0) :
  CD Tryz.prog 70 [mv a, lv x] X w0 M0 I0 (LQ ((List.range R).map (fun i => sm C (fun t => at2 a.q i t * x.q.getD t 0))) (C * (k0 + m + 1)) M0 I0) := aKO (by omega) (le_kc hC.2 hk) hR hC da hl ha hx
end
end Go.Proofs.YtkccjglmnhgabaaGreat
namespace Go.Proofs.YtkccjglmnhgabaaGreat
open Go Go.Fx
def besI (n : Nat) (A : Mt) : Mt := wP n (n + n) (fun i j => if j < n then at2 A i j else pE i (j - n))
def invM (n : Nat) (A : Mt) : Mt := wP n n (fun i j => at2 (iN (besI n A) n).1 i (n + j))
section
variable {X : List Nat} {w0 : World} {M0 : List Ent} {I0 : List aZ}
end
end Go.Proofs.YtkccjglmnhgabaaGreat
namespace Go.Proofs.YtkccjglmnhgabaaGreat
open Go Go.Fx
structure IL where
 p : Option Addr
 c : Nat
 xs : List Int
instance : Inhabited IL := ⟨⟨none, 0, []⟩⟩
abbrev eIL (r : IL) : List Value := [.slice r.p r.xs.length r.c]
abbrev ivL (r : IL) : Value := .slice r.p r.xs.length r.c
instance : Sized eIL 1 := ⟨fun _ => rfl⟩
instance : Ones eIL := ⟨fun m u hu => by simp only [eIL, List.mem_cons, List.not_mem_nil, or_false] at hu; subst hu; rfl⟩
/- ---------- IndexFunc, ContainsFunc of [][]int ---------- -/
section
variable {X : List Nat} {w0 : World} {M0 : List Ent} {I0 : List aZ}
end
section
variable {X : List Nat} {w0 : World} {M0 : List Ent} {I0 : List aZ}
end
end Go.Proofs.YtkccjglmnhgabaaGreat
namespace Go.Proofs.YtkccjglmnhgabaaGreat
open Go Go.Fx
structure AllIL (rows : List IL) (X : List Nat) (w : World) : Prop where
 go : ∀ r ∈ rows, Sl X w r.p (recs (eI .i64) r.xs)
abbrev allIL (rows : List IL) : aZ := AllIL rows
instance (rows : List IL) : Fx.Good (AllIL rows) := ⟨fun X Y w w' h he hY => ⟨fun r hm => Sl.carry (h.go r hm) he hY⟩⟩
abbrev bxI (b : Nat) (q : Option Addr) (n c : Nat) : aZ := aQ (some ⟨b, 0, none⟩) [.slice q n c]
section
variable {X : List Nat} {w0 : World} {M0 : List Ent} {I0 : List aZ}
end
end Go.Proofs.YtkccjglmnhgabaaGreat
namespace Go.Proofs.YtkccjglmnhgabaaGreat
open Go Go.Fx
def kA : Mt := [[((2 : Int) : Rat), ((1 : Int) : Rat)], [((1 : Int) : Rat), ((1 : Int) : Rat)]]
def kC : Mt := [[((1 : Int) : Rat), ((-1 : Int) : Rat)], [((-1 : Int) : Rat), ((2 : Int) : Rat)]]
section
variable {X : List Nat} {w0 : World} {M0 : List Ent} {I0 : List aZ}
end
end Go.Proofs.YtkccjglmnhgabaaGreat
namespace Go.Proofs.YtkccjglmnhgabaaGreat
def rsF (f : Nat → Nat → Rat) : Nat → Nat → Nat → Rat
 | 0 => f
 | k + 1 => fun i j => if k < i ∧ k ≤ j then rsF f k i j - rsF f k i k / rsF f k k k * rsF f k k j else rsF f k i j
def bk (f : Nat → Nat → Rat) (k : Nat) : Nat → Nat → Rat := fun a b => rsF f k (a + k) (b + k)
def pvs (f : Nat → Nat → Rat) : Nat → Rat
 | 0 => 1
 | k + 1 => pvs f k * bk f k 0 0
def qf (f : Nat → Nat → Rat) (v : Nat → Rat) (n k : Nat) : Rat := sm (n - k) (fun a => sm (n - k) (fun b => bk f k a b * v (a + k) * v (b + k)))
def yk (f : Nat → Nat → Rat) (v : Nat → Rat) (n k : Nat) : Rat := v k + sm (n - (k + 1)) (fun a => bk f k (a + 1) 0 / bk f k 0 0 * v (a + (k + 1)))
end Go.Proofs.YtkccjglmnhgabaaGreat
namespace Go.Proofs.YtkccjglmnhgabaaGreat
open Go Go.Fx
def qfr (A : Mt) (v : List Rat) (n : Nat) : Rat := sm n (fun t => v.getD t 0 * sm n (fun j => at2 A t j * v.getD j 0))
section
variable {X : List Nat} {w0 : World} {M0 : List Ent} {I0 : List aZ}
theorem aJF {x : RL} {k : Nat} (hk : k ≤ 100000000000) (lx : x.es.length ≤ 1000) (hx : nD x k ∈ I0) :
  CD Tryz.prog 69 [lv x] X w0 M0 I0 (fun v M I => M0 = M ∧ I0 = I ∧ v = .bool (B (¬ aCT x.q))) := by
 refine cK (φ := aQ (x).p (recs eR (x).es)) (Hv.lsl aB) ?_
 refine aU Tryz.func69 rfl Tryz.ntmps69 rfl ?_
 repeat (refine aK ?_)
 refine aM [0] rfl (fun k G M I => ∃ i : Nat, i ≤ x.es.length ∧ k = x.es.length - i ∧ (∀ j : Nat, j < i → (gt x.es (j : Int)).q = 0) ∧ G = [(3, .int .i64 i)] ∧ M0 = M ∧ I = aQ x.p (recs eR x.es) :: I0) (x.es.length) _ _ _ aP aG aD (⟨0, by omega, rfl, fun j hj => by omega, rfl, rfl, rfl⟩) ?_
 rintro kk G M I ⟨i, hi, rfl, hs, rfl, rfl, rfl⟩
 by_cases hi2 : i < x.es.length
 ·have hS := fun M0 I0 h1 => pU (X := X) (w0 := w0) (M0 := M0) (I0 := I0) (e := gt x.es (i : Int)) (k := k) hk h1
  by_cases he : (gt x.es (i : Int)).q = 0
  ·rw [(kP _).2 he] at hS
   repeat (refine aK ?_)
   (refine aA rfl (hS _ _ (Hv.lel aB (by omega))) rfl rfl ?_; rintro _ _ _ ⟨rfl, rfl, rfl⟩; refine ⟨okF, ?_⟩)
   repeat (refine aK ?_)
   refine aJ (x.es.length - (i + 1)) _ _ _ (by first | omega | (simp only [List.length_append, List.length_cons, List.length_nil]; omega)) aP aG aD (⟨i + 1, by omega, rfl, fun j hj => ?_, rfl, rfl, rfl⟩)
   by_cases e : j = i
   ·subst e; exact he
   ·exact hs j (by omega)
  ·have hs0 : ¬ (gt x.es (i : Int)).q.num.sign = 0 := fun h => he ((kP _).1 h)
   generalize hsg : (gt x.es (i : Int)).q.num.sign = sg at *
   repeat (refine aK ?_)
   (refine aA rfl (hS _ _ (Hv.lel aB (by omega))) rfl rfl ?_; rintro _ _ _ ⟨rfl, rfl, rfl⟩; refine ⟨okF, ?_⟩)
   repeat (refine aK ?_)
   refine aF (by first | exact .inl rfl | exact .inr rfl) rfl rfl _ _ aG aD (⟨rfl, rfl, congrArg Value.bool (bB (p := ¬ aCT x.q) (fun e => he (e _ (List.mem_map.2 ⟨_, dP (ms := x.es) (i := (i : Int)) (by omega), rfl⟩)))).symm⟩)
 ·repeat (refine aK ?_)
  refine aF (by first | exact .inl rfl | exact .inr rfl) rfl rfl _ _ aG aD (⟨rfl, rfl, congrArg Value.bool (aX (p := ¬ aCT x.q) (fun e => e (fun q hq => ?_))).symm⟩)
  obtain ⟨r, hr, rfl⟩ := List.mem_map.1 hq
  obtain ⟨j, hj, rfl⟩ := List.mem_iff_getElem.1 hr
  have := hs j (by omega)
  rwa [dM hj] at this
end
end Go.Proofs.YtkccjglmnhgabaaGreat
namespace Go.Fx
open Go.ChangeShapes Go.WideShapes Go.RowKit Go.ChangeAt
section
variable {H : Type} {enc : TypeId × Value → H} {P : Program} {W : World}
theorem aIH {sz : Nat} : ∀ (rows : List (List Value)) (k : Nat) (v : Value), (∀ r ∈ rows, r.length = sz) → rows.flatten[k]? = some v → ∃ i row, rows[i]? = some row ∧ i * sz ≤ k ∧ row[k - i * sz]? = some v
 | [], k, v, _, h => by simp at h
 | r :: rows, k, v, hr, h => by
  rw [List.flatten_cons] at h
  have hl := hr r (by simp)
  by_cases hk : k < r.length
  ·rw [List.getElem?_append_left hk] at h
   exact ⟨0, r, by simp, by omega, by simpa using h⟩
  ·rw [List.getElem?_append_right (by omega)] at h
   obtain ⟨i, row, h1, h2, h3⟩ := aIH rows _ v (fun r' hr' => hr r' (by simp [hr'])) h
   refine ⟨i + 1, row, by simpa using h1, by rw [Nat.add_mul]; omega, ?_⟩
   rw [← h3]
   congr 1
   rw [Nat.add_mul]; omega
theorem aLE {t : TypeId} {k : IntKind} {n : Nat} {cs : List Value} {y : DataW H × List MemPlace} (ht : P.underlying t = some (.int k)) (h : DataW.trod enc P W 0 (fun _ => true) true n t cs = some y) : ∃ x : Int, cs = [.int k x] ∧ (Lit.int k x).wf = true := by
 obtain ⟨m, h1, _, h2⟩ := DataW.trod_int ht h
 exact ⟨m, h1, h2⟩
end
end Go.Fx
namespace Go.Proofs.YtkccjglmnhgabaaGreat
open Go Go.Fx
open Go.ChangeShapes Go.WideShapes Go.RowKit Go.ChangeAt
section
variable {H : Type} {enc : TypeId × Value → H} {P : Program} {W : World}
end
section
variable {H : Type} {enc : TypeId × Value → H} {W : World}
end
end Go.Proofs.YtkccjglmnhgabaaGreat
namespace Go.Proofs.YtkccjglmnhgabaaGreat
open Go Go.Fx
open Go.ChangeShapes Go.WideShapes Go.RowKit Go.ChangeAt
def RW.reach (r : RW) : Prop := r.g1.length ≤ 35184372088832 ∧ r.g2.length ≤ 35184372088832
section
variable {H : Type} {enc : TypeId × Value → H} {P : Program} {W : World}
end
end Go.Proofs.YtkccjglmnhgabaaGreat
