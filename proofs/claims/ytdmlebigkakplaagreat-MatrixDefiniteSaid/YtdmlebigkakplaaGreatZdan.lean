/- The document's product, transposed matrix, product with a list. matrix.Inverse. -/
import Derived.Test.YtdmlebigkakplaaGreatZdam
import Derived.Test.YtdmlebigkakplaaGreatZdae
import Derived.Test.YtdmlebigkakplaaGreatZdai
import Derived.Test.YtdmlebigkakplaaGreatZdaa
set_option linter.unusedSimpArgs false
set_option linter.unusedVariables false
namespace Go.Proofs.YtdmlebigkakplaaGreat
open Go Go.Fx
section
variable {X : List Nat} {w0 : World} {M0 : List Ent} {I0 : List Imm}
set_option maxRecDepth 100000 in
set_option maxHeartbeats 2000000 in
theorem rMul_own {a b : MX} {R C D k0 m : Nat} (hk : k0 + m ≤ 700000) (hm : m ≤ 600000) (hR : 1 ≤ R ∧ R ≤ 64) (hC : 1 ≤ C ∧ C ≤ 64) (hD : 1 ≤ D ∧ D ≤ 64) (da : a.dim R C) (db : b.dim C D) (ha : isX a k0 ∈ I0) (hb : isX b m ∈ I0) :
    CD Tryz.prog 74 [mv a, mv b] X w0 M0 I0 (MsP R D (fun i j => sm C (fun t => at2 a.q i t * at2 b.q t j)) (C * (k0 + m + 1)) M0 I0) := by
  have lR := da.1
  have lC := db.1
  have lD : (gt b.rows 0).es.length = D := db.row (i := 0) (by omega)
  have hKK : C * (k0 + m + 1) ≤ 50000000 := Nat.le_trans (Nat.mul_le_mul hC.2 (show k0 + m + 1 ≤ 700001 by omega)) (by decide)
  have hW := fun M0 I0 => rWhole05_ok (X := X) (w0 := w0) (M0 := M0) (I0 := I0) (x := 0) (by decide)
  obtain ⟨K, hK⟩ : ∃ K, K = C * (k0 + m + 1) := ⟨_, rfl⟩
  rw [← hK] at hKK ⊢
  refine CD_hv (φ := slI (a).p (recs eL (a).rows)) (Hv.xsl memF) ?_
  refine CD_hv (φ := slI (b).p (recs eL (b).rows)) (Hv.xsl memF) ?_
  refine enterD2 Tryz.func74 rfl Tryz.ntmps74 rfl ?_
  repeat (refine wXh ?_)
  rw [lR, lD]
  (refine RD_callS rfl (Zeros_ok (R := R) (C := D) (by omega) (by omega)) rfl rfl ?_; rintro _ _ _ ⟨bo, co, tlo, rows0, rfl, hco, hs0, hp0, rfl, rfl⟩; refine ⟨okF, ?_⟩)
  repeat (refine wXh ?_)
  refine TD_hv (φ := allS rows0 K) (Hv.monoS (k := 0) (List.Mem.head _) (by omega)) ?_
  refine TD_loop [0, 1, 5] rfl (fun k G M I => ∃ (i : Nat) (rows : List MS), i ≤ R ∧ k = R - i ∧ Shp rows R D ∧ Pw rows R D (fun x y => if x < i then sm C (fun t => at2 a.q x t * at2 b.q t y) else 0) ∧ G = [(6, .int .i64 i)] ∧ M = .blk bo (recs eS rows ++ tlo) 61 :: (rows.map entS ++ M0) ∧ I = allS rows K :: slI b.p (recs eL b.rows) :: slI a.p (recs eL a.rows) :: I0) (R) _ _ _ subG subF incF (⟨0, rows0, by omega, rfl, hs0, fun x y hx hy => by (have h_ := hp0 x y hx hy; dsimp only at h_ ⊢; rw [h_, if_neg (by omega)]), rfl, rfl, rfl⟩) ?_
  rintro kk G M I ⟨i, rows, hi, rfl, hs, hp, rfl, rfl, rfl⟩
  by_cases hiR : i < R
  · have hra := da.row hiR
    refine TD_hv (φ := slI (gt (a).rows (i : Int)).p (recs eR (gt (a).rows (i : Int)).es)) (Hv.xrsl memF (by omega)) ?_
    have hp_ : Pw rows R D (fun x y => if x < i ∨ (x = i ∧ y < 0) then sm C (fun t => at2 a.q x t * at2 b.q t y) else 0) := fun x y hx hy => by
      have h_ := hp x y hx hy
      dsimp only at h_ ⊢
      rw [h_]
      by_cases e : x < i
      · rw [if_pos e, if_pos (.inl e)]
      · rw [if_neg e, if_neg (by omega)]
    repeat (refine wXh ?_)
    refine TD_loop [0, 1, 5, 6] rfl (fun k G M I => ∃ (j : Nat) (rows : List MS), j ≤ D ∧ k = D - j ∧ Shp rows R D ∧ Pw rows R D (fun x y => if x < i ∨ (x = i ∧ y < j) then sm C (fun t => at2 a.q x t * at2 b.q t y) else 0) ∧ G = [(7, .int .i64 j)] ∧ M = .blk bo (recs eS rows ++ tlo) 61 :: (rows.map entS ++ M0) ∧ I = allS rows K :: slI (gt a.rows (i : Int)).p (recs eR (gt a.rows (i : Int)).es) :: slI b.p (recs eL b.rows) :: slI a.p (recs eL a.rows) :: I0) (D) _ _ _ subG subF incF (⟨0, rows, by omega, rfl, hs, hp_, rfl, rfl, rfl⟩) ?_
    rintro kk G M I ⟨j, rows1, hj, rfl, hs1, hp1, rfl, rfl, rfl⟩
    have hlen := hs1.len
    by_cases hjD : j < D
    · have hrow := hs1.row hiR
      repeat (refine wXh ?_)
      (refine RD_callS rfl (hW _ _) rfl rfl ?_; rintro _ _ _ ⟨rfl, z0, rfl, hz0, rfl⟩; refine ⟨okF, ?_⟩)
      repeat (refine wXh ?_)
      (refine RD_alloc rfl rfl ?_; intro b8; refine ⟨okF, ?_⟩)
      repeat (refine wXh ?_)
      refine TD_loop [0, 1, 5, 6, 7, 8] rfl (fun k G M I => ∃ (t : Nat) (s : RE), t ≤ C ∧ k = C - t ∧ s.q = sm t (fun t => at2 a.q i t * at2 b.q t j) ∧ G = [(9, .int .i64 t)] ∧ M = .blk b8 (eR s) 26 :: .blk bo (recs eS rows1 ++ tlo) 61 :: (rows1.map entS ++ M0) ∧ I = isR s (t * (k0 + m + 1)) :: allS rows1 K :: slI (gt a.rows (i : Int)).p (recs eR (gt a.rows (i : Int)).es) :: slI b.p (recs eL b.rows) :: slI a.p (recs eL a.rows) :: I0) (C) _ _ _ subG subF incF (⟨0, z0, by omega, rfl, hz0, rfl, rfl, by rw [Nat.zero_mul]⟩) ?_
      rintro kk G M I ⟨t, s, ht, rfl, hsq, rfl, rfl, rfl⟩
      have hu : t * (k0 + m + 1) ≤ K := by rw [hK]; exact Nat.mul_le_mul_right _ ht
      by_cases htC : t < C
      · have hu2 : (t + 1) * (k0 + m + 1) = t * (k0 + m + 1) + (k0 + m) + 1 := by rw [Nat.succ_mul]; omega
        have hrb := db.row htC
        have hat := at2_q (m := a) (i := i) (j := t) (by omega) (by omega)
        have hat2 := at2_q (m := b) (i := t) (j := j) (by omega) (by omega)
        refine TD_hv (φ := slI (gt (b).rows (t : Int)).p (recs eR (gt (b).rows (t : Int)).es)) (Hv.xrsl memF (by omega)) ?_
        have hu3 : (t + 1) * (k0 + m + 1) ≤ K := by rw [hK]; exact Nat.mul_le_mul_right _ htC
        generalize t * (k0 + m + 1) = u at *
        repeat (refine wXh ?_)
        (repeat refine TD_seq ?_); refine TD_drawnJ 2 [0, 1, 2, 3, 4, 5, 6, 7, 8, 9, 10, 11, 12, 13, 14, 15, 16, 17] [1, 2, 2, 2, 2, 2, 2, 1, 2, 2, 2, 2, 2, 2, 1, 0, 0, 0] mixed (by kernel_rfl) ?_
        repeat (refine wXh ?_)
        (refine RD_callS rfl (rQMul_ok (k := k0) (m := m) (by omega) (Hv.xel memF (by omega) (by omega)) (Hv.xel memF (by omega) (by omega))) rfl rfl ?_; rintro _ _ _ ⟨rfl, e1, rfl, he1, rfl⟩; refine ⟨okF, ?_⟩)
        (refine RD_callS rfl (rQAdd_ok (k := u) (m := k0 + m) (by omega) (Hv.mem memF) (Hv.mem memF)) rfl rfl ?_; rintro _ _ _ ⟨rfl, e2, rfl, he2, rfl⟩; refine ⟨okF, ?_⟩)
        repeat (refine wXh ?_)
        rw [← hu2]
        refine ND_again (C - (t + 1)) _ _ _ (by first | omega | (simp only [List.length_append, List.length_cons, List.length_nil]; omega)) subG subF incF (⟨t + 1, e2, by omega, rfl, ?_, rfl, rfl, rfl⟩)
        simp only [sm]
        rw [he2, he1, hsq, hat, hat2]
      · obtain rfl : t = C := by omega
        repeat (refine wXh ?_)
        (repeat refine TD_seq ?_); refine TD_drawnJ 0 [0, 1, 2, 3, 4, 5, 6, 7] [0, 0, 0, 0, 0, 0, 0, 0] mixed (by kernel_rfl) ?_
        repeat' (first | refine TD_seq ?_ | refine TD_region ?_ | refine TD_ret ?_ | refine TD_skip ?_ | refine TD_label ?_ | refine TD_block ?_ | refine TD_exit ?_ | refine ND_then ?_ | refine ND_thenR ?_ | refine ND_thenE ?_ | refine ND_inN ?_ | refine ND_inR ?_ | refine ND_inE ?_ | refine ND_inO rfl ?_ | refine RD_nil ?_ | (refine RD_isGu ?_; first | refine RD_skip rfl rfl rfl ?_ | (refine RD_isEf rfl rfl ?_; refine RD_skipE rfl rfl rfl okF ?_) | refine RD_grdY rfl rfl (by omega) ?_ | refine RD_grdN rfl rfl (by omega) ?_ | refine RD_grd rfl rfl (fun h => ?_) (fun h => ?_) | (fail_if_success (refine RD_isW rfl ?_); refine RD_grdB rfl rfl (fun h => ?_) (fun h => ?_))) | (refine RD_isUn ?_; refine RD_c rfl (fun _ => Const_notB rfl) rfl rfl ?_) | refine RD_c rfl (fun _ => Const_pure rfl) rfl rfl ?_ | (refine RD_isBi ?_; first | refine RD_c rfl (fun _ => Const_add rfl rfl wF) rfl rfl ?_ | refine RD_c rfl (fun _ => Const_sub rfl rfl wF) rfl rfl ?_ | refine RD_c rfl (fun _ => Const_mul rfl rfl wF) rfl rfl ?_ | refine RD_c rfl (fun _ => Const_quo rfl rfl (by omega) qF) rfl rfl ?_ | refine RD_c rfl (fun _ => Const_rem rfl rfl (by omega) rfl) rfl rfl ?_ | refine RD_c rfl (fun _ => Const_half rfl rfl) rfl rfl ?_ | refine RD_c rfl (fun _ => Const_eqBB rfl rfl) rfl rfl ?_ | refine RD_c rfl (fun _ => Const_neBB rfl rfl) rfl rfl ?_ | refine RD_c rfl (fun _ => Const_eqB rfl rfl) rfl rfl ?_ | refine RD_c rfl (fun _ => Const_neB rfl rfl) rfl rfl ?_) | (refine RD_isUn ?_; first | refine RD_c rfl (fun _ => Const_neg rfl wF) rfl rfl ?_) | (refine RD_isCv ?_; first | refine RD_c rfl (fun _ => Const_conv rfl wF) rfl rfl ?_) | (refine RD_isCa ?_; first | refine RD_c rfl (fun _ => Const_len rfl) rfl rfl ?_ | refine RD_c rfl (fun _ => Const_minM rfl rfl) rfl rfl ?_ | refine RD_c rfl (fun _ => Const_maxM rfl rfl) rfl rfl ?_ | refine RD_c rfl (fun _ => Const_min3 rfl rfl rfl) rfl rfl ?_) | (refine RD_isFa ?_; first | refine RD_fldP rfl (by decide) rfl rfl ?_ | refine RD_fld rfl (by decide) rfl rfl ?_) | (refine RD_isIx ?_; first | refine RD_ixB rfl rfl bdI rfl rfl ?_ | refine RD_ixI vwF rfl rfl bdI memF posC rfl rfl ?_ | refine RD_ixR vwF rfl rfl bdI memF posC rfl rfl ?_ | refine RD_c rfl (fun _ => Const_indexA rfl rfl bdI) rfl rfl ?_) | (refine RD_isLd ?_; first | (apply RD_ldZB; exact vwF; exact rfl; (focus ((repeat (first | with_reducible exact List.mem_cons_self | with_reducible assumption | with_reducible refine List.mem_cons_of_mem _ ?_)); done)); exact atY; exact rfl; exact rfl) | (apply RD_ldZIB; exact vwF; exact rfl; (focus ((repeat (first | with_reducible exact List.mem_cons_self | with_reducible assumption | with_reducible refine List.mem_cons_of_mem _ ?_)); done)); exact atY; exact rfl; exact rfl) | (apply RD_ldZI; exact vwF; exact rfl; (focus ((repeat (first | with_reducible exact List.mem_cons_self | with_reducible assumption | with_reducible refine List.mem_cons_of_mem _ ?_)); done)); exact atY; exact rfl; exact rfl) | (apply RD_ldZR; exact vwF; exact rfl; (focus ((repeat (first | with_reducible exact List.mem_cons_self | with_reducible assumption | with_reducible refine List.mem_cons_of_mem _ ?_)); done)); exact atY; exact rfl; exact rfl) | (apply RD_ldB; exact vwF; exact rfl; (focus ((repeat (first | with_reducible exact List.mem_cons_self | with_reducible assumption | with_reducible refine List.mem_cons_of_mem _ ?_)); done)); exact atF; exact rfl; exact rfl) | (apply RD_ldIB; exact vwF; exact rfl; (focus ((repeat (first | with_reducible exact List.mem_cons_self | with_reducible assumption | with_reducible refine List.mem_cons_of_mem _ ?_)); done)); exact atF; exact rfl; exact rfl) | (apply RD_ldI; exact vwF; exact rfl; (focus ((repeat (first | with_reducible exact List.mem_cons_self | with_reducible assumption | with_reducible refine List.mem_cons_of_mem _ ?_)); done)); exact atF; exact rfl; exact rfl) | (apply RD_ldR; exact vwF; exact rfl; (focus ((repeat (first | with_reducible exact List.mem_cons_self | with_reducible assumption | with_reducible refine List.mem_cons_of_mem _ ?_)); done)); exact atF; exact rfl; exact rfl)) | (refine RD_isFd ?_; first | refine RD_c rfl (fun _ => Const_field1 rfl rfl) rfl rfl ?_ | refine RD_c rfl (fun _ => Const_fieldN rfl) rfl rfl ?_) | (refine TD_isCo ?_; first | refine TD_cond_true rfl ?_ | refine TD_cond_false rfl ?_ | refine TD_yes rfl (by omega) ?_ | refine TD_no rfl (by omega) ?_ | refine TD_dec rfl (fun h => ?_) (fun h => ?_) | refine TD_cond rfl (fun h => ?_) (fun h => ?_)))
        refine RD_stN (vs := eR s) rfl rfl rfl (Ones.one s) (repS2 (rows := rows1) (i := i) (r' := upR (gt rows1 (i : Int)) j s) (by omega)) (StAts.app (StAts.r (enc := eR) (ms := (gt rows1 (i : Int)).es) (i := (j : Int)) s (by omega) rfl)) rfl rfl ⟨okF, ?_⟩
        rw [upS_def]
        refine RD_hv (φ := isR s K) (Hv.q (k := t * (k0 + m + 1)) memF hu) ?_
        refine RD_hv (φ := allS (upS rows1 i j s) K) (Hv.upS hs1 hiR memF memF) ?_
        rw [← recs_upS (i := i) (j := j) (e := s) hs1 hiR]
        repeat (refine wXh ?_)
        refine ND_again (D - (j + 1)) _ _ _ (by first | omega | (simp only [List.length_append, List.length_cons, List.length_nil]; omega)) subG subF incF (⟨j + 1, upS rows1 i j s, by omega, rfl, hs1.up hiR, hp1.up hs1 hiR hjD (fun x y hx hy => ?_), rfl, rfl, rfl⟩)
        try dsimp only
        by_cases e1 : x = i ∧ y = j
        · rw [if_pos e1, if_pos (by omega), hsq, e1.1, e1.2]
        · rw [if_neg e1]
          by_cases e2 : x < i ∨ (x = i ∧ y < j)
          · rw [if_pos e2, if_pos (by omega)]
          · rw [if_neg e2, if_neg (by omega)]
    · obtain rfl : j = D := by omega
      repeat (refine wXh ?_)
      refine ND_again (R - (i + 1)) _ _ _ (by first | omega | (simp only [List.length_append, List.length_cons, List.length_nil]; omega)) subG subF incF (⟨i + 1, rows1, by omega, rfl, hs1, fun x y hx hy => ?_, rfl, rfl, rfl⟩)
      have h_ := hp1 x y hx hy
      dsimp only at h_ ⊢
      rw [h_]
      by_cases e2 : x < i + 1
      · rw [if_pos e2, if_pos (by omega)]
      · rw [if_neg e2, if_neg (by omega)]
  · obtain rfl : i = R := by omega
    repeat (refine wXh ?_)
    refine ND_ret1 (by first | exact .inl rfl | exact .inr rfl) rfl rfl _ _ subF incF (⟨bo, co, tlo, rows, rfl, hco, hs, fun x y hx hy => by (have h_ := hp x y hx hy; dsimp only at h_ ⊢; rw [h_, if_pos hx]), rfl, rfl⟩)
set_option maxRecDepth 100000 in
set_option maxHeartbeats 2000000 in
theorem rTransp_own {a : MX} {R C k0 : Nat} (hR : 1 ≤ R ∧ R ≤ 64) (hC : 1 ≤ C ∧ C ≤ 64) (da : a.dim R C) (ha : isX a k0 ∈ I0) :
    CD Tryz.prog 72 [mv a] X w0 M0 I0 (MsP C R (fun i j => at2 a.q j i) k0 M0 I0) := by
  have lR := da.1
  have lC : (gt a.rows 0).es.length = C := da.row (i := 0) (by omega)
  refine CD_hv (φ := slI (a).p (recs eL (a).rows)) (Hv.xsl memF) ?_
  refine enterD1 Tryz.func72 rfl Tryz.ntmps72 rfl ?_
  repeat (refine wXh ?_)
  rw [lR, lC]
  (refine RD_callS rfl (Zeros_ok (R := C) (C := R) (by omega) (by omega)) rfl rfl ?_; rintro _ _ _ ⟨bo, co, tlo, rows0, rfl, hco, hs0, hp0, rfl, rfl⟩; refine ⟨okF, ?_⟩)
  repeat (refine wXh ?_)
  refine TD_hv (φ := allS rows0 k0) (Hv.monoS (k := 0) (List.Mem.head _) (by omega)) ?_
  refine TD_loop [0, 3] rfl (fun k G M I => ∃ (i : Nat) (rows : List MS), i ≤ R ∧ k = R - i ∧ Shp rows C R ∧ Pw rows C R (fun x y => if y < i then at2 a.q y x else 0) ∧ G = [(4, .int .i64 i)] ∧ M = .blk bo (recs eS rows ++ tlo) 61 :: (rows.map entS ++ M0) ∧ I = allS rows k0 :: slI a.p (recs eL a.rows) :: I0) (R) _ _ _ subG subF incF (⟨0, rows0, by omega, rfl, hs0, fun x y hx hy => by (have h_ := hp0 x y hx hy; dsimp only at h_ ⊢; rw [h_, if_neg (by omega)]), rfl, rfl, rfl⟩) ?_
  rintro kk G M I ⟨i, rows, hi, rfl, hs, hp, rfl, rfl, rfl⟩
  by_cases hiR : i < R
  · have hra := da.row hiR
    refine TD_hv (φ := slI (gt (a).rows (i : Int)).p (recs eR (gt (a).rows (i : Int)).es)) (Hv.xrsl memF (by omega)) ?_
    have hp_ : Pw rows C R (fun x y => if y < i ∨ (y = i ∧ x < 0) then at2 a.q y x else 0) := fun x y hx hy => by
      have h_ := hp x y hx hy
      dsimp only at h_ ⊢
      rw [h_]
      by_cases e : y < i
      · rw [if_pos e, if_pos (.inl e)]
      · rw [if_neg e, if_neg (by omega)]
    repeat (refine wXh ?_)
    refine TD_loop [0, 3, 4] rfl (fun k G M I => ∃ (j : Nat) (rows : List MS), j ≤ C ∧ k = C - j ∧ Shp rows C R ∧ Pw rows C R (fun x y => if y < i ∨ (y = i ∧ x < j) then at2 a.q y x else 0) ∧ G = [(5, .int .i64 j)] ∧ M = .blk bo (recs eS rows ++ tlo) 61 :: (rows.map entS ++ M0) ∧ I = allS rows k0 :: slI (gt a.rows (i : Int)).p (recs eR (gt a.rows (i : Int)).es) :: slI a.p (recs eL a.rows) :: I0) (C) _ _ _ subG subF incF (⟨0, rows, by omega, rfl, hs, hp_, rfl, rfl, rfl⟩) ?_
    rintro kk G M I ⟨j, rows1, hj, rfl, hs1, hp1, rfl, rfl, rfl⟩
    have hlen := hs1.len
    by_cases hjC : j < C
    · have hrow := hs1.row hjC
      have hat := at2_q (m := a) (i := i) (j := j) (by omega) (by omega)
      obtain ⟨s, hse⟩ : ∃ s, gt (gt a.rows (i : Int)).es (j : Int) = s := ⟨_, rfl⟩
      have hv : ∀ I, isX a k0 ∈ I → Hv I (isR s k0) := fun I h => by rw [← hse]; exact Hv.xel h (by omega) (by omega)
      repeat (refine wXh ?_)
      (repeat refine TD_seq ?_); refine TD_drawnJ 0 [0, 1, 2, 3, 4, 5, 6, 7, 8, 9, 10, 11, 12, 13] [0, 0, 0, 0, 0, 0, 0, 0, 0, 0, 0, 0, 0, 0] mixed (by kernel_rfl) ?_
      repeat' (first | refine TD_seq ?_ | refine TD_region ?_ | refine TD_ret ?_ | refine TD_skip ?_ | refine TD_label ?_ | refine TD_block ?_ | refine TD_exit ?_ | refine ND_then ?_ | refine ND_thenR ?_ | refine ND_thenE ?_ | refine ND_inN ?_ | refine ND_inR ?_ | refine ND_inE ?_ | refine ND_inO rfl ?_ | refine RD_nil ?_ | (refine RD_isGu ?_; first | refine RD_skip rfl rfl rfl ?_ | (refine RD_isEf rfl rfl ?_; refine RD_skipE rfl rfl rfl okF ?_) | refine RD_grdY rfl rfl (by omega) ?_ | refine RD_grdN rfl rfl (by omega) ?_ | refine RD_grd rfl rfl (fun h => ?_) (fun h => ?_) | (fail_if_success (refine RD_isW rfl ?_); refine RD_grdB rfl rfl (fun h => ?_) (fun h => ?_))) | (refine RD_isUn ?_; refine RD_c rfl (fun _ => Const_notB rfl) rfl rfl ?_) | refine RD_c rfl (fun _ => Const_pure rfl) rfl rfl ?_ | (refine RD_isBi ?_; first | refine RD_c rfl (fun _ => Const_add rfl rfl wF) rfl rfl ?_ | refine RD_c rfl (fun _ => Const_sub rfl rfl wF) rfl rfl ?_ | refine RD_c rfl (fun _ => Const_mul rfl rfl wF) rfl rfl ?_ | refine RD_c rfl (fun _ => Const_quo rfl rfl (by omega) qF) rfl rfl ?_ | refine RD_c rfl (fun _ => Const_rem rfl rfl (by omega) rfl) rfl rfl ?_ | refine RD_c rfl (fun _ => Const_half rfl rfl) rfl rfl ?_ | refine RD_c rfl (fun _ => Const_eqBB rfl rfl) rfl rfl ?_ | refine RD_c rfl (fun _ => Const_neBB rfl rfl) rfl rfl ?_ | refine RD_c rfl (fun _ => Const_eqB rfl rfl) rfl rfl ?_ | refine RD_c rfl (fun _ => Const_neB rfl rfl) rfl rfl ?_) | (refine RD_isUn ?_; first | refine RD_c rfl (fun _ => Const_neg rfl wF) rfl rfl ?_) | (refine RD_isCv ?_; first | refine RD_c rfl (fun _ => Const_conv rfl wF) rfl rfl ?_) | (refine RD_isCa ?_; first | refine RD_c rfl (fun _ => Const_len rfl) rfl rfl ?_ | refine RD_c rfl (fun _ => Const_minM rfl rfl) rfl rfl ?_ | refine RD_c rfl (fun _ => Const_maxM rfl rfl) rfl rfl ?_ | refine RD_c rfl (fun _ => Const_min3 rfl rfl rfl) rfl rfl ?_) | (refine RD_isFa ?_; first | refine RD_fldP rfl (by decide) rfl rfl ?_ | refine RD_fld rfl (by decide) rfl rfl ?_) | (refine RD_isIx ?_; first | refine RD_ixB rfl rfl bdI rfl rfl ?_ | refine RD_ixI vwF rfl rfl bdI memF posC rfl rfl ?_ | refine RD_ixR vwF rfl rfl bdI memF posC rfl rfl ?_ | refine RD_c rfl (fun _ => Const_indexA rfl rfl bdI) rfl rfl ?_) | (refine RD_isLd ?_; first | (apply RD_ldZB; exact vwF; exact rfl; (focus ((repeat (first | with_reducible exact List.mem_cons_self | with_reducible assumption | with_reducible refine List.mem_cons_of_mem _ ?_)); done)); exact atY; exact rfl; exact rfl) | (apply RD_ldZIB; exact vwF; exact rfl; (focus ((repeat (first | with_reducible exact List.mem_cons_self | with_reducible assumption | with_reducible refine List.mem_cons_of_mem _ ?_)); done)); exact atY; exact rfl; exact rfl) | (apply RD_ldZI; exact vwF; exact rfl; (focus ((repeat (first | with_reducible exact List.mem_cons_self | with_reducible assumption | with_reducible refine List.mem_cons_of_mem _ ?_)); done)); exact atY; exact rfl; exact rfl) | (apply RD_ldZR; exact vwF; exact rfl; (focus ((repeat (first | with_reducible exact List.mem_cons_self | with_reducible assumption | with_reducible refine List.mem_cons_of_mem _ ?_)); done)); exact atY; exact rfl; exact rfl) | (apply RD_ldB; exact vwF; exact rfl; (focus ((repeat (first | with_reducible exact List.mem_cons_self | with_reducible assumption | with_reducible refine List.mem_cons_of_mem _ ?_)); done)); exact atF; exact rfl; exact rfl) | (apply RD_ldIB; exact vwF; exact rfl; (focus ((repeat (first | with_reducible exact List.mem_cons_self | with_reducible assumption | with_reducible refine List.mem_cons_of_mem _ ?_)); done)); exact atF; exact rfl; exact rfl) | (apply RD_ldI; exact vwF; exact rfl; (focus ((repeat (first | with_reducible exact List.mem_cons_self | with_reducible assumption | with_reducible refine List.mem_cons_of_mem _ ?_)); done)); exact atF; exact rfl; exact rfl) | (apply RD_ldR; exact vwF; exact rfl; (focus ((repeat (first | with_reducible exact List.mem_cons_self | with_reducible assumption | with_reducible refine List.mem_cons_of_mem _ ?_)); done)); exact atF; exact rfl; exact rfl)) | (refine RD_isFd ?_; first | refine RD_c rfl (fun _ => Const_field1 rfl rfl) rfl rfl ?_ | refine RD_c rfl (fun _ => Const_fieldN rfl) rfl rfl ?_) | (refine TD_isCo ?_; first | refine TD_cond_true rfl ?_ | refine TD_cond_false rfl ?_ | refine TD_yes rfl (by omega) ?_ | refine TD_no rfl (by omega) ?_ | refine TD_dec rfl (fun h => ?_) (fun h => ?_) | refine TD_cond rfl (fun h => ?_) (fun h => ?_)))
      rw [hse]
      refine RD_stN (vs := eR s) rfl rfl rfl (Ones.one s) (repS (rows := rows1) (i := j) (r' := upR (gt rows1 (j : Int)) i s) (by omega)) (StAts.app (StAts.r (enc := eR) (ms := (gt rows1 (j : Int)).es) (i := (i : Int)) s (by omega) rfl)) rfl rfl ⟨okF, ?_⟩
      rw [upS_def]
      refine RD_hv (φ := isR s k0) (hv _ memF) ?_
      refine RD_hv (φ := allS (upS rows1 j i s) k0) (Hv.upS hs1 hjC memF memF) ?_
      rw [← recs_upS (i := j) (j := i) (e := s) hs1 hjC]
      repeat (refine wXh ?_)
      refine ND_again (C - (j + 1)) _ _ _ (by first | omega | (simp only [List.length_append, List.length_cons, List.length_nil]; omega)) subG subF incF (⟨j + 1, upS rows1 j i s, by omega, rfl, hs1.up hjC, hp1.up hs1 hjC hiR (fun x y hx hy => ?_), rfl, rfl, rfl⟩)
      try dsimp only
      by_cases e1 : x = j ∧ y = i
      · rw [if_pos e1, if_pos (by omega), e1.1, e1.2, hat, hse]
      · rw [if_neg e1]
        by_cases e2 : y < i ∨ (y = i ∧ x < j)
        · rw [if_pos e2, if_pos (by omega)]
        · rw [if_neg e2, if_neg (by omega)]
    · obtain rfl : j = C := by omega
      repeat (refine wXh ?_)
      refine ND_again (R - (i + 1)) _ _ _ (by first | omega | (simp only [List.length_append, List.length_cons, List.length_nil]; omega)) subG subF incF (⟨i + 1, rows1, by omega, rfl, hs1, fun x y hx hy => ?_, rfl, rfl, rfl⟩)
      have h_ := hp1 x y hx hy
      dsimp only at h_ ⊢
      rw [h_]
      by_cases e2 : y < i + 1
      · rw [if_pos e2, if_pos (by omega)]
      · rw [if_neg e2, if_neg (by omega)]
  · obtain rfl : i = R := by omega
    repeat (refine wXh ?_)
    refine ND_ret1 (by first | exact .inl rfl | exact .inr rfl) rfl rfl _ _ subF incF (⟨bo, co, tlo, rows, rfl, hco, hs, fun x y hx hy => by (have h_ := hp x y hx hy; dsimp only at h_ ⊢; rw [h_, if_pos hy]), rfl, rfl⟩)
set_option maxRecDepth 100000 in
theorem Column_ok {x : RL} {n k0 : Nat} (hn : n ≤ 100) (hl : x.es.length = n) (hx : isL x k0 ∈ I0) : CD Tryz.prog 133 [lv x] X w0 M0 I0 (XQ (mkM n 1 (fun i _ => x.q.getD i 0)) n 1 k0 M0 I0) := by
  refine CD_hv (φ := slI (x).p (recs eR (x).es)) (Hv.lsl memF) ?_
  refine enterD1 Tryz.func133 rfl Tryz.ntmps133 rfl ?_
  repeat (refine wXh ?_)
  (refine RD_vals (cs := recs eL []) ([]) rfl rfl (by intro v hv; repeat (first | exact absurd hv (List.not_mem_nil) | (rcases List.mem_cons.1 hv with rfl | hv; · rfl))) (by omega) rfl rfl rfl ?_; intro bo; refine ⟨okF, ?_⟩; refine RD_toRow (mm := 0) 1 .here rfl (by omega) ?_)
  repeat (refine wXh ?_)
  refine TD_hv (φ := allL [] k0) Hv.nilL ?_
  refine TD_loop [0] rfl (fun k G M I => ∃ (i : Nat) (rs : List RL) (q : Option Addr) (c : Nat), i ≤ n ∧ k = n - i ∧ rs.length = i ∧ (∀ r ∈ rs, r.es.length = 1) ∧ rs.map RL.q = (List.range i).map (fun t => [x.q.getD t 0]) ∧ G = [(3, .slice q rs.length c), (4, .int .i64 i)] ∧ M = .row q rs.length c (recs eL rs) 61 1 :: M0 ∧ I = allL rs k0 :: slI x.p (recs eR x.es) :: I0) (n) _ _ _ subG subF incF (⟨0, [], _, _, by omega, rfl, rfl, by simp, rfl, rfl, rfl, rfl⟩) ?_
  rintro kk G M I ⟨i, rs, q, c, hi, rfl, hrl, hrc, hrq, rfl, rfl, rfl⟩
  by_cases hin : i < n
  · obtain ⟨s, hse⟩ : ∃ s, gt x.es (i : Int) = s := ⟨_, rfl⟩
    have hv : ∀ I, isL x k0 ∈ I → Hv I (isR s k0) := fun I h => by rw [← hse]; exact Hv.lel h (by omega)
    have hqs := qs_getD (es := x.es) (j := i) (by omega)
    rw [hse] at hqs
    repeat (refine wXh ?_)
    rw [hse]
    refine RD_hv (φ := isR s k0) (hv _ memF) ?_
    refine RD_hv (φ := allR [] k0) Hv.nilR ?_
    refine RD_hv (φ := allR ([] ++ [s]) k0) (Hv.snoc memF memF) ?_
    rw [List.nil_append]
    (refine RD_vals (cs := recs eR [s]) ([rv s]) rfl rfl (by intro v hv; repeat (first | exact absurd hv (List.not_mem_nil) | (rcases List.mem_cons.1 hv with rfl | hv; · rfl))) (by omega) rfl rfl rfl ?_; intro b; refine ⟨okF, ?_⟩)
    refine RD_toRow (mm := 1) 4 .here rfl (by omega) ?_
    refine RD_toL (es := [s]) (k := k0) memF ?_
    repeat (refine wXh ?_)
    (refine RD_vals (cs := recs eL [(⟨some ⟨b, 0, none⟩, 1, [s]⟩ : RL)]) ([lv (⟨some ⟨b, 0, none⟩, 1, [s]⟩ : RL)]) rfl rfl (by intro v hv; repeat (first | exact absurd hv (List.not_mem_nil) | (rcases List.mem_cons.1 hv with rfl | hv; · rfl))) (by omega) rfl rfl rfl ?_; intro b2; refine ⟨okF, ?_⟩)
    (refine RD_appR (ys := [(⟨some ⟨b, 0, none⟩, 1, [s]⟩ : RL)]) 1 rfl rfl rfl ?_ (by decide) rfl (by omega) (by omega) rfl rfl ?_; (· first | exact Src.blk memF | exact Src.row memF | exact Src.imm memF (by first | assumption | exact .inl (Ok.mk _ _))); intro q2 c2; refine ⟨okF, ?_⟩)
    repeat (refine wXh ?_)
    refine ND_hv (φ := allL (rs ++ [(⟨some ⟨b, 0, none⟩, 1, [s]⟩ : RL)]) k0) (Hv.snocL memF memF) ?_
    refine ND_again (n - (i + 1)) _ _ _ (by first | omega | (simp only [List.length_append, List.length_cons, List.length_nil]; omega)) subG subF incF (⟨i + 1, rs ++ [(⟨some ⟨b, 0, none⟩, 1, [s]⟩ : RL)], q2, c2, by omega, rfl, by simp [hrl], fun r hr => ?_, ?_, rfl, rfl, rfl⟩)
    · rcases List.mem_append.1 hr with h | h
      · exact hrc r h
      · rw [List.mem_singleton.1 h]; rfl
    · rw [q_snoc, hrq, List.range_succ, List.map_append]
      show _ ++ [[s.q]] = _ ++ [[x.q.getD i 0]]
      rw [hqs]
  · obtain rfl : i = n := by omega
    repeat (refine wXh ?_)
    refine ND_toX memF ?_
    refine ND_ret1 (by first | exact .inl rfl | exact .inr rfl) rfl rfl _ _ subF incF (⟨rfl, ⟨q, c, rs⟩, rfl, ?_, ⟨hrl, hrc⟩, rfl⟩)
    show rs.map RL.q = _
    rw [hrq]
    unfold mkM
    apply List.map_congr_left
    intro a _
    rfl
set_option maxRecDepth 100000 in
theorem First_ok {a : MX} {R C k0 : Nat} (hR : R ≤ 100) (hC : 1 ≤ C) (da : a.dim R C) (ha : isX a k0 ∈ I0) : CD Tryz.prog 132 [mv a] X w0 M0 I0 (LQ ((List.range R).map (fun i => at2 a.q i 0)) k0 M0 I0) := by
  have lR := da.1
  refine CD_hv (φ := slI (a).p (recs eL (a).rows)) (Hv.xsl memF) ?_
  refine enterD1 Tryz.func132 rfl Tryz.ntmps132 rfl ?_
  repeat (refine wXh ?_)
  (refine RD_vals (cs := recs eR []) ([]) rfl rfl (by intro v hv; repeat (first | exact absurd hv (List.not_mem_nil) | (rcases List.mem_cons.1 hv with rfl | hv; · rfl))) (by omega) rfl rfl rfl ?_; intro bo; refine ⟨okF, ?_⟩; refine RD_toRow (mm := 0) 4 .here rfl (by omega) ?_)
  repeat (refine wXh ?_)
  refine TD_hv (φ := allR [] k0) Hv.nilR ?_
  refine TD_loop [0] rfl (fun k G M I => ∃ (i : Nat) (es : List RE) (q : Option Addr) (c : Nat), i ≤ R ∧ k = R - i ∧ es.length = i ∧ qs es = (List.range i).map (fun i => at2 a.q i 0) ∧ G = [(3, .slice q es.length c), (4, .int .i64 i)] ∧ M = .row q es.length c (recs eR es) 26 4 :: M0 ∧ I = allR es k0 :: slI a.p (recs eL a.rows) :: I0) (R) _ _ _ subG subF incF (⟨0, [], _, _, by omega, rfl, rfl, rfl, rfl, rfl, rfl⟩) ?_
  rintro kk G M I ⟨i, es, q, c, hi, rfl, hel, heq, rfl, rfl, rfl⟩
  by_cases hiR : i < R
  · have hra := da.row hiR
    refine TD_hv (φ := slI (gt (a).rows (i : Int)).p (recs eR (gt (a).rows (i : Int)).es)) (Hv.xrsl memF (by omega)) ?_
    obtain ⟨s, hse⟩ : ∃ s, gt (gt a.rows (i : Int)).es 0 = s := ⟨_, rfl⟩
    have hv : ∀ I, isX a k0 ∈ I → Hv I (isR s k0) := fun I h => by rw [← hse]; exact Hv.xel h (by omega) (by omega)
    have hat : at2 a.q i 0 = s.q := by rw [← hse]; exact at2_q (m := a) (i := i) (j := 0) (by omega) (by omega)
    repeat (refine wXh ?_)
    rw [hse]
    refine RD_hv (φ := isR s k0) (hv _ memF) ?_
    (refine RD_vals (cs := recs eR [s]) ([rv s]) rfl rfl (by intro v hv; repeat (first | exact absurd hv (List.not_mem_nil) | (rcases List.mem_cons.1 hv with rfl | hv; · rfl))) (by omega) rfl rfl rfl ?_; intro b; refine ⟨okF, ?_⟩)
    (refine RD_appR (ys := [s]) 1 rfl rfl rfl ?_ (by decide) rfl (by omega) (by omega) rfl rfl ?_; (· first | exact Src.blk memF | exact Src.row memF | exact Src.imm memF (by first | assumption | exact .inl (Ok.mk _ _))); intro q2 c2; refine ⟨okF, ?_⟩)
    repeat (refine wXh ?_)
    refine ND_hv (φ := allR (es ++ [s]) k0) (Hv.snoc memF memF) ?_
    refine ND_again (R - (i + 1)) _ _ _ (by first | omega | (simp only [List.length_append, List.length_cons, List.length_nil]; omega)) subG subF incF (⟨i + 1, es ++ [s], q2, c2, by omega, rfl, by simp; omega, ?_, rfl, rfl, rfl⟩)
    show (es ++ [s]).map RE.q = _
    rw [List.map_append, List.range_succ, List.map_append, ← heq]
    show qs es ++ [s.q] = qs es ++ [at2 a.q i 0]
    rw [hat]
  · obtain rfl : i = R := by omega
    repeat (refine wXh ?_)
    refine ND_toL memF ?_
    refine ND_ret1 (by first | exact .inl rfl | exact .inr rfl) rfl rfl _ _ subF incF (⟨rfl, ⟨q, c, es⟩, rfl, heq, rfl⟩)
set_option maxRecDepth 100000 in
theorem rApply_ok {a : MX} {x : RL} {R C k0 m : Nat} (hk : k0 + m ≤ 700000) (hm : m ≤ 600000) (hR : 1 ≤ R ∧ R ≤ 64) (hC : 1 ≤ C ∧ C ≤ 64) (da : a.dim R C) (hl : x.es.length = C) (ha : isX a k0 ∈ I0) (hx : isL x m ∈ I0) :
    CD Tryz.prog 37 [mv a, lv x] X w0 M0 I0 (LQ ((List.range R).map (fun i => sm C (fun t => at2 a.q i t * x.q.getD t 0))) (C * (k0 + m + 1)) M0 I0) := by
  have hCo := fun M0 I0 h => Column_ok (X := X) (w0 := w0) (M0 := M0) (I0 := I0) (x := x) (n := C) (k0 := m) (by omega) hl h
  have hMu := fun (y : MX) (hy : y.dim C 1) M0 I0 h1 h2 => CD_ms (rMul_own (X := X) (w0 := w0) (M0 := M0) (I0 := I0) (a := a) (b := y) (R := R) (C := C) (D := 1) (k0 := k0) (m := m) hk hm hR hC (by omega) da hy h1 h2)
  have hFi := fun (y : MX) (hy : y.dim R 1) M0 I0 h1 => First_ok (X := X) (w0 := w0) (M0 := M0) (I0 := I0) (a := y) (R := R) (C := 1) (k0 := C * (k0 + m + 1)) (by omega) (by omega) hy h1
  refine enterD2 Tryz.func37 rfl Tryz.ntmps37 rfl ?_
  repeat (refine wXh ?_)
  (refine RD_callS rfl (hCo _ _ memF) rfl rfl ?_; rintro _ _ _ ⟨rfl, y, rfl, hy, hyd, rfl⟩; refine ⟨okF, ?_⟩)
  (refine RD_callS rfl (hMu y hyd _ _ memF memF) rfl rfl ?_; rintro _ _ _ ⟨rfl, z, rfl, hz, hzd, rfl⟩; refine ⟨okF, ?_⟩)
  (refine RD_callS rfl (hFi z hzd _ _ memF) rfl rfl ?_; rintro _ _ _ ⟨rfl, r, rfl, hr, rfl⟩; refine ⟨okF, ?_⟩)
  repeat (refine wXh ?_)
  refine ND_ret1 (by first | exact .inl rfl | exact .inr rfl) rfl rfl _ _ subF incF (⟨rfl, r, rfl, ?_, rfl⟩)
  rw [hr]
  apply List.map_congr_left
  intro i hi
  rw [hz, mkM_at (List.mem_range.1 hi) (by omega)]
  exact sm_congr (fun t ht => by rw [hy, mkM_at ht (by omega)])
end
end Go.Proofs.YtdmlebigkakplaaGreat
namespace Go.Proofs.YtdmlebigkakplaaGreat
open Go Go.Fx
def besI (n : Nat) (A : Mt) : Mt := mkM n (n + n) (fun i j => if j < n then at2 A i j else dlt i (j - n))
def invM (n : Nat) (A : Mt) : Mt := mkM n n (fun i j => at2 (redN (besI n A) n).1 i (n + j))
theorem dim_mkM {R C : Nat} {F : Nat → Nat → Rat} : dimL (mkM R C F) R C := ⟨by simp [mkM], fun i hi => by simp [mkM, rowAt, List.getD, hi]⟩
theorem besI_l {n : Nat} {A : Mt} {i j : Nat} (hi : i < n) (hj : j < n) : at2 (besI n A) i j = at2 A i j := by
  unfold besI
  rw [mkM_at hi (by omega), if_pos hj]
theorem inv_iff {n : Nat} {A : Mt} : (redN (besI n A) n).2.length = n ↔ dt n (at2 A) ≠ 0 := by
  obtain ⟨_, s, hr⟩ := redN_red (A := besI n A) (R := n) (C := n + n) dim_mkM n (by omega)
  rw [hr.iff (by omega), dt_congr (f := at2 (besI n A)) (g := at2 A) (fun i j hi hj => besI_l hi hj)]
section
variable {X : List Nat} {w0 : World} {M0 : List Ent} {I0 : List Imm}
set_option maxRecDepth 100000 in
set_option maxHeartbeats 2000000 in
theorem XInverse_all {a : MX} {n k0 : Nat} (hb : kb k0 n ≤ 20000000) (hk0 : k0 ≤ 20000000) (da : a.fit n n) (ha : isX a k0 ∈ I0) : CD Tryz.prog 56 [mv a] X w0 M0 I0 (fun v M I => if dt n (at2 a.q) = 0 then (M0 = M ∧ I0 = I ∧ v = .tuple #[.slice none 0 0, .int .i64 14]) else XQc (invM n a.q) n n (kb k0 n) M0 I0 v M I) := by
  obtain ⟨n1, n2⟩ := da.2.1
  refine xCD_fact (fun w hw => Mem.xsml ha da (by omega) hw) (fun sa => ?_)
  have hC := fun M0 I0 h1 => square_ok (X := X) (w0 := w0) (M0 := M0) (I0 := I0) (a := a.raw) sa h1
  have e0 : sqC a.raw = 0 := by
    unfold sqC
    rw [if_pos da.ok, a.raw_rows, MX.raw_c0 da, da.1.1, if_pos rfl]
  rw [e0, mv_raw] at hC
  have lR := da.1.1
  refine CD_hv (φ := isWM a.raw) (Hv.xraw ha (by omega)) ?_
  refine enterD1 Tryz.func56 rfl Tryz.ntmps56 rfl ?_
  repeat (refine wXh ?_)
  (refine RD_callS rfl (hC _ _ memF) rfl rfl ?_; rintro _ _ _ ⟨rfl, rfl, rfl⟩; refine ⟨okF, ?_⟩)
  repeat (refine wXh ?_)
  (refine RD_alloc rfl rfl ?_; intro b5; refine ⟨okF, ?_⟩)
  repeat (refine wXh ?_)
  rw [lR]
  refine RD_freezeB .here ?_
  repeat (refine wXh ?_)
  (refine RD_callS rfl (xmade_ok (R := n) (C := n) (g := 153) (fs := #[]) (cs := #[]) (k0 := 0) (by omega) (by omega) dlt (fun M I _ i j hi hj => by have := unit_ok (X := X) (w0 := w0) (M0 := M) (I0 := I) (i := (i : Int)) (j := (j : Int)); rw [← dlt_int] at this; exact this)) rfl rfl ?_; rintro _ _ _ ⟨rfl, u, rfl, hu, hud, rfl⟩; refine ⟨okF, ?_⟩)
  repeat (refine wXh ?_)
  refine RD_hv (φ := isX u k0) (Hv.xm (k := 0) memF (Nat.zero_le _)) ?_
  (refine RD_callS rfl (beside_ok da ⟨hud, ⟨n1, n2⟩, n1, n2⟩ memF memF) rfl rfl ?_; rintro _ _ _ ⟨bo, rows0, rfl, hl0, hc0, hq0, rfl, rfl⟩; refine ⟨okF, ?_⟩)
  repeat (refine wXh ?_)
  (refine RD_alloc rfl rfl ?_; intro b6; refine ⟨okF, ?_⟩)
  repeat (refine wXh ?_)
  refine TD_m (fun _ hw => hw.freezeB .here) ?_
  have hB : mq rows0 = besI n a.q := by
    unfold besI
    refine Eq.trans hq0 ?_
    refine mkM_congr (R := n) (C := n + n) (fun i j hi hj => ?_)
    by_cases e : j < n
    · rw [if_pos e, if_pos e]
    · rw [if_neg e, if_neg e, hu, mkM_at hi (by omega)]
  (repeat refine TD_seq ?_); refine TD_drawnK 1 (M0) (slI (some ⟨b6, 0, none⟩) [.slice (some ⟨bo, 0, none⟩) n n] :: slI (some ⟨b5, 0, none⟩) [.int .i64 (n : Int)] :: I0) [0, 1, 4, 2, 3, 5] [0, 0, 1, 0, 0, 0] (SubP.drop (SubP_dropA SubP.refl)) incF mixed (by kernel_rfl) ?_
  repeat (refine wXh ?_)
  have hRd := fun I0 h => reduce_ok (X := X) (w0 := w0) (M0 := .blk bo (recs eM rows0) 61 :: (rows0.map entM ++ M0)) (I0 := I0) (bo := bo) (R := n) (C := n + n) (n := n) (k0 := k0) (rows := rows0) (M1 := M0) hl0 (by omega) (by omega) hc0 (by omega) (by omega) h rfl
  (refine RD_callS rfl (hRd _ memF) rfl rfl ?_; rintro _ _ _ ⟨rows, pv, q, c, rfl, hl, hc, hred, hpv, rfl, rfl⟩; refine ⟨OkD.kY (SubP.drop (SubP.drop (SubP_dropA SubP.refl))) incF, ?_⟩)
  rw [hB] at hred
  have hiff : pv.length = n ↔ dt n (at2 a.q) ≠ 0 := by
    have := inv_iff (n := n) (A := a.q)
    rw [hred] at this
    exact this
  by_cases hd0 : dt n (at2 a.q) = 0
  · simp only [if_pos hd0]
    have hlt : pv.length < n := by
      rcases Nat.lt_or_ge pv.length n with h | h
      · exact h
      · exact absurd hd0 (hiff.1 (by omega))
    repeat (refine wXh ?_)
    refine ND_rets [2, 3] (.inl rfl) rfl rfl rfl M0 I0 (SubP.drop (SubP.drop (SubP_dropA SubP.refl))) incF ⟨rfl, rfl, rfl⟩
  · simp only [if_neg hd0]
    have hlt : pv.length = n := hiff.2 hd0
    repeat (refine wXh ?_)
    refine RD_w (M' := .blk bo (recs eM rows) 61 :: (rows.map entM ++ M0)) (I' := allM rows (kb k0 n) :: slI (some ⟨b6, 0, none⟩) [.slice (some ⟨bo, 0, none⟩) n n] :: slI (some ⟨b5, 0, none⟩) [.int .i64 (n : Int)] :: I0) (SubP.drop SubP.refl) incF ?_
    refine RD_m (fun _ hw => freezeX hw (List.Mem.head _)) ?_
    refine RD_hv (φ := bxX b6 (MR.x bo rows)) (by show Hv _ (slI _ [.slice (some ⟨bo, 0, none⟩) (rows.map MR.l).length rows.length]); rw [List.length_map, hl]; exact Hv.mem memF) ?_
    have xl : (MR.x bo rows).rows.length = n := by show (rows.map MR.l).length = n; rw [List.length_map, hl]
    have xc : ∀ i : Nat, i < n → (gt (MR.x bo rows).rows (i : Int)).es.length = n + n := fun i hi => by
      have : gt (MR.x bo rows).rows (i : Int) = (gt rows (i : Int)).l := gt_map (by omega)
      rw [this]; exact hc _ (gt_mem (by omega))
    have hg := fun M I (hI : ∀ φ ∈ bxX b6 (MR.x bo rows) :: isX (MR.x bo rows) (kb k0 n) :: allM rows (kb k0 n) :: slI (some ⟨b6, 0, none⟩) [.slice (some ⟨bo, 0, none⟩) n n] :: slI (some ⟨b5, 0, none⟩) [.int .i64 (n : Int)] :: I0, φ ∈ I) (i j : Nat) (hi : i < n) (hj : j < n) => Inverse1_ok (X := X) (w0 := w0) (M0 := M) (I0 := I) (a := MR.x bo rows) (p := b6) (q := b5) (k := kb k0 n) (i := i) (j := j) (n := n) (by omega) (by rw [xc i hi]; omega) (by omega) (by omega) (hI _ memF) (hI _ memF) (hI _ memF)
    (refine RD_callS rfl (xmade_ok (R := n) (C := n) (g := 155) (fs := #[]) (cs := #[pb b6, pb b5]) (k0 := kb k0 n) (by omega) (by omega) (fun i j => at2 (MR.x bo rows).q i (n + j)) hg) rfl rfl ?_; rintro _ _ _ ⟨rfl, x, rfl, hx, hd, rfl⟩; refine ⟨okF, ?_⟩)
    rw [q_x] at hx
    repeat (refine wXh ?_)
    refine ND_rets [2, 3] (by first | exact .inl rfl | exact .inr rfl) rfl rfl rfl _ _ subF incF (⟨rfl, x, rfl, by unfold invM; rw [hred]; exact hx, hd, rfl⟩)
end
end Go.Proofs.YtdmlebigkakplaaGreat
