/- The document's unit matrix, copy, sum, product, transposed matrix. -/
import Derived.Test.YtdmlebigkakplaaGreatZmbq
import Derived.Test.YtdmlebigkakplaaGreatZmbi
set_option linter.unusedSimpArgs false
set_option linter.unusedVariables false
namespace Go.Proofs.YtdmlebigkakplaaGreat
open Go Go.Fx
section
variable {X : List Nat} {w0 : World} {M0 : List Ent} {I0 : List Imm}
set_option maxRecDepth 100000 in
set_option maxHeartbeats 1000000 in
theorem rIdent_own {n : Nat} (hn : 1 ≤ n ∧ n ≤ 100) : CD Tryz.prog 57 [.int .i64 (n : Int)] X w0 M0 I0 (MsP n n dlt 0 M0 I0) := by
  have hW := fun M0 I0 => rWhole05_ok (X := X) (w0 := w0) (M0 := M0) (I0 := I0) (x := 1) (by decide)
  refine enterD1 Tryz.func57 rfl Tryz.ntmps57 rfl ?_
  repeat (refine wXh ?_)
  (refine RD_callS rfl (Zeros_ok (R := n) (C := n) hn hn) rfl rfl ?_; rintro _ _ _ ⟨bo, co, tlo, rows0, rfl, hco, hs0, hp0, rfl, rfl⟩; refine ⟨okF, ?_⟩)
  repeat (refine wXh ?_)
  refine TD_loop [0, 3] rfl (fun k G M I => ∃ (i : Nat) (rows : List MS), i ≤ n ∧ k = n - i ∧ Shp rows n n ∧ Pw rows n n (fun a b => if a < i ∧ a = b then 1 else 0) ∧ G = [(4, .int .i64 i)] ∧ M = .blk bo (recs eS rows ++ tlo) 61 :: (rows.map entS ++ M0) ∧ I = allS rows 0 :: I0) (n) _ _ _ subG subF incF (⟨0, rows0, by omega, rfl, hs0, fun a b ha hb => by (have h_ := hp0 a b ha hb; dsimp only at h_ ⊢; rw [h_, if_neg (by omega)]), rfl, rfl, rfl⟩) ?_
  rintro kk G M I ⟨i, rows, hi, rfl, hs, hp, rfl, rfl, rfl⟩
  have hlen := hs.len
  by_cases hin : i < n
  · have hrow := hs.row hin
    repeat (refine wXh ?_)
    (repeat refine TD_seq ?_); refine TD_drawnJ 1 [0, 1, 2, 3, 4, 5, 6, 7] [1, 1, 1, 1, 1, 0, 0, 0] mixed (by kernel_rfl) ?_
    repeat (refine wXh ?_)
    (refine RD_callS rfl (hW _ _) rfl rfl ?_; rintro _ _ _ ⟨rfl, e, rfl, he, rfl⟩; refine ⟨okF, ?_⟩)
    repeat' (first | refine TD_seq ?_ | refine TD_region ?_ | refine TD_ret ?_ | refine TD_skip ?_ | refine TD_label ?_ | refine TD_block ?_ | refine TD_exit ?_ | refine ND_then ?_ | refine ND_thenR ?_ | refine ND_thenE ?_ | refine ND_inN ?_ | refine ND_inR ?_ | refine ND_inE ?_ | refine ND_inO rfl ?_ | refine RD_nil ?_ | (refine RD_isGu ?_; first | refine RD_skip rfl rfl rfl ?_ | (refine RD_isEf rfl rfl ?_; refine RD_skipE rfl rfl rfl okF ?_) | refine RD_grdY rfl rfl (by omega) ?_ | refine RD_grdN rfl rfl (by omega) ?_ | refine RD_grd rfl rfl (fun h => ?_) (fun h => ?_) | (fail_if_success (refine RD_isW rfl ?_); refine RD_grdB rfl rfl (fun h => ?_) (fun h => ?_))) | (refine RD_isUn ?_; refine RD_c rfl (fun _ => Const_notB rfl) rfl rfl ?_) | refine RD_c rfl (fun _ => Const_pure rfl) rfl rfl ?_ | (refine RD_isBi ?_; first | refine RD_c rfl (fun _ => Const_add rfl rfl wF) rfl rfl ?_ | refine RD_c rfl (fun _ => Const_sub rfl rfl wF) rfl rfl ?_ | refine RD_c rfl (fun _ => Const_mul rfl rfl wF) rfl rfl ?_ | refine RD_c rfl (fun _ => Const_quo rfl rfl (by omega) qF) rfl rfl ?_ | refine RD_c rfl (fun _ => Const_rem rfl rfl (by omega) rfl) rfl rfl ?_ | refine RD_c rfl (fun _ => Const_half rfl rfl) rfl rfl ?_ | refine RD_c rfl (fun _ => Const_eqBB rfl rfl) rfl rfl ?_ | refine RD_c rfl (fun _ => Const_neBB rfl rfl) rfl rfl ?_ | refine RD_c rfl (fun _ => Const_eqB rfl rfl) rfl rfl ?_ | refine RD_c rfl (fun _ => Const_neB rfl rfl) rfl rfl ?_) | (refine RD_isUn ?_; first | refine RD_c rfl (fun _ => Const_neg rfl wF) rfl rfl ?_) | (refine RD_isCv ?_; first | refine RD_c rfl (fun _ => Const_conv rfl wF) rfl rfl ?_) | (refine RD_isCa ?_; first | refine RD_c rfl (fun _ => Const_len rfl) rfl rfl ?_ | refine RD_c rfl (fun _ => Const_minM rfl rfl) rfl rfl ?_ | refine RD_c rfl (fun _ => Const_maxM rfl rfl) rfl rfl ?_ | refine RD_c rfl (fun _ => Const_min3 rfl rfl rfl) rfl rfl ?_) | (refine RD_isFa ?_; first | refine RD_fldP rfl (by decide) rfl rfl ?_ | refine RD_fld rfl (by decide) rfl rfl ?_) | (refine RD_isIx ?_; first | refine RD_ixB rfl rfl bdI rfl rfl ?_ | refine RD_ixI vwF rfl rfl bdI memF posC rfl rfl ?_ | refine RD_ixR vwF rfl rfl bdI memF posC rfl rfl ?_ | refine RD_c rfl (fun _ => Const_indexA rfl rfl bdI) rfl rfl ?_) | (refine RD_isLd ?_; first | (apply RD_ldZB; exact vwF; exact rfl; (focus ((repeat (first | with_reducible exact List.mem_cons_self | with_reducible assumption | with_reducible refine List.mem_cons_of_mem _ ?_)); done)); exact atY; exact rfl; exact rfl) | (apply RD_ldZIB; exact vwF; exact rfl; (focus ((repeat (first | with_reducible exact List.mem_cons_self | with_reducible assumption | with_reducible refine List.mem_cons_of_mem _ ?_)); done)); exact atY; exact rfl; exact rfl) | (apply RD_ldZI; exact vwF; exact rfl; (focus ((repeat (first | with_reducible exact List.mem_cons_self | with_reducible assumption | with_reducible refine List.mem_cons_of_mem _ ?_)); done)); exact atY; exact rfl; exact rfl) | (apply RD_ldZR; exact vwF; exact rfl; (focus ((repeat (first | with_reducible exact List.mem_cons_self | with_reducible assumption | with_reducible refine List.mem_cons_of_mem _ ?_)); done)); exact atY; exact rfl; exact rfl) | (apply RD_ldB; exact vwF; exact rfl; (focus ((repeat (first | with_reducible exact List.mem_cons_self | with_reducible assumption | with_reducible refine List.mem_cons_of_mem _ ?_)); done)); exact atF; exact rfl; exact rfl) | (apply RD_ldIB; exact vwF; exact rfl; (focus ((repeat (first | with_reducible exact List.mem_cons_self | with_reducible assumption | with_reducible refine List.mem_cons_of_mem _ ?_)); done)); exact atF; exact rfl; exact rfl) | (apply RD_ldI; exact vwF; exact rfl; (focus ((repeat (first | with_reducible exact List.mem_cons_self | with_reducible assumption | with_reducible refine List.mem_cons_of_mem _ ?_)); done)); exact atF; exact rfl; exact rfl) | (apply RD_ldR; exact vwF; exact rfl; (focus ((repeat (first | with_reducible exact List.mem_cons_self | with_reducible assumption | with_reducible refine List.mem_cons_of_mem _ ?_)); done)); exact atF; exact rfl; exact rfl)) | (refine RD_isFd ?_; first | refine RD_c rfl (fun _ => Const_field1 rfl rfl) rfl rfl ?_ | refine RD_c rfl (fun _ => Const_fieldN rfl) rfl rfl ?_) | (refine TD_isCo ?_; first | refine TD_cond_true rfl ?_ | refine TD_cond_false rfl ?_ | refine TD_yes rfl (by omega) ?_ | refine TD_no rfl (by omega) ?_ | refine TD_dec rfl (fun h => ?_) (fun h => ?_) | refine TD_cond rfl (fun h => ?_) (fun h => ?_)))
    refine RD_stN (vs := eR e) rfl rfl rfl (Ones.one e) (repS (rows := rows) (i := i) (r' := upR (gt rows (i : Int)) i e) (by omega)) (StAts.app (StAts.r (enc := eR) (ms := (gt rows (i : Int)).es) (i := (i : Int)) e (by omega) rfl)) rfl rfl ⟨okF, ?_⟩
    rw [upS_def]
    refine RD_hv (φ := allS (upS rows i i e) 0) (Hv.upS hs hin memF memF) ?_
    rw [← recs_upS (i := i) (j := i) (e := e) hs hin]
    repeat (refine wXh ?_)
    refine ND_again (n - (i + 1)) _ _ _ (by first | omega | (simp only [List.length_append, List.length_cons, List.length_nil]; omega)) subG subF incF (⟨i + 1, upS rows i i e, by omega, rfl, hs.up hin, hp.up hs hin hin (fun a b ha hb => ?_), rfl, rfl, rfl⟩)
    try dsimp only
    by_cases e1 : a = i ∧ b = i
    · rw [if_pos e1, if_pos (by omega), he]; rfl
    · rw [if_neg e1]
      by_cases e2 : a < i ∧ a = b
      · rw [if_pos e2, if_pos (by omega)]
      · rw [if_neg e2, if_neg (by omega)]
  · obtain rfl : i = n := by omega
    repeat (refine wXh ?_)
    refine ND_ret1 (by first | exact .inl rfl | exact .inr rfl) rfl rfl _ _ subF incF (⟨bo, co, tlo, rows, rfl, hco, hs, fun a b ha hb => ?_, rfl, rfl⟩)
    have h_ := hp a b ha hb
    dsimp only at h_
    rw [h_]
    unfold dlt
    by_cases e : a = b
    · rw [if_pos e, if_pos ⟨ha, e⟩]
    · rw [if_neg e, if_neg (fun x => e x.2)]
set_option maxRecDepth 100000 in
set_option maxHeartbeats 1000000 in
theorem Copy_own {a : MX} {R C k0 : Nat} (hR : 1 ≤ R ∧ R ≤ 100) (hC : 1 ≤ C ∧ C ≤ 100) (da : a.dim R C) (ha : isX a k0 ∈ I0) : CD Tryz.prog 166 [mv a] X w0 M0 I0 (MsP R C (at2 a.q) k0 M0 I0) := by
  have hl := da.1
  refine xCD_fact (φ := ∀ r ∈ a.rows, Cap r.p r.es.length r.c) (fun w hw r hr => ((((hw.imm _ ha).2 : IsX a k0 _ w)).row r hr).cap) (fun hcap => ?_)
  refine CD_hv (φ := slI (a).p (recs eL (a).rows)) (Hv.xsl memF) ?_
  refine enterD1 Tryz.func166 rfl Tryz.ntmps166 rfl ?_
  repeat (refine wXh ?_)
  (refine RD_vals (cs := recs eS []) ([]) rfl rfl (by intro v hv; repeat (first | exact absurd hv (List.not_mem_nil) | (rcases List.mem_cons.1 hv with rfl | hv; · rfl))) (by omega) rfl rfl rfl ?_; intro bo; refine ⟨okF, ?_⟩; refine RD_toRow (mm := 0) 1 .here rfl (by omega) ?_)
  repeat (refine wXh ?_)
  refine TD_hv (φ := allS [] k0) Hv.nilS ?_
  refine TD_loop [0] rfl (fun k G M I => ∃ (i : Nat) (rows : List MS) (q : Option Addr) (c : Nat), i ≤ R ∧ k = R - i ∧ Shp rows i C ∧ Pw rows i C (at2 a.q) ∧ G = [(3, .slice q rows.length c), (4, .int .i64 i)] ∧ M = .row q rows.length c (recs eS rows) 61 1 :: (rows.map entS ++ M0) ∧ I = allS rows k0 :: slI a.p (recs eL a.rows) :: I0) (R) _ _ _ subG subF incF (⟨0, [], _, _, by omega, rfl, ⟨rfl, fun r hr => by simp at hr⟩, fun i j hi => by omega, rfl, rfl, rfl⟩) ?_
  rintro kk G M I ⟨i, rows, q, c, hi, rfl, hs, hp, rfl, rfl, rfl⟩
  have hlen := hs.len
  by_cases hiR : i < R
  · have hrow := da.row hiR
    have hcp := (hcap _ (gt_mem (ms := a.rows) (i := (i : Int)) (by omega))).2
    refine TD_hv (φ := slI (gt (a).rows (i : Int)).p (recs eR (gt (a).rows (i : Int)).es)) (Hv.xrsl memF (by omega)) ?_
    refine TD_hv (φ := allR (gt a.rows (i : Int)).es k0) ⟨fun X w hw => ⟨((hw _ (by exact memF) : IsX a k0 X w).row _ (gt_mem (by omega))).el⟩⟩ ?_
    repeat (refine wXh ?_)
    (refine RD_vals (cs := recs eR []) ([]) rfl rfl (by intro v hv; repeat (first | exact absurd hv (List.not_mem_nil) | (rcases List.mem_cons.1 hv with rfl | hv; · rfl))) (by omega) rfl rfl rfl ?_; intro bl; refine ⟨okF, ?_⟩; refine RD_toRow (mm := 0) 4 .here rfl (by omega) ?_)
    repeat (refine wXh ?_)
    (refine RD_appR (enc := eR) (xs := []) (ys := (gt a.rows (i : Int)).es) 0 rfl rfl rfl (Src.imm memF hcp) (by decide) rfl (by rw [List.length_nil]; omega) (by rw [List.length_nil]; omega) rfl rfl ?_; intro q1 c1; refine ⟨okF, ?_⟩)
    rw [List.nil_append]
    refine RD_rowBlk (fun h0 h1 h2 => by omega) (fun b tl h1 h2 => ?_)
    subst h1
    (refine RD_vals (cs := recs eS [(⟨b, c1, (gt a.rows (i : Int)).es, tl⟩ : MS)]) ([.slice (some ⟨b, 0, none⟩) (gt a.rows (i : Int)).es.length c1]) rfl rfl (by intro v hv; repeat (first | exact absurd hv (List.not_mem_nil) | (rcases List.mem_cons.1 hv with rfl | hv; · rfl))) (by omega) rfl rfl rfl ?_; intro bb; refine ⟨okF, ?_⟩)
    (refine RD_appR (ys := [(⟨b, c1, (gt a.rows (i : Int)).es, tl⟩ : MS)]) 2 rfl rfl rfl ?_ (by decide) rfl (by omega) (by omega) rfl rfl ?_; (· first | exact Src.blk memF | exact Src.row memF | exact Src.imm memF (by first | assumption | exact .inl (Ok.mk _ _))); intro q2 c2; refine ⟨okF, ?_⟩)
    repeat (refine wXh ?_)
    refine ND_hv (φ := allS (rows ++ [(⟨b, c1, (gt a.rows (i : Int)).es, tl⟩ : MS)]) k0) (Hv.snocS memF (Hv.mem memF)) ?_
    refine ND_w (M' := .blk b (recs eR (gt a.rows (i : Int)).es ++ tl) 26 :: .row q2 (rows ++ [(⟨b, c1, (gt a.rows (i : Int)).es, tl⟩ : MS)]).length c2 (recs eS (rows ++ [(⟨b, c1, (gt a.rows (i : Int)).es, tl⟩ : MS)])) 61 1 :: (rows.map entS ++ M0)) (I' := allS (rows ++ [(⟨b, c1, (gt a.rows (i : Int)).es, tl⟩ : MS)]) k0 :: slI a.p (recs eL a.rows) :: I0) (SubP.drop SubP.refl) incF ?_
    refine ND_perm (M' := .row q2 (rows ++ [(⟨b, c1, (gt a.rows (i : Int)).es, tl⟩ : MS)]).length c2 (recs eS (rows ++ [(⟨b, c1, (gt a.rows (i : Int)).es, tl⟩ : MS)])) 61 1 :: ((rows ++ [(⟨b, c1, (gt a.rows (i : Int)).es, tl⟩ : MS)]).map entS ++ M0)) (by rw [List.map_append (f := entS)]; exact perm_push) ?_
    refine ND_again (R - (i + 1)) _ _ _ (by first | omega | (simp only [List.length_append, List.length_cons, List.length_nil]; omega)) subG subF incF (⟨i + 1, rows ++ [(⟨b, c1, (gt a.rows (i : Int)).es, tl⟩ : MS)], q2, c2, by omega, rfl, ⟨by simp [hlen], fun r hr => ?_⟩, fun i' j' h1' h2' => ?_, rfl, rfl, rfl⟩)
    · rcases List.mem_append.1 hr with h | h
      · exact hs.col r h
      · rw [List.mem_singleton.1 h]; exact ⟨hrow, by show C ≤ c1; omega⟩
    · by_cases e1 : i' < i
      · have : gt (rows ++ [(⟨b, c1, (gt a.rows (i : Int)).es, tl⟩ : MS)]) (i' : Int) = gt rows (i' : Int) := by rw [gt_lt (by simp; omega), List.getElem_append_left (by omega)]; exact (gt_lt (by omega)).symm
        rw [this]; exact hp i' j' e1 h2'
      · have : gt (rows ++ [(⟨b, c1, (gt a.rows (i : Int)).es, tl⟩ : MS)]) (i' : Int) = ⟨b, c1, (gt a.rows (i : Int)).es, tl⟩ := gt_mid (A := rows) (B := []) (by omega)
        rw [this]
        obtain rfl : i' = i := by omega
        exact (at2_q (m := a) (by omega) (by omega)).symm
  · obtain rfl : i = R := by omega
    repeat (refine wXh ?_)
    refine ND_rowBlk (fun h0 h1 h2 => by omega) (fun b tl h1 h2 => ?_)
    subst h1
    refine ND_ret1 (by first | exact .inl rfl | exact .inr rfl) rfl rfl _ _ subF incF (⟨b, c, tl, rows, by rw [hlen], by omega, hs, hp, rfl, rfl⟩)
set_option maxRecDepth 100000 in
set_option maxHeartbeats 2000000 in
theorem Sum_own {a b : MX} {κ : RE} {R C k0 m u : Nat} (hk : k0 + (u + m) + 1 ≤ 50000000) (hR : 1 ≤ R ∧ R ≤ 100) (hC : 1 ≤ C ∧ C ≤ 100) (da : a.dim R C) (db : b.dim R C) (ha : isX a k0 ∈ I0) (hb : isX b m ∈ I0) (hκ : isR κ u ∈ I0) : CD Tryz.prog 65 [mv a, mv b, rv κ] X w0 M0 I0 (MsP R C (fun i j => at2 a.q i j + κ.q * at2 b.q i j) (k0 + (u + m) + 1) M0 I0) := by
  have hl := da.1
  have hl2 := db.1
  have hCo := fun M0 I0 h => Copy_own (X := X) (w0 := w0) (M0 := M0) (I0 := I0) (a := a) (k0 := k0) hR hC da h
  refine CD_hv (φ := slI (a).p (recs eL (a).rows)) (Hv.xsl memF) ?_
  refine CD_hv (φ := slI (b).p (recs eL (b).rows)) (Hv.xsl memF) ?_
  refine enterD3 Tryz.func65 rfl Tryz.ntmps65 rfl ?_
  refine TD_seq ?_
  refine TD_region ?_
  (refine RD_boxA rfl rfl rfl ?_; intro b5; refine ⟨okF, ?_⟩)
  refine RD_freezeB .here ?_
  repeat (refine wXh ?_)
  (refine RD_callS rfl (hCo _ _ memF) rfl rfl ?_; rintro _ _ _ ⟨bo, co, tlo, rows0, rfl, hco, hs0, hp0, rfl, rfl⟩; refine ⟨okF, ?_⟩)
  repeat (refine wXh ?_)
  refine TD_hv (φ := allS rows0 (k0 + (u + m) + 1)) (Hv.monoS (k := k0) (List.Mem.head _) (by omega)) ?_
  refine TD_loop [0, 1, 5, 7] rfl (fun k G M I => ∃ (i : Nat) (rows : List MS), i ≤ R ∧ k = R - i ∧ Shp rows R C ∧ Pw rows R C (fun x y => if x < i then at2 a.q x y + κ.q * at2 b.q x y else at2 a.q x y) ∧ G = [(8, .int .i64 i)] ∧ M = .blk bo (recs eS rows ++ tlo) 61 :: (rows.map entS ++ M0) ∧ I = allS rows (k0 + (u + m) + 1) :: slI (some ⟨b5, 0, none⟩) (eR κ) :: slI b.p (recs eL b.rows) :: slI a.p (recs eL a.rows) :: I0) (R) _ _ _ subG subF incF (⟨0, rows0, by omega, rfl, hs0, fun x y hx hy => by (have h_ := hp0 x y hx hy; dsimp only at h_ ⊢; rw [h_, if_neg (by omega)]), rfl, rfl, rfl⟩) ?_
  rintro kk G M I ⟨i, rows, hi, rfl, hs, hp, rfl, rfl, rfl⟩
  by_cases hiR : i < R
  · have hra := da.row hiR
    have hrb := db.row hiR
    refine TD_hv (φ := slI (gt (a).rows (i : Int)).p (recs eR (gt (a).rows (i : Int)).es)) (Hv.xrsl memF (by omega)) ?_
    refine TD_hv (φ := slI (gt (b).rows (i : Int)).p (recs eR (gt (b).rows (i : Int)).es)) (Hv.xrsl memF (by omega)) ?_
    have hp_ : Pw rows R C (fun x y => if x < i ∨ (x = i ∧ y < 0) then at2 a.q x y + κ.q * at2 b.q x y else at2 a.q x y) := fun x y hx hy => by
      have h_ := hp x y hx hy
      dsimp only at h_ ⊢
      rw [h_]
      by_cases e : x < i
      · rw [if_pos e, if_pos (.inl e)]
      · rw [if_neg e, if_neg (by omega)]
    repeat (refine wXh ?_)
    refine TD_loop [0, 1, 5, 7, 8] rfl (fun k G M I => ∃ (j : Nat) (rows : List MS), j ≤ C ∧ k = C - j ∧ Shp rows R C ∧ Pw rows R C (fun x y => if x < i ∨ (x = i ∧ y < j) then at2 a.q x y + κ.q * at2 b.q x y else at2 a.q x y) ∧ G = [(9, .int .i64 j)] ∧ M = .blk bo (recs eS rows ++ tlo) 61 :: (rows.map entS ++ M0) ∧ I = allS rows (k0 + (u + m) + 1) :: slI (gt b.rows (i : Int)).p (recs eR (gt b.rows (i : Int)).es) :: slI (gt a.rows (i : Int)).p (recs eR (gt a.rows (i : Int)).es) :: slI (some ⟨b5, 0, none⟩) (eR κ) :: slI b.p (recs eL b.rows) :: slI a.p (recs eL a.rows) :: I0) (C) _ _ _ subG subF incF (⟨0, rows, by omega, rfl, hs, hp_, rfl, rfl, rfl⟩) ?_
    rintro kk G M I ⟨j, rows1, hj, rfl, hs1, hp1, rfl, rfl, rfl⟩
    have hlen := hs1.len
    by_cases hjC : j < C
    · have hrow := hs1.row hiR
      have hat := at2_q (m := a) (i := i) (j := j) (by omega) (by omega)
      have hat2 := at2_q (m := b) (i := i) (j := j) (by omega) (by omega)
      repeat (refine wXh ?_)
      (repeat refine TD_seq ?_); refine TD_drawnJ 2 [0, 1, 2, 3, 4, 5, 6, 7, 8, 9, 10, 11, 12, 13, 14, 15, 16, 17, 18, 19, 20, 21, 22, 23] [2, 2, 2, 2, 2, 2, 2, 2, 2, 2, 2, 1, 1, 2, 2, 2, 2, 2, 2, 1, 0, 0, 0, 0] mixed (by kernel_rfl) ?_
      repeat (refine wXh ?_)
      (refine RD_callS rfl (rQMul_ok (k := u) (m := m) (by omega) (Hv.mem memF) (Hv.xel memF (by omega) (by omega))) rfl rfl ?_; rintro _ _ _ ⟨rfl, e1, rfl, he1, rfl⟩; refine ⟨okF, ?_⟩)
      (refine RD_callS rfl (rQAdd_ok (k := k0) (m := u + m) (by omega) (Hv.xel memF (by omega) (by omega)) (Hv.mem memF)) rfl rfl ?_; rintro _ _ _ ⟨rfl, e, rfl, he, rfl⟩; refine ⟨okF, ?_⟩)
      repeat' (first | refine TD_seq ?_ | refine TD_region ?_ | refine TD_ret ?_ | refine TD_skip ?_ | refine TD_label ?_ | refine TD_block ?_ | refine TD_exit ?_ | refine ND_then ?_ | refine ND_thenR ?_ | refine ND_thenE ?_ | refine ND_inN ?_ | refine ND_inR ?_ | refine ND_inE ?_ | refine ND_inO rfl ?_ | refine RD_nil ?_ | (refine RD_isGu ?_; first | refine RD_skip rfl rfl rfl ?_ | (refine RD_isEf rfl rfl ?_; refine RD_skipE rfl rfl rfl okF ?_) | refine RD_grdY rfl rfl (by omega) ?_ | refine RD_grdN rfl rfl (by omega) ?_ | refine RD_grd rfl rfl (fun h => ?_) (fun h => ?_) | (fail_if_success (refine RD_isW rfl ?_); refine RD_grdB rfl rfl (fun h => ?_) (fun h => ?_))) | (refine RD_isUn ?_; refine RD_c rfl (fun _ => Const_notB rfl) rfl rfl ?_) | refine RD_c rfl (fun _ => Const_pure rfl) rfl rfl ?_ | (refine RD_isBi ?_; first | refine RD_c rfl (fun _ => Const_add rfl rfl wF) rfl rfl ?_ | refine RD_c rfl (fun _ => Const_sub rfl rfl wF) rfl rfl ?_ | refine RD_c rfl (fun _ => Const_mul rfl rfl wF) rfl rfl ?_ | refine RD_c rfl (fun _ => Const_quo rfl rfl (by omega) qF) rfl rfl ?_ | refine RD_c rfl (fun _ => Const_rem rfl rfl (by omega) rfl) rfl rfl ?_ | refine RD_c rfl (fun _ => Const_half rfl rfl) rfl rfl ?_ | refine RD_c rfl (fun _ => Const_eqBB rfl rfl) rfl rfl ?_ | refine RD_c rfl (fun _ => Const_neBB rfl rfl) rfl rfl ?_ | refine RD_c rfl (fun _ => Const_eqB rfl rfl) rfl rfl ?_ | refine RD_c rfl (fun _ => Const_neB rfl rfl) rfl rfl ?_) | (refine RD_isUn ?_; first | refine RD_c rfl (fun _ => Const_neg rfl wF) rfl rfl ?_) | (refine RD_isCv ?_; first | refine RD_c rfl (fun _ => Const_conv rfl wF) rfl rfl ?_) | (refine RD_isCa ?_; first | refine RD_c rfl (fun _ => Const_len rfl) rfl rfl ?_ | refine RD_c rfl (fun _ => Const_minM rfl rfl) rfl rfl ?_ | refine RD_c rfl (fun _ => Const_maxM rfl rfl) rfl rfl ?_ | refine RD_c rfl (fun _ => Const_min3 rfl rfl rfl) rfl rfl ?_) | (refine RD_isFa ?_; first | refine RD_fldP rfl (by decide) rfl rfl ?_ | refine RD_fld rfl (by decide) rfl rfl ?_) | (refine RD_isIx ?_; first | refine RD_ixB rfl rfl bdI rfl rfl ?_ | refine RD_ixI vwF rfl rfl bdI memF posC rfl rfl ?_ | refine RD_ixR vwF rfl rfl bdI memF posC rfl rfl ?_ | refine RD_c rfl (fun _ => Const_indexA rfl rfl bdI) rfl rfl ?_) | (refine RD_isLd ?_; first | (apply RD_ldZB; exact vwF; exact rfl; (focus ((repeat (first | with_reducible exact List.mem_cons_self | with_reducible assumption | with_reducible refine List.mem_cons_of_mem _ ?_)); done)); exact atY; exact rfl; exact rfl) | (apply RD_ldZIB; exact vwF; exact rfl; (focus ((repeat (first | with_reducible exact List.mem_cons_self | with_reducible assumption | with_reducible refine List.mem_cons_of_mem _ ?_)); done)); exact atY; exact rfl; exact rfl) | (apply RD_ldZI; exact vwF; exact rfl; (focus ((repeat (first | with_reducible exact List.mem_cons_self | with_reducible assumption | with_reducible refine List.mem_cons_of_mem _ ?_)); done)); exact atY; exact rfl; exact rfl) | (apply RD_ldZR; exact vwF; exact rfl; (focus ((repeat (first | with_reducible exact List.mem_cons_self | with_reducible assumption | with_reducible refine List.mem_cons_of_mem _ ?_)); done)); exact atY; exact rfl; exact rfl) | (apply RD_ldB; exact vwF; exact rfl; (focus ((repeat (first | with_reducible exact List.mem_cons_self | with_reducible assumption | with_reducible refine List.mem_cons_of_mem _ ?_)); done)); exact atF; exact rfl; exact rfl) | (apply RD_ldIB; exact vwF; exact rfl; (focus ((repeat (first | with_reducible exact List.mem_cons_self | with_reducible assumption | with_reducible refine List.mem_cons_of_mem _ ?_)); done)); exact atF; exact rfl; exact rfl) | (apply RD_ldI; exact vwF; exact rfl; (focus ((repeat (first | with_reducible exact List.mem_cons_self | with_reducible assumption | with_reducible refine List.mem_cons_of_mem _ ?_)); done)); exact atF; exact rfl; exact rfl) | (apply RD_ldR; exact vwF; exact rfl; (focus ((repeat (first | with_reducible exact List.mem_cons_self | with_reducible assumption | with_reducible refine List.mem_cons_of_mem _ ?_)); done)); exact atF; exact rfl; exact rfl)) | (refine RD_isFd ?_; first | refine RD_c rfl (fun _ => Const_field1 rfl rfl) rfl rfl ?_ | refine RD_c rfl (fun _ => Const_fieldN rfl) rfl rfl ?_) | (refine TD_isCo ?_; first | refine TD_cond_true rfl ?_ | refine TD_cond_false rfl ?_ | refine TD_yes rfl (by omega) ?_ | refine TD_no rfl (by omega) ?_ | refine TD_dec rfl (fun h => ?_) (fun h => ?_) | refine TD_cond rfl (fun h => ?_) (fun h => ?_)))
      refine RD_stN (vs := eR e) rfl rfl rfl (Ones.one e) (repS (rows := rows1) (i := i) (r' := upR (gt rows1 (i : Int)) j e) (by omega)) (StAts.app (StAts.r (enc := eR) (ms := (gt rows1 (i : Int)).es) (i := (j : Int)) e (by omega) rfl)) rfl rfl ⟨okF, ?_⟩
      rw [upS_def]
      refine RD_hv (φ := allS (upS rows1 i j e) (k0 + (u + m) + 1)) (Hv.upS hs1 hiR memF memF) ?_
      rw [← recs_upS (i := i) (j := j) (e := e) hs1 hiR]
      repeat (refine wXh ?_)
      refine ND_again (C - (j + 1)) _ _ _ (by first | omega | (simp only [List.length_append, List.length_cons, List.length_nil]; omega)) subG subF incF (⟨j + 1, upS rows1 i j e, by omega, rfl, hs1.up hiR, hp1.up hs1 hiR hjC (fun x y hx hy => ?_), rfl, rfl, rfl⟩)
      try dsimp only
      by_cases e1 : x = i ∧ y = j
      · rw [if_pos e1, if_pos (by omega), he, he1, e1.1, e1.2, hat, hat2]
      · rw [if_neg e1]
        by_cases e2 : x < i ∨ (x = i ∧ y < j)
        · rw [if_pos e2, if_pos (by omega)]
        · rw [if_neg e2, if_neg (by omega)]
    · obtain rfl : j = C := by omega
      repeat (refine wXh ?_)
      refine ND_again (R - (i + 1)) _ _ _ (by first | omega | (simp only [List.length_append, List.length_cons, List.length_nil]; omega)) subG subF incF (⟨i + 1, rows1, by omega, rfl, hs1, fun x y hx hy => ?_, rfl, rfl, rfl⟩)
      have h_ := hp1 x y hx hy
      dsimp only at h_ ⊢
      rw [h_]
      by_cases e2 : x < i + 1
      · rw [if_pos e2, if_pos (by omega)]
      · rw [if_neg e2, if_neg (by omega)]
  · obtain rfl : i = R := by omega
    repeat (refine wXh ?_)
    refine ND_ret1 (by first | exact .inl rfl | exact .inr rfl) rfl rfl _ _ subF incF (⟨bo, co, tlo, rows, rfl, hco, hs, fun x y hx hy => by (have h_ := hp x y hx hy; dsimp only at h_ ⊢; rw [h_, if_pos hx]), rfl, rfl⟩)
end
end Go.Proofs.YtdmlebigkakplaaGreat
