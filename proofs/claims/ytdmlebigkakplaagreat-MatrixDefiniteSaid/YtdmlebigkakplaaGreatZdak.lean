/- matrix.eliminate, with pivots above 0. -/
import Derived.Test.YtdmlebigkakplaaGreatZdaj
import Derived.Test.YtdmlebigkakplaaGreatZdae
import Derived.Test.YtdmlebigkakplaaGreatZdaa
set_option linter.unusedSimpArgs false
set_option linter.unusedVariables false
namespace Go.Proofs.YtdmlebigkakplaaGreat
open Go Go.Fx
def ElP (n : Nat) (f : Nat → Nat → Rat) (k0 : Nat) (M0 : List Ent) (I0 : List Imm) (v : Value) (M : List Ent) (I : List Imm) : Prop :=
  ∃ (bl : Nat) (lr : List MR) (kd : Nat) (q : Option Addr) (c : Nat) (s : Value), v = .tuple #[.slice (some ⟨bl, 0, none⟩) n n, .slice q kd c, s] ∧ lr.length = n ∧ (∀ r ∈ lr, r.es.length = n) ∧ kd ≤ n ∧ (∀ t, t < kd → 0 < rsF f t t t) ∧ (kd < n → ¬ 0 < rsF f kd kd kd) ∧
    (∀ t, t < kd → ∀ i, t < i → i < n → (gt (gt lr (i : Int)).es (t : Int)).q = rsF f t i t / rsF f t t t) ∧ M = .blk bl (recs eM lr) 61 :: (lr.map entM ++ M0) ∧ I = allM lr (kb k0 kd) :: I0
section
variable {X : List Nat} {w0 : World} {M0 : List Ent} {I0 : List Imm}
theorem pos1_ok {e : RE} {k : Nat} (hk : k ≤ 100000000) (he : Hv I0 (isR e k)) : CD Tryz.prog 179 ((#[] : Array Value).toList ++ [rv e] ++ (#[] : Array Value).toList) X w0 M0 I0 (fun v M I => M0 = M ∧ I0 = I ∧ v = .bool (B (0 < e.q))) := by
  refine enterD1 Tryz.func179 rfl Tryz.ntmps179 rfl ?_
  refine TD_seq ?_
  refine TD_region ?_
  (refine RD_boxA rfl rfl rfl ?_; intro b; refine ⟨okF, ?_⟩)
  repeat (refine wXh ?_)
  (refine RD_callS rfl (QSign_ok (k := k) (by omega) he) rfl rfl ?_; rintro _ _ _ ⟨rfl, rfl, rfl⟩; refine ⟨okF, ?_⟩)
  repeat (refine wXh ?_)
  refine ND_ret1 (by first | exact .inl rfl | exact .inr rfl) rfl rfl _ _ subF incF (⟨rfl, rfl, congrArg Value.bool (B_congr (sign_pos _))⟩)
set_option maxRecDepth 100000 in
set_option maxHeartbeats 4000000 in
theorem eliminate_ok {a : MX} {n k0 : Nat} (hb : kb k0 n ≤ 20000000) (hk0 : k0 ≤ 20000000) (da : a.fit n n) (ha : isX a k0 ∈ I0) :
    CD Tryz.prog 178 [mv a, .func (.func 179) #[] #[]] X w0 M0 I0 (ElP n (at2 a.q) k0 M0 I0) := by
  obtain ⟨n1, n2⟩ := da.2.1
  have lR := da.1.1
  have hMk := fun M0 I0 => mmade_ok (X := X) (w0 := w0) (M0 := M0) (I0 := I0) (R := n) (C := n) (g := 153) (fs := #[]) (cs := #[]) (k0 := 0) (by omega) (by omega) dlt (fun M I _ i j hi hj => by have := unit_ok (X := X) (w0 := w0) (M0 := M) (I0 := I) (i := (i : Int)) (j := (j : Int)); rw [← dlt_int] at this; exact this)
  refine enterD2 Tryz.func178 rfl Tryz.ntmps178 rfl ?_
  repeat (refine wXh ?_)
  rw [lR]
  (refine RD_callS rfl (hMk _ _) rfl rfl ?_; rintro _ _ _ ⟨bl, lr0, rfl, hl0, hlc0, hlq0, rfl, rfl⟩; refine ⟨okF, ?_⟩)
  repeat (refine wXh ?_)
  (refine RD_callS rfl (xcopied_ok da memF) rfl rfl ?_; rintro _ _ _ ⟨bo, rows0, rfl, hr0, hc0, hq0, rfl, rfl⟩; refine ⟨okF, ?_⟩)
  repeat (refine wXh ?_)
  obtain ⟨f, hf⟩ : ∃ f, f = at2 a.q := ⟨_, rfl⟩
  rw [← hf]
  have hmq0 : mq rows0 = a.q := by rw [da.1.mk]; exact hq0
  have hv0 : ∀ i j : Nat, i < n → j < n → (gt (gt rows0 (i : Int)).es (j : Int)).q = rsF f 0 i j := fun i j hi hj => by
    rw [← at2_mq (by omega) (by rw [hc0 _ (gt_mem (by omega))]; exact hj), hmq0, hf]; rfl
  refine TD_row0 26 4 ?_
  refine TD_perm permE.symm ?_
  refine TD_hv (φ := allM lr0 (kb k0 0)) (Hv.monoM (k := 0) memF (Nat.zero_le _)) ?_
  refine TD_loop [0, 1, 18] rfl (fun k G M I => ∃ (κ : Nat) (lr rows : List MR) (ds : List RE) (q : Option Addr) (c : Nat), κ ≤ n ∧ k = n - κ ∧ lr.length = n ∧ (∀ r ∈ lr, r.es.length = n) ∧ rows.length = n ∧ (∀ r ∈ rows, r.es.length = n) ∧ ds.length = κ ∧ (∀ i j : Nat, i < n → j < n → (gt (gt rows (i : Int)).es (j : Int)).q = rsF f κ i j) ∧ (∀ t, t < κ → 0 < rsF f t t t) ∧ (∀ t, t < κ → ∀ i, t < i → i < n → (gt (gt lr (i : Int)).es (t : Int)).q = rsF f t i t / rsF f t t t) ∧ G = [(4, .slice (some ⟨bl, 0, none⟩) n n), (5, .slice q ds.length c), (6, .slice (some ⟨bo, 0, none⟩) n n), (19, .int .i64 κ)] ∧ M = .row q ds.length c (recs eR ds) 26 4 :: .blk bl (recs eM lr) 61 :: .blk bo (recs eM rows) 61 :: (lr.map entM ++ (rows.map entM ++ M0)) ∧ I = allM lr (kb k0 κ) :: allM rows (kb k0 κ) :: I0) (n) _ _ _ subG subF incF (⟨0, lr0, rows0, [], none, 0, by omega, rfl, hl0, hlc0, hr0, hc0, rfl, hv0, fun t ht => by omega, fun t ht => by omega, rfl, rfl, rfl⟩) ?_
  clear hMk hv0
  rintro kk G M I ⟨κ, lr, rows, ds, q, c, hκ, rfl, hll, hlc, hrl, hrc, hdl, hval, hpos, hlv, rfl, rfl, rfl⟩
  have hbj := kb_mono k0 (m := κ) (n := n) hκ
  have hlg : ∀ t : Nat, t < n → (gt lr (t : Int)).es.length = n := fun t ht => hlc _ (gt_mem (by omega))
  have hrg : ∀ t : Nat, t < n → (gt rows (t : Int)).es.length = n := fun t ht => hrc _ (gt_mem (by omega))
  by_cases hκn : κ < n
  · have hb4 : 4 * kb k0 κ + 1 ≤ 20000000 := Nat.le_trans (kb_mono k0 (m := κ + 1) (n := n) hκn) hb
    have hkj1 : kb k0 (κ + 1) = 4 * kb k0 κ + 1 := rfl
    have hkn := kb_mono k0 (m := κ + 1) (n := n) hκn
    generalize hkj : kb k0 κ = kj at *
    have hlk := hrg κ hκn
    have hP := fun M0 I0 h => pos1_ok (X := X) (w0 := w0) (M0 := M0) (I0 := I0) (e := gt (gt rows (κ : Int)).es (κ : Int)) (k := kj) (by omega) h
    have hvk := hval κ κ hκn hκn
    refine TD_perm (focR (rows := rows) (i := κ) (by omega)) ?_
    by_cases hg : 0 < rsF f κ κ κ
    · rw [B_true (show 0 < (gt (gt rows (κ : Int)).es (κ : Int)).q by rw [hvk]; exact hg)] at hP
      repeat (refine wXh ?_)
      (refine RD_callVS rfl rfl (hP _ _ (Hv.elM (k := kj) memF (by omega) (by omega) (Nat.le_refl _))) rfl rfl rfl ?_; rintro _ _ _ ⟨rfl, rfl, rfl⟩; refine ⟨okF, ?_⟩)
      repeat (refine wXh ?_)
      (refine RD_vals (cs := recs eR [gt (gt rows (κ : Int)).es (κ : Int)]) ([rv (gt (gt rows (κ : Int)).es (κ : Int))]) rfl rfl (by intro v hv; repeat (first | exact absurd hv (List.not_mem_nil) | (rcases List.mem_cons.1 hv with rfl | hv; · rfl))) (by omega) rfl rfl rfl ?_; intro b7; refine ⟨okF, ?_⟩)
      (refine RD_appR (ys := [gt (gt rows (κ : Int)).es (κ : Int)]) 2 rfl rfl rfl ?_ (by decide) rfl (by omega) (by omega) rfl rfl ?_; (· first | exact Src.blk memF | exact Src.row memF | exact Src.imm memF (by first | assumption | exact .inl (Ok.mk _ _))); intro q2 c2; refine ⟨okF, ?_⟩)
      refine RD_w (SubP.drop SubP.refl) (.of fun φ h => h) ?_
      obtain ⟨ds2, hds2⟩ : ∃ ds2, ds2 = ds ++ [gt (gt rows (κ : Int)).es (κ : Int)] := ⟨_, rfl⟩
      have hdl2 : ds2.length = κ + 1 := by rw [hds2]; simp [hdl]
      rw [← hds2]
      refine RD_perm (focR (rows := rows) (i := κ) (by omega)).symm ?_
      repeat (refine wXh ?_)
      clear hP
      refine TD_hv (φ := allM lr (kj + kj)) (Hv.monoM (k := kj) memF (by omega)) ?_
      refine TD_loop [0, 1, 4, 5, 6, 7, 18, 19] rfl (fun k G M I => ∃ (i : Nat) (l2 : List MR), κ + 1 ≤ i ∧ i ≤ n ∧ k = n - i ∧ l2.length = n ∧ (∀ t : Nat, t < n → (gt l2 (t : Int)).es.length = n) ∧ (∀ t, t < κ → ∀ x, t < x → x < n → (gt (gt l2 (x : Int)).es (t : Int)).q = rsF f t x t / rsF f t t t) ∧ (∀ x : Nat, κ < x → x < i → (gt (gt l2 (x : Int)).es (κ : Int)).q = rsF f κ x κ / rsF f κ κ κ) ∧ G = [(8, .int .i64 i)] ∧ M = .row q2 ds2.length c2 (recs eR ds2) 26 4 :: .blk bl (recs eM l2) 61 :: .blk bo (recs eM rows) 61 :: (l2.map entM ++ (rows.map entM ++ M0)) ∧ I = allM l2 (kj + kj) :: allM rows kj :: I0) (n - (κ + 1)) _ _ _ subG subF incF (⟨κ + 1, lr, by omega, by omega, rfl, hll, hlg, hlv, fun x h1 h2 => by omega, rfl, rfl, rfl⟩) ?_
      rintro kk G M I ⟨i, l2, hji, hin, rfl, hl2, hl2g, hl2v, hl2k, rfl, rfl, rfl⟩
      by_cases hi : i < n
      · have hik : i ≠ κ := by omega
        have hli := hl2g i hi
        have hri := hrg i hi
        have hfoc := foc3 (A := .row q2 ds2.length c2 (recs eR ds2) 26 4) (B := .blk bl (recs eM l2) 61) (C := .blk bo (recs eM rows) 61) (M := M0) (ls := l2) (rows := rows) (i := i) (k := κ) (by omega) (by omega) (by omega) hik
        have hQ := fun M0 I0 h1 h2 => quotient_ok (X := X) (w0 := w0) (M0 := M0) (I0 := I0) (a := gt (gt rows (i : Int)).es (κ : Int)) (b := gt (gt rows (κ : Int)).es (κ : Int)) (k := kj) (m := kj) (by omega) (by rw [hvk]; intro e; rw [e] at hg; exact absurd hg (by decide)) h1 h2
        refine TD_perm hfoc ?_
        repeat (refine wXh ?_)
        (repeat refine TD_seq ?_); refine TD_drawnJ 1 [0, 1, 2, 3, 4, 5, 6, 7, 8, 9, 10, 11, 12, 13, 14, 15, 16, 17, 18, 19, 20, 21] [1, 1, 1, 1, 1, 1, 1, 1, 1, 1, 1, 0, 1, 1, 1, 1, 1, 1, 0, 0, 0, 0] mixed (by kernel_rfl) ?_
        repeat (refine wXh ?_)
        (refine RD_callS rfl (hQ _ _ (Hv.elM (k := kj) memF (by omega) (by omega) (Nat.le_refl _)) (Hv.elM (k := kj) memF (by omega) (by omega) (Nat.le_refl _))) rfl rfl ?_; rintro _ _ _ ⟨rfl, e2, rfl, he2, rfl⟩; refine ⟨okF, ?_⟩)
        clear hQ
        repeat' (first | refine TD_seq ?_ | refine TD_region ?_ | refine TD_ret ?_ | refine TD_skip ?_ | refine TD_label ?_ | refine TD_block ?_ | refine TD_exit ?_ | refine ND_then ?_ | refine ND_thenR ?_ | refine ND_thenE ?_ | refine ND_inN ?_ | refine ND_inR ?_ | refine ND_inE ?_ | refine ND_inO rfl ?_ | refine RD_nil ?_ | (refine RD_isGu ?_; first | refine RD_skip rfl rfl rfl ?_ | (refine RD_isEf rfl rfl ?_; refine RD_skipE rfl rfl rfl okF ?_) | refine RD_grdY rfl rfl (by omega) ?_ | refine RD_grdN rfl rfl (by omega) ?_ | refine RD_grd rfl rfl (fun h => ?_) (fun h => ?_) | (fail_if_success (refine RD_isW rfl ?_); refine RD_grdB rfl rfl (fun h => ?_) (fun h => ?_))) | (refine RD_isUn ?_; refine RD_c rfl (fun _ => Const_notB rfl) rfl rfl ?_) | refine RD_c rfl (fun _ => Const_pure rfl) rfl rfl ?_ | (refine RD_isBi ?_; first | refine RD_c rfl (fun _ => Const_add rfl rfl wF) rfl rfl ?_ | refine RD_c rfl (fun _ => Const_sub rfl rfl wF) rfl rfl ?_ | refine RD_c rfl (fun _ => Const_mul rfl rfl wF) rfl rfl ?_ | refine RD_c rfl (fun _ => Const_quo rfl rfl (by omega) qF) rfl rfl ?_ | refine RD_c rfl (fun _ => Const_rem rfl rfl (by omega) rfl) rfl rfl ?_ | refine RD_c rfl (fun _ => Const_half rfl rfl) rfl rfl ?_ | refine RD_c rfl (fun _ => Const_eqBB rfl rfl) rfl rfl ?_ | refine RD_c rfl (fun _ => Const_neBB rfl rfl) rfl rfl ?_ | refine RD_c rfl (fun _ => Const_eqB rfl rfl) rfl rfl ?_ | refine RD_c rfl (fun _ => Const_neB rfl rfl) rfl rfl ?_) | (refine RD_isUn ?_; first | refine RD_c rfl (fun _ => Const_neg rfl wF) rfl rfl ?_) | (refine RD_isCv ?_; first | refine RD_c rfl (fun _ => Const_conv rfl wF) rfl rfl ?_) | (refine RD_isCa ?_; first | refine RD_c rfl (fun _ => Const_len rfl) rfl rfl ?_ | refine RD_c rfl (fun _ => Const_minM rfl rfl) rfl rfl ?_ | refine RD_c rfl (fun _ => Const_maxM rfl rfl) rfl rfl ?_ | refine RD_c rfl (fun _ => Const_min3 rfl rfl rfl) rfl rfl ?_) | (refine RD_isFa ?_; first | refine RD_fldP rfl (by decide) rfl rfl ?_ | refine RD_fld rfl (by decide) rfl rfl ?_) | (refine RD_isIx ?_; first | refine RD_ixB rfl rfl bdI rfl rfl ?_ | refine RD_ixI vwF rfl rfl bdI memF posC rfl rfl ?_ | refine RD_ixR vwF rfl rfl bdI memF posC rfl rfl ?_ | refine RD_c rfl (fun _ => Const_indexA rfl rfl bdI) rfl rfl ?_) | (refine RD_isLd ?_; first | (apply RD_ldZB; exact vwF; exact rfl; (focus ((repeat (first | with_reducible exact List.mem_cons_self | with_reducible assumption | with_reducible refine List.mem_cons_of_mem _ ?_)); done)); exact atY; exact rfl; exact rfl) | (apply RD_ldZIB; exact vwF; exact rfl; (focus ((repeat (first | with_reducible exact List.mem_cons_self | with_reducible assumption | with_reducible refine List.mem_cons_of_mem _ ?_)); done)); exact atY; exact rfl; exact rfl) | (apply RD_ldZI; exact vwF; exact rfl; (focus ((repeat (first | with_reducible exact List.mem_cons_self | with_reducible assumption | with_reducible refine List.mem_cons_of_mem _ ?_)); done)); exact atY; exact rfl; exact rfl) | (apply RD_ldZR; exact vwF; exact rfl; (focus ((repeat (first | with_reducible exact List.mem_cons_self | with_reducible assumption | with_reducible refine List.mem_cons_of_mem _ ?_)); done)); exact atY; exact rfl; exact rfl) | (apply RD_ldB; exact vwF; exact rfl; (focus ((repeat (first | with_reducible exact List.mem_cons_self | with_reducible assumption | with_reducible refine List.mem_cons_of_mem _ ?_)); done)); exact atF; exact rfl; exact rfl) | (apply RD_ldIB; exact vwF; exact rfl; (focus ((repeat (first | with_reducible exact List.mem_cons_self | with_reducible assumption | with_reducible refine List.mem_cons_of_mem _ ?_)); done)); exact atF; exact rfl; exact rfl) | (apply RD_ldI; exact vwF; exact rfl; (focus ((repeat (first | with_reducible exact List.mem_cons_self | with_reducible assumption | with_reducible refine List.mem_cons_of_mem _ ?_)); done)); exact atF; exact rfl; exact rfl) | (apply RD_ldR; exact vwF; exact rfl; (focus ((repeat (first | with_reducible exact List.mem_cons_self | with_reducible assumption | with_reducible refine List.mem_cons_of_mem _ ?_)); done)); exact atF; exact rfl; exact rfl)) | (refine RD_isFd ?_; first | refine RD_c rfl (fun _ => Const_field1 rfl rfl) rfl rfl ?_ | refine RD_c rfl (fun _ => Const_fieldN rfl) rfl rfl ?_) | (refine TD_isCo ?_; first | refine TD_cond_true rfl ?_ | refine TD_cond_false rfl ?_ | refine TD_yes rfl (by omega) ?_ | refine TD_no rfl (by omega) ?_ | refine TD_dec rfl (fun h => ?_) (fun h => ?_) | refine TD_cond rfl (fun h => ?_) (fun h => ?_)))
        refine RD_stN (vs := eR e2) rfl rfl rfl (Ones.one e2) repF (StAts.r e2 (by omega) rfl) rfl rfl ⟨okF, ?_⟩
        obtain ⟨l3, hl3⟩ : ∃ l3, l3 = l2.set i ⟨(gt l2 (i : Int)).b, st (gt l2 (i : Int)).es (κ : Int) e2⟩ := ⟨_, rfl⟩
        have hl3l : l3.length = n := by rw [hl3, List.length_set]; exact hl2
        have hh3 : recs eM l2 = recs eM l3 := by rw [hl3]; exact (recs_eM_set (by omega) (by rw [st_len])).symm
        have he3 : l2.eraseIdx i = l3.eraseIdx i := by rw [hl3, eraseIdx_set1]
        have hg3i : gt l3 (i : Int) = ⟨(gt l2 (i : Int)).b, st (gt l2 (i : Int)).es (κ : Int) e2⟩ := by rw [hl3, gt_lt (by simpa using (show i < l2.length by omega))]; simp
        have hg3o : ∀ t : Nat, t < n → t ≠ i → gt l3 (t : Int) = gt l2 (t : Int) := fun t ht hti => by
          rw [hl3, gt_lt (by simpa using (show t < l2.length by omega)), List.getElem_set_ne (Ne.symm hti)]; exact (gt_lt (by omega)).symm
        have hf3 := foc3 (A := .row q2 ds2.length c2 (recs eR ds2) 26 4) (B := .blk bl (recs eM l3) 61) (C := .blk bo (recs eM rows) 61) (M := M0) (ls := l3) (rows := rows) (i := i) (k := κ) (by omega) (by omega) (by omega) hik
        rw [hg3i] at hf3
        rw [hh3, he3]
        refine RD_perm hf3.symm ?_
        refine RD_hv (φ := allR (gt l2 (i : Int)).es (kj + kj)) (Hv.rowMm (k := kj + kj) memF (by omega) (Nat.le_refl _)) ?_
        refine RD_hv (φ := allR (st (gt l2 (i : Int)).es (κ : Int) e2) (kj + kj)) (Hv.stR memF memF) ?_
        refine RD_hv (φ := allM l3 (kj + kj)) (by rw [hl3]; exact Hv.setM (k := kj + kj) (m := kj + kj) memF memF (Nat.le_refl _) (Nat.le_refl _)) ?_
        repeat (refine wXh ?_)
        refine ND_again (n - (i + 1)) _ _ _ (by first | omega | (simp only [List.length_append, List.length_cons, List.length_nil]; omega)) subG subF incF (⟨i + 1, l3, by omega, by omega, rfl, hl3l, fun t ht => ?_, fun t ht x hx hxn => ?_, fun x h1 h2 => ?_, rfl, rfl, rfl⟩)
        · by_cases hti : t = i
          · subst hti; rw [hg3i]; show (st _ _ _).length = n; rw [st_len]; exact hli
          · rw [hg3o t ht hti]; exact hl2g t ht
        · by_cases hxi : x = i
          · subst hxi
            rw [hg3i]
            show (gt (st (gt l2 (x : Int)).es (κ : Int) e2) (t : Int)).q = _
            rw [gt_stN (by omega), if_neg (by omega)]
            exact hl2v t ht x hx hxn
          · rw [hg3o x hxn hxi]; exact hl2v t ht x hx hxn
        · by_cases hxi : x = i
          · subst hxi
            rw [hg3i]
            show (gt (st (gt l2 (x : Int)).es (κ : Int) e2) (κ : Int)).q = _
            rw [gt_stN (by omega), if_pos rfl, he2, hval x κ hi hκn, hvk]
          · rw [hg3o x (by omega) hxi]; exact hl2k x h1 (by omega)
      · obtain rfl : i = n := by omega
        repeat (refine wXh ?_)
        refine TD_hv (φ := allM rows (4 * kj + 1)) (Hv.monoM (k := kj) memF (by omega)) ?_
        refine TD_loop [0, 1, 4, 5, 6, 7, 18, 19] rfl (fun k G M I => ∃ (x : Nat) (rows4 : List MR), κ + 1 ≤ x ∧ x ≤ i ∧ k = i - x ∧ rows4.length = i ∧ (∀ t : Nat, t < i → (gt rows4 (t : Int)).es.length = i) ∧ (∀ t : Nat, t < i → (t ≤ κ ∨ x ≤ t) → gt rows4 (t : Int) = gt rows (t : Int)) ∧ (∀ t : Nat, κ < t → t < x → ∀ u : Nat, u < i → (gt (gt rows4 (t : Int)).es (u : Int)).q = rsF f (κ + 1) t u) ∧ G = [(9, .int .i64 x)] ∧ M = .row q2 ds2.length c2 (recs eR ds2) 26 4 :: .blk bl (recs eM l2) 61 :: .blk bo (recs eM rows4) 61 :: (l2.map entM ++ (rows4.map entM ++ M0)) ∧ I = allM rows4 (4 * kj + 1) :: allM l2 (kj + kj) :: allM rows kj :: I0) (i - (κ + 1)) _ _ _ subG subF incF (⟨κ + 1, rows, by omega, by omega, rfl, hrl, hrg, fun _ _ _ => rfl, fun t h1 h2 => by omega, rfl, rfl, rfl⟩) ?_
        rintro kk G M I ⟨x, rows4, hjx, hxn, rfl, hl4, hC4, hrest, hdone, rfl, rfl, rfl⟩
        have hg4k := hrest κ hκn (.inl (Nat.le_refl _))
        by_cases hx : x < i
        · have hxk : x ≠ κ := by omega
          have hgx := hrest x hx (.inr (Nat.le_refl _))
          have hlx := hC4 x hx
          have hlκ := hC4 κ hκn
          have hll2 := hl2g x hx
          have hRx : ∀ I, allM rows kj ∈ I → Hv I (allR (gt rows4 (x : Int)).es kj) := fun I h => by rw [hgx]; exact Hv.rowMm h (by omega) (Nat.le_refl _)
          have hRk : ∀ I, allM rows kj ∈ I → Hv I (allR (gt rows4 (κ : Int)).es kj) := fun I h => by rw [hg4k]; exact Hv.rowMm h (by omega) (Nat.le_refl _)
          refine TD_perm (focL (ls := l2) (i := x) (by omega)) ?_
          repeat (refine wXh ?_)
          (repeat refine TD_seq ?_); refine TD_drawnK 1 (.blk (gt l2 (x : Int)).b (recs eR (gt l2 (x : Int)).es) 26 :: .row q2 ds2.length c2 (recs eR ds2) 26 4 :: .blk bl (recs eM l2) 61 :: .blk bo (recs eM rows4) 61 :: M0) (allM rows4 (4 * kj + 1) :: allM l2 (kj + kj) :: allM rows kj :: I0) [0, 1, 2, 3, 4, 5, 6, 7, 8, 9, 10, 11, 12, 13, 14, 15, 16] [1, 1, 1, 0, 1, 1, 1, 0, 1, 1, 1, 1, 1, 1, 0, 0, 0] (SubP.c0 (SubP.c0 (SubP.c0 (SubP.c0 (SubP_dropA (SubP_dropA SubP.refl)))))) incF mixed (by kernel_rfl) ?_
          repeat (refine wXh ?_)
          rw [hlx, hlκ]
          refine RD_hv (φ := allR (gt rows4 (x : Int)).es kj) (hRx _ memF) ?_
          refine RD_hv (φ := allR (gt rows4 (κ : Int)).es kj) (hRk _ memF) ?_
          refine RD_hv (φ := isR (gt (gt l2 (x : Int)).es (κ : Int)) (kj + kj)) (Hv.elM (k := kj + kj) memF (by omega) (by omega) (Nat.le_refl _)) ?_
          (refine RD_callS rfl (subRow_ok (kz := kj) (m := kj + kj) (h := kj) (K := 4 * kj + 1) (n := i) (by omega) (by omega) (by omega) hl4 hx hκn hxk hlx hlκ memF memF memF memF) rfl rfl ?_; rintro _ _ _ ⟨rfl, rows5, hl5', hg5o, hl5, hd5, hh5, rfl, rfl⟩; refine ⟨OkD.kY (SubP.c0 (SubP.c0 (SubP.c0 (SubP.c0 (SubP_dropA (SubP_dropA SubP.refl)))))) incF, ?_⟩)
          rw [hh5]
          refine RD_perm (focL (ls := l2) (i := x) (by omega)).symm ?_
          repeat (refine wXh ?_)
          refine ND_again (i - (x + 1)) _ _ _ (by first | omega | (simp only [List.length_append, List.length_cons, List.length_nil]; omega)) subG subF incF (⟨x + 1, rows5, by omega, by omega, rfl, hl5', fun t ht => ?_, fun t ht h => ?_, fun t h1 h2 u hu => ?_, rfl, rfl, rfl⟩)
          · by_cases hti : t = x
            · subst hti; exact hl5
            · rw [hg5o t ht hti]; exact hC4 t ht
          · rw [hg5o t ht (by omega)]; exact hrest t ht (by omega)
          · by_cases hti : t = x
            · subst hti
              rw [hd5 u hu, hgx, hg4k, hl2k t h1 hx, hval t u hx hu, hval κ u hκn hu]
              by_cases huk : u < κ
              · rw [if_pos huk, rsF_keep (by omega)]
              · rw [if_neg huk, rsF_step ⟨h1, by omega⟩]
            · rw [hg5o t (by omega) hti]; exact hdone t h1 (by omega) u hu
        · obtain rfl : x = i := by omega
          repeat (refine wXh ?_)
          refine ND_hv (φ := allM rows4 (kb k0 (κ + 1))) (Hv.monoM (k := 4 * kj + 1) memF (by omega)) ?_
          refine ND_hv (φ := allM l2 (kb k0 (κ + 1))) (Hv.monoM (k := kj + kj) memF (by omega)) ?_
          refine ND_again (x - (κ + 1)) _ _ _ (by first | omega | (simp only [List.length_append, List.length_cons, List.length_nil]; omega)) subG subF incF (⟨κ + 1, l2, rows4, ds2, q2, c2, by omega, rfl, hl2, fun r hr => ?_, hl4, fun r hr => ?_, hdl2, fun t u ht hu => ?_, fun t ht => ?_, fun t ht y hy hyn => ?_, rfl, rfl, rfl⟩)
          · obtain ⟨t, ht, rfl⟩ := List.mem_iff_getElem.1 hr
            have := hl2g t (by omega)
            rwa [gt_lt ht] at this
          · obtain ⟨t, ht, rfl⟩ := List.mem_iff_getElem.1 hr
            have := hC4 t (by omega)
            rwa [gt_lt ht] at this
          · by_cases htk : t ≤ κ
            · rw [hrest t ht (.inl htk), hval t u ht hu, rsF_keep (by omega)]
            · exact hdone t (by omega) ht u hu
          · by_cases htk : t = κ
            · subst htk; exact hg
            · exact hpos t (by omega)
          · by_cases htk : t = κ
            · subst htk; exact hl2k y hy hyn
            · exact hl2v t (by omega) y hy hyn
    · rw [B_false (show ¬ 0 < (gt (gt rows (κ : Int)).es (κ : Int)).q by rw [hvk]; exact hg)] at hP
      repeat (refine wXh ?_)
      (refine RD_callVS rfl rfl (hP _ _ (Hv.elM (k := kj) memF (by omega) (by omega) (Nat.le_refl _))) rfl rfl rfl ?_; rintro _ _ _ ⟨rfl, rfl, rfl⟩; refine ⟨okF, ?_⟩)
      refine RD_perm (focR (rows := rows) (i := κ) (by omega)).symm ?_
      refine RD_perm permE ?_
      refine RD_w (SubP.drop (SubP.drop (SubP_dropA SubP.refl))) (.of fun φ h => h) ?_
      repeat (refine wXh ?_)
      refine ND_hv (φ := allM lr (kb k0 κ)) (Hv.monoM (k := kj) memF (by omega)) ?_
      refine ND_rets [4, 5, 6] (by first | exact .inl rfl | exact .inr rfl) rfl rfl rfl _ _ subF incF (⟨bl, lr, κ, q, c, _, by rw [hdl], hll, hlc, by omega, hpos, fun _ => hg, hlv, rfl, rfl⟩)
  · obtain rfl : κ = n := by omega
    refine TD_perm permE ?_
    refine TD_w (SubP.drop (SubP.drop (SubP_dropA SubP.refl))) (.of fun φ h => h) ?_
    repeat (refine wXh ?_)
    refine ND_rets [4, 5, 6] (by first | exact .inl rfl | exact .inr rfl) rfl rfl rfl _ _ subF incF (⟨bl, lr, κ, q, c, _, by rw [hdl], hll, hlc, by omega, hpos, fun h => by omega, hlv, rfl, rfl⟩)
theorem eliminateX_ok {a : MX} {n k0 : Nat} (hb : kb k0 n ≤ 20000000) (hk0 : k0 ≤ 20000000) (da : a.fit n n) (ha : isX a k0 ∈ I0) :
    CD Tryz.prog 178 [mv a, .func (.func 179) #[] #[]] X w0 M0 I0 (fun v M I => M0 = M ∧ ∃ (L : MX) (kd : Nat) (q : Option Addr) (c : Nat) (s : Value), v = .tuple #[mv L, .slice q kd c, s] ∧ L.dim n n ∧ kd ≤ n ∧ (∀ t, t < kd → 0 < rsF (at2 a.q) t t t) ∧ (kd < n → ¬ 0 < rsF (at2 a.q) kd kd kd) ∧
      (∀ t, t < kd → ∀ i, t < i → i < n → at2 L.q i t = rsF (at2 a.q) t i t / rsF (at2 a.q) t t t) ∧ I = isX L (kb k0 kd) :: I0) := by
  refine CD.post (eliminate_ok hb hk0 da ha) (fun v M I w h hw => ?_)
  obtain ⟨bl, lr, kd, q, c, s, rfl, hl, hlc, hkd, hp, hn, hv, rfl, rfl⟩ := h
  refine ⟨M0, isX (MR.x bl lr) (kb k0 kd) :: I0, ⟨rfl, MR.x bl lr, kd, q, c, s, ?_, ⟨by simp [MR.x, hl], fun r hr => ?_⟩, hkd, hp, hn, fun t ht i hti hi => ?_, rfl⟩, (freezeX hw (List.Mem.head _)).inc (.of fun φ hφ => by
    rcases List.mem_cons.1 hφ with rfl | hφ
    · exact List.Mem.head _
    · exact List.Mem.tail _ (List.Mem.tail _ hφ))⟩
  · have e : (MR.x bl lr).rows.length = n := by show (lr.map MR.l).length = n; rw [List.length_map, hl]
    have e2 : (MR.x bl lr).c = n := hl
    show _ = Value.tuple #[.slice (MR.x bl lr).p (MR.x bl lr).rows.length (MR.x bl lr).c, _, _]
    rw [e, e2]; rfl
  · obtain ⟨s, hs, rfl⟩ := List.mem_map.1 hr
    exact hlc s hs
  · rw [q_x, at2_mq (by omega) (by rw [hlc _ (gt_mem (by omega))]; omega)]
    exact hv t ht i hti hi
end
end Go.Proofs.YtdmlebigkakplaaGreat
