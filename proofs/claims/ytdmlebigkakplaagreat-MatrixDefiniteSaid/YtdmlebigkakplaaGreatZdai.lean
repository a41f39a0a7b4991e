/- matrix.Determinant. -/
import Derived.Test.YtdmlebigkakplaaGreatZdah
import Derived.Test.YtdmlebigkakplaaGreatZdaa
import Derived.Test.YtdmlebigkakplaaGreatZdae
set_option linter.unusedSimpArgs false
set_option linter.unusedVariables false
namespace Go.Proofs.YtdmlebigkakplaaGreat
open Go Go.Fx
theorem focA {rows : List MR} {i : Nat} (h : i < rows.length) {M1 : List Ent} : ∀ {P : List Ent}, (P ++ (rows.map entM ++ M1)).Perm (entM (gt rows (i : Int)) :: (P ++ ((rows.eraseIdx i).map entM ++ M1)))
  | [] => by
    have h1 := (perm_front rows i h).map entM
    rw [List.map_cons, ← gt_lt h] at h1
    exact h1.append_right M1
  | x :: P => (List.Perm.cons x (focA h (P := P))).trans (List.Perm.swap _ _ _)
theorem focB {rows : List MR} {i j : Nat} (hi : i < rows.length) (hj : j < rows.length) (hij : i ≠ j) {M1 : List Ent} : ∀ {P : List Ent}, (P ++ (rows.map entM ++ M1)).Perm (entM (gt rows (i : Int)) :: entM (gt rows (j : Int)) :: (P ++ ((rest2 rows i j).map entM ++ M1)))
  | [] => by
    have h1 := (perm_front2 rows i j hi hj hij).map entM
    rw [List.map_cons, List.map_cons, ← gt_lt hi, ← gt_lt hj] at h1
    exact h1.append_right M1
  | x :: P => (List.Perm.cons x (focB hi hj hij (P := P))).trans ((List.Perm.swap _ _ _).trans (List.Perm.cons _ (List.Perm.swap _ _ _)))
theorem swp_self {A : Mt} {r : Nat} (h : r < A.length) : swp A r r = A := by
  have e : rowAt A r = A[r] := by simp [rowAt, List.getD, h]
  unfold swp
  rw [e, List.set_set, List.set_getElem_self]
theorem mq_dim {rows : List MR} {R C : Nat} (hl : rows.length = R) (hc : ∀ r ∈ rows, r.es.length = C) : dimL (mq rows) R C :=
  ⟨by simp [hl], fun i hi => by rw [rowAt_mq (by omega)]; simp [hc _ (gt_mem (ms := rows) (i := (i : Int)) (by omega))]⟩
/-- rows below the pivot -/
theorem mq_below {rows4 rows2 : List MR} {n j : Nat} (h4 : rows4.length = n) (h2 : rows2.length = n)
    (hk : ∀ t : Nat, t < n → t ≤ j → gt rows4 (t : Int) = gt rows2 (t : Int))
    (hd : ∀ t : Nat, t < n → j < t → qs (gt rows4 (t : Int)).es = if at2 (mq rows2) t j = 0 then qs (gt rows2 (t : Int)).es else subFrom j (at2 (mq rows2) t j / at2 (mq rows2) j j) (rowAt (mq rows2) j) (qs (gt rows2 (t : Int)).es)) :
    mq rows4 = (mq rows2).mapIdx (fun i row => if i ≤ j then row else if row.getD j 0 = 0 then row else subFrom j (row.getD j 0 / at2 (mq rows2) j j) (rowAt (mq rows2) j) row) := by
  apply List.ext_getElem
  · simp [h4, h2]
  · intro t h1 h3
    have ht : t < n := by simpa [h4] using h1
    have e4 : (mq rows4)[t] = qs (gt rows4 (t : Int)).es := by rw [gt_lt (by omega)]; simp
    have e3 : (mq rows2)[t]'(by simp; omega) = qs (gt rows2 (t : Int)).es := by rw [gt_lt (by omega)]; simp
    have ea : at2 (mq rows2) t j = (qs (gt rows2 (t : Int)).es).getD j 0 := by unfold at2; rw [rowAt_mq (by omega)]
    rw [e4, List.getElem_mapIdx, e3]
    by_cases htj : t ≤ j
    · rw [if_pos htj, hk t ht htj]
    · rw [if_neg htj, hd t ht (by omega), ea]
/- regions that draw: some reads see all up to a first effect, others what stays up to a second one -/
section
variable {P : Program} {n : Nat} {Q : Exit → Act → World → Prop} {G : Env} {X : List Nat} {w0 : World} {M M' M1 Ms : List Ent} {I I' I1 Is : List Imm}
def CsL (J1 J2 : Nat) (X : List Nat) (w0 : World) (M : List Ent) (I : List Imm) (Ms : List Ent) (Is : List Imm) : Nat → World → Prop := fun s w => (s ≤ J1 → Mem X w0 M I w) ∧ (s ≤ J2 → Mem X w0 Ms Is w)
theorem TD_drawnL {id : Nat} {l : List Oper} (J1 J2 : Nat) (Ms : List Ent) (Is : List Imm) (p ms : List Nat) (hM : SubP M Ms) (hI : Inc I Is) (hx : P.follows .mixedOrders = true)
    (hp : (Region.noSelect l.toArray && orderOk l.toArray p ms (Array.replicate l.length false) && p.length == l.length) = true)
    (h : RD P n l Q (.any (CsL J1 J2 X w0 M I Ms Is) 0 ms) (pick l p) G X w0 M I) : TD P n (.region id l.toArray true) Q G X w0 M I :=
  TD_drawnS (CsL J1 J2 X w0 M I Ms Is) p ms hx (fun s w h => ⟨fun hs => h.1 (by omega), fun hs => h.2 (by omega)⟩) hp (fun _ h => ⟨fun _ => h, fun _ => h.weak hM hI⟩) h
theorem View_l1 {J1 J2 k : Nat} {ms : List Nat} (h : k + ms.headD 0 ≤ J1) : View (.any (CsL J1 J2 X w0 M1 I1 Ms Is) k ms) X w0 M I M1 I1 := ⟨fun w w' _ hc => by
  have hc' : CsL J1 J2 X w0 M1 I1 Ms Is (k + ms.headD 0) w' := hc
  exact hc'.1 h⟩
theorem View_l2 {J1 J2 k : Nat} {ms : List Nat} (h : k + ms.headD 0 ≤ J2) : View (.any (CsL J1 J2 X w0 M1 I1 Ms Is) k ms) X w0 M I Ms Is := ⟨fun w w' _ hc => by
  have hc' : CsL J1 J2 X w0 M1 I1 Ms Is (k + ms.headD 0) w' := hc
  exact hc'.2 h⟩
theorem OkD_lY {J1 J2 k : Nat} {ms : List Nat} (h1 : SubP M M1) (i1 : Inc I I1) (h2 : SubP M Ms) (i2 : Inc I Is) : OkD (.any (CsL J1 J2 X w0 M1 I1 Ms Is) k ms) X w0 M I := ⟨fun w hw => by
  show CsL J1 J2 X w0 M1 I1 Ms Is (k + 1) w
  exact ⟨fun _ => hw.weak h1 i1, fun _ => hw.weak h2 i2⟩⟩
theorem OkD_lN {J1 J2 k : Nat} {ms : List Nat} (h1 : J1 ≤ k) (h2 : SubP M Ms) (i2 : Inc I Is) : OkD (.any (CsL J1 J2 X w0 M1 I1 Ms Is) k ms) X w0 M I := ⟨fun w hw => by
  show CsL J1 J2 X w0 M1 I1 Ms Is (k + 1) w
  exact ⟨fun hs => by omega, fun _ => hw.weak h2 i2⟩⟩
end
section
variable {X : List Nat} {w0 : World} {M0 : List Ent} {I0 : List Imm}
abbrev zRm : List Value := [.bool false, .slice none 0 0, .bool false, .slice none 0 0]
set_option maxRecDepth 100000 in
set_option maxHeartbeats 4000000 in
theorem XDeterminant_ok {a : MX} {n k0 : Nat} (hb : kb k0 n ≤ 20000000) (hk0 : k0 ≤ 20000000) (da : a.fit n n) (ha : isX a k0 ∈ I0) : CD Tryz.prog 51 [mv a] X w0 M0 I0 (RQc (dt n (at2 a.q)) (kb k0 n) M0 I0) := by
  obtain ⟨n1, n2⟩ := da.2.1
  refine xCD_fact (fun w hw => Mem.xsml ha da (by omega) hw) (fun sa => ?_)
  have hC := fun M0 I0 h1 => square_ok (X := X) (w0 := w0) (M0 := M0) (I0 := I0) (a := a.raw) sa h1
  have e0 : sqC a.raw = 0 := by
    unfold sqC
    rw [if_pos da.ok, a.raw_rows, MX.raw_c0 da, da.1.1, if_pos rfl]
  rw [e0, mv_raw] at hC
  have hW := fun (x : Int) (hx : x.natAbs ≤ 1) M0 I0 => Whole_ok (X := X) (w0 := w0) (M0 := M0) (I0 := I0) (x := x) (by omega) (k := 0) hx
  refine CD_hv (φ := isWM a.raw) (Hv.xraw ha (by omega)) ?_
  refine enterD1 Tryz.func51 rfl Tryz.ntmps51 rfl ?_
  refine TD_seq ?_
  refine TD_region ?_
  (refine RD_alloc rfl rfl ?_; intro b2; refine ⟨okF, ?_⟩)
  repeat (refine wXh ?_)
  (refine RD_callS rfl (hC _ _ memF) rfl rfl ?_; rintro _ _ _ ⟨rfl, rfl, rfl⟩; refine ⟨okF, ?_⟩)
  repeat (refine wXh ?_)
  (refine RD_callS rfl (xcopied_ok da memF) rfl rfl ?_; rintro _ _ _ ⟨bo, rows0, rfl, hl0, hc0, hq0, rfl, rfl⟩; refine ⟨okF, ?_⟩)
  repeat (refine wXh ?_)
  (refine RD_callS rfl (hW 1 (by decide) _ _) rfl rfl ?_; rintro _ _ _ ⟨rfl, d0, rfl, hd0, rfl⟩; refine ⟨okF, ?_⟩)
  repeat (refine wXh ?_)
  (refine RD_alloc rfl rfl ?_; intro b6; refine ⟨okF, ?_⟩)
  repeat (refine wXh ?_)
  obtain ⟨M1, hM1⟩ : ∃ M1 : List Ent, M1 = .blk b2 zRm 26 :: M0 := ⟨_, rfl⟩
  rw [← hM1]
  have hmq0 : mq rows0 = a.q := by rw [da.1.mk]; exact hq0
  refine TD_hv (φ := isR d0 (kb k0 0)) (Hv.q (k := 0) (List.Mem.head _) (Nat.zero_le _)) ?_
  refine TD_loop [2, 5, 6, 20] rfl (fun k G M I => ∃ (j : Nat) (rows1 : List MR) (d : RE), j ≤ n ∧ k = n - j ∧ rows1.length = n ∧ (∀ r ∈ rows1, r.es.length = n) ∧ dt n (at2 a.q) = d.q * dt (n - j) (blkF (mq rows1) j) ∧ G = [(21, .int .i64 j)] ∧ M = .blk b6 (eR d) 26 :: .blk bo (recs eM rows1) 61 :: (rows1.map entM ++ M1) ∧ I = isR d (kb k0 j) :: allM rows1 (kb k0 j) :: I0) (n) _ _ _ subG subF incF (⟨0, rows0, d0, by omega, rfl, hl0, hc0, by rw [hd0, hmq0, blk_all]; grind, rfl, rfl, rfl⟩) ?_
  clear hC
  rintro kk G M I ⟨j, rows1, d, hj, rfl, hl1, hC1, hD, rfl, rfl, rfl⟩
  have hCg : ∀ t : Nat, t < n → (gt rows1 (t : Int)).es.length = n := fun t ht => hC1 _ (gt_mem (by omega))
  have hdim := mq_dim hl1 hC1
  have hbj := kb_mono k0 (m := j) (n := n) hj
  by_cases hjn : j < n
  · have hb4 : 4 * kb k0 j + 1 ≤ 20000000 := Nat.le_trans (kb_mono k0 (m := j + 1) (n := n) hjn) hb
    have hkj1 : kb k0 (j + 1) = 4 * kb k0 j + 1 := rfl
    generalize hkj : kb k0 j = kj at *
    repeat (refine wXh ?_)
    refine TD_loop [2, 5, 6, 7, 20, 21] rfl (fun k G M I => ∃ x : Nat, j ≤ x ∧ x ≤ n ∧ k = n - x ∧ (∀ i : Nat, j ≤ i → i < x → at2 (mq rows1) i j = 0) ∧ G = [(8, .int .i64 x)] ∧ M = .blk b6 (eR d) 26 :: .blk bo (recs eM rows1) 61 :: (rows1.map entM ++ M1) ∧ I = isR d kj :: allM rows1 kj :: I0) (n - j) _ _ _ subG subF incF (⟨j, by omega, by omega, rfl, fun i h1 h2 => by omega, rfl, rfl, rfl⟩) ?_
    rintro k G M I ⟨x, hjx, hxn, rfl, hz, rfl, rfl, rfl⟩
    by_cases hxn2 : x < n
    · have hlx := hCg x hxn2
      have hat := at2_mq (rows := rows1) (i := x) (j := j) (by omega) (by omega)
      have hS := QSign_ok (X := X) (w0 := w0) (M0 := .blk (gt rows1 (x : Int)).b (recs eR (gt rows1 (x : Int)).es) 26 :: .blk b6 (eR d) 26 :: .blk bo (recs eM rows1) 61 :: ((rows1.eraseIdx x).map entM ++ M1)) (I0 := isR d kj :: allM rows1 kj :: I0) (e := gt (gt rows1 (x : Int)).es (j : Int)) (k := kj) (by omega) (Hv.elM (List.Mem.tail _ (List.Mem.head _)) (by omega) (by omega) (Nat.le_refl _))
      by_cases hx2 : at2 (mq rows1) x j = 0
      · rw [hat] at hx2
        rw [(sign0 _).2 hx2] at hS
        refine TD_perm (foc1 (rows := rows1) (i := x) (by omega)) ?_
        repeat (refine wXh ?_)
        (refine RD_callS rfl (hS) rfl rfl ?_; rintro _ _ _ ⟨rfl, rfl, rfl⟩; refine ⟨okF, ?_⟩)
        repeat (refine wXh ?_)
        refine ND_perm (foc1 (rows := rows1) (i := x) (by omega)).symm ?_
        refine ND_again (n - (x + 1)) _ _ _ (by first | omega | (simp only [List.length_append, List.length_cons, List.length_nil]; omega)) subG subF incF (⟨x + 1, by omega, by omega, rfl, fun i h1 h2 => ?_, rfl, rfl, rfl⟩)
        by_cases e : i = x
        · rw [e, hat]; exact hx2
        · exact hz i h1 (by omega)
      · have hxne := hx2
        rw [hat] at hx2
        have hs0 : ¬ (gt (gt rows1 (x : Int)).es (j : Int)).q.num.sign = 0 := fun h => hx2 ((sign0 _).1 h)
        generalize (gt (gt rows1 (x : Int)).es (j : Int)).q.num.sign = sg1 at *
        refine TD_perm (foc1 (rows := rows1) (i := x) (by omega)) ?_
        repeat (refine wXh ?_)
        (refine RD_callS rfl (hS) rfl rfl ?_; rintro _ _ _ ⟨rfl, rfl, rfl⟩; refine ⟨okF, ?_⟩)
        clear hS
        repeat (refine wXh ?_)
        refine TD_perm (foc1 (rows := rows1) (i := x) (by omega)).symm ?_
        refine TD_cutT (fun G M I => ∃ (rows2 : List MR) (d2 : RE), rows2.length = n ∧ (∀ r ∈ rows2, r.es.length = n) ∧ mq rows2 = swp (mq rows1) j x ∧ d2.q = esg j x * d.q ∧ G = [(2, .pointer (some ⟨b2, 0, none⟩)), (5, .slice (some ⟨bo, 0, none⟩) n n), (6, .pointer (some ⟨b6, 0, none⟩)), (7, .int .i64 (j : Int)), (20, .int .i64 (n : Int)), (21, .int .i64 (j : Int))] ∧ M = .blk b6 (eR d2) 26 :: .blk bo (recs eM rows2) 61 :: (rows2.map entM ++ M1) ∧ I = isR d2 kj :: allM rows2 kj :: I0) ?_ ?_
        · by_cases hxj : x = j
          · subst hxj
            repeat (refine wXh ?_)
            refine ND_cut _ _ _ subG subF incF ⟨rows1, d, hl1, hC1, ?_, ?_, rfl, rfl, rfl⟩
            · exact (swp_self (by simp [hl1]; omega)).symm
            · unfold esg; rw [if_pos rfl]; grind
          · repeat (refine wXh ?_)
            (repeat refine TD_seq ?_); refine TD_drawnJ 0 [0, 1, 2, 3, 4, 5, 6, 7, 8, 9, 10, 11, 12, 13, 14, 15] [0, 0, 1, 1, 0, 0, 0, 0, 1, 1, 1, 0, 0, 0, 0, 0] mixed (by kernel_rfl) ?_
            repeat' (first | refine TD_seq ?_ | refine TD_region ?_ | refine TD_ret ?_ | refine TD_skip ?_ | refine TD_label ?_ | refine TD_block ?_ | refine TD_exit ?_ | refine ND_then ?_ | refine ND_thenR ?_ | refine ND_thenE ?_ | refine ND_inN ?_ | refine ND_inR ?_ | refine ND_inE ?_ | refine ND_inO rfl ?_ | refine RD_nil ?_ | (refine RD_isGu ?_; first | refine RD_skip rfl rfl rfl ?_ | (refine RD_isEf rfl rfl ?_; refine RD_skipE rfl rfl rfl okF ?_) | refine RD_grdY rfl rfl (by omega) ?_ | refine RD_grdN rfl rfl (by omega) ?_ | refine RD_grd rfl rfl (fun h => ?_) (fun h => ?_) | (fail_if_success (refine RD_isW rfl ?_); refine RD_grdB rfl rfl (fun h => ?_) (fun h => ?_))) | (refine RD_isUn ?_; refine RD_c rfl (fun _ => Const_notB rfl) rfl rfl ?_) | refine RD_c rfl (fun _ => Const_pure rfl) rfl rfl ?_ | (refine RD_isBi ?_; first | refine RD_c rfl (fun _ => Const_add rfl rfl wF) rfl rfl ?_ | refine RD_c rfl (fun _ => Const_sub rfl rfl wF) rfl rfl ?_ | refine RD_c rfl (fun _ => Const_mul rfl rfl wF) rfl rfl ?_ | refine RD_c rfl (fun _ => Const_quo rfl rfl (by omega) qF) rfl rfl ?_ | refine RD_c rfl (fun _ => Const_rem rfl rfl (by omega) rfl) rfl rfl ?_ | refine RD_c rfl (fun _ => Const_half rfl rfl) rfl rfl ?_ | refine RD_c rfl (fun _ => Const_eqBB rfl rfl) rfl rfl ?_ | refine RD_c rfl (fun _ => Const_neBB rfl rfl) rfl rfl ?_ | refine RD_c rfl (fun _ => Const_eqB rfl rfl) rfl rfl ?_ | refine RD_c rfl (fun _ => Const_neB rfl rfl) rfl rfl ?_) | (refine RD_isUn ?_; first | refine RD_c rfl (fun _ => Const_neg rfl wF) rfl rfl ?_) | (refine RD_isCv ?_; first | refine RD_c rfl (fun _ => Const_conv rfl wF) rfl rfl ?_) | (refine RD_isCa ?_; first | refine RD_c rfl (fun _ => Const_len rfl) rfl rfl ?_ | refine RD_c rfl (fun _ => Const_minM rfl rfl) rfl rfl ?_ | refine RD_c rfl (fun _ => Const_maxM rfl rfl) rfl rfl ?_ | refine RD_c rfl (fun _ => Const_min3 rfl rfl rfl) rfl rfl ?_) | (refine RD_isFa ?_; first | refine RD_fldP rfl (by decide) rfl rfl ?_ | refine RD_fld rfl (by decide) rfl rfl ?_) | (refine RD_isIx ?_; first | refine RD_ixB rfl rfl bdI rfl rfl ?_ | refine RD_ixI vwF rfl rfl bdI memF posC rfl rfl ?_ | refine RD_ixR vwF rfl rfl bdI memF posC rfl rfl ?_ | refine RD_c rfl (fun _ => Const_indexA rfl rfl bdI) rfl rfl ?_) | (refine RD_isLd ?_; first | (apply RD_ldZB; exact vwF; exact rfl; (focus ((repeat (first | with_reducible exact List.mem_cons_self | with_reducible assumption | with_reducible refine List.mem_cons_of_mem _ ?_)); done)); exact atY; exact rfl; exact rfl) | (apply RD_ldZIB; exact vwF; exact rfl; (focus ((repeat (first | with_reducible exact List.mem_cons_self | with_reducible assumption | with_reducible refine List.mem_cons_of_mem _ ?_)); done)); exact atY; exact rfl; exact rfl) | (apply RD_ldZI; exact vwF; exact rfl; (focus ((repeat (first | with_reducible exact List.mem_cons_self | with_reducible assumption | with_reducible refine List.mem_cons_of_mem _ ?_)); done)); exact atY; exact rfl; exact rfl) | (apply RD_ldZR; exact vwF; exact rfl; (focus ((repeat (first | with_reducible exact List.mem_cons_self | with_reducible assumption | with_reducible refine List.mem_cons_of_mem _ ?_)); done)); exact atY; exact rfl; exact rfl) | (apply RD_ldB; exact vwF; exact rfl; (focus ((repeat (first | with_reducible exact List.mem_cons_self | with_reducible assumption | with_reducible refine List.mem_cons_of_mem _ ?_)); done)); exact atF; exact rfl; exact rfl) | (apply RD_ldIB; exact vwF; exact rfl; (focus ((repeat (first | with_reducible exact List.mem_cons_self | with_reducible assumption | with_reducible refine List.mem_cons_of_mem _ ?_)); done)); exact atF; exact rfl; exact rfl) | (apply RD_ldI; exact vwF; exact rfl; (focus ((repeat (first | with_reducible exact List.mem_cons_self | with_reducible assumption | with_reducible refine List.mem_cons_of_mem _ ?_)); done)); exact atF; exact rfl; exact rfl) | (apply RD_ldR; exact vwF; exact rfl; (focus ((repeat (first | with_reducible exact List.mem_cons_self | with_reducible assumption | with_reducible refine List.mem_cons_of_mem _ ?_)); done)); exact atF; exact rfl; exact rfl)) | (refine RD_isFd ?_; first | refine RD_c rfl (fun _ => Const_field1 rfl rfl) rfl rfl ?_ | refine RD_c rfl (fun _ => Const_fieldN rfl) rfl rfl ?_) | (refine TD_isCo ?_; first | refine TD_cond_true rfl ?_ | refine TD_cond_false rfl ?_ | refine TD_yes rfl (by omega) ?_ | refine TD_no rfl (by omega) ?_ | refine TD_dec rfl (fun h => ?_) (fun h => ?_) | refine TD_cond rfl (fun h => ?_) (fun h => ?_)))
            refine RD_st rfl rfl rfl repF (StAt.r1 (gt rows1 (j : Int)) (by omega) rfl) rfl rfl ⟨okF, ?_⟩
            repeat' (first | refine TD_seq ?_ | refine TD_region ?_ | refine TD_ret ?_ | refine TD_skip ?_ | refine TD_label ?_ | refine TD_block ?_ | refine TD_exit ?_ | refine ND_then ?_ | refine ND_thenR ?_ | refine ND_thenE ?_ | refine ND_inN ?_ | refine ND_inR ?_ | refine ND_inE ?_ | refine ND_inO rfl ?_ | refine RD_nil ?_ | (refine RD_isGu ?_; first | refine RD_skip rfl rfl rfl ?_ | (refine RD_isEf rfl rfl ?_; refine RD_skipE rfl rfl rfl okF ?_) | refine RD_grdY rfl rfl (by omega) ?_ | refine RD_grdN rfl rfl (by omega) ?_ | refine RD_grd rfl rfl (fun h => ?_) (fun h => ?_) | (fail_if_success (refine RD_isW rfl ?_); refine RD_grdB rfl rfl (fun h => ?_) (fun h => ?_))) | (refine RD_isUn ?_; refine RD_c rfl (fun _ => Const_notB rfl) rfl rfl ?_) | refine RD_c rfl (fun _ => Const_pure rfl) rfl rfl ?_ | (refine RD_isBi ?_; first | refine RD_c rfl (fun _ => Const_add rfl rfl wF) rfl rfl ?_ | refine RD_c rfl (fun _ => Const_sub rfl rfl wF) rfl rfl ?_ | refine RD_c rfl (fun _ => Const_mul rfl rfl wF) rfl rfl ?_ | refine RD_c rfl (fun _ => Const_quo rfl rfl (by omega) qF) rfl rfl ?_ | refine RD_c rfl (fun _ => Const_rem rfl rfl (by omega) rfl) rfl rfl ?_ | refine RD_c rfl (fun _ => Const_half rfl rfl) rfl rfl ?_ | refine RD_c rfl (fun _ => Const_eqBB rfl rfl) rfl rfl ?_ | refine RD_c rfl (fun _ => Const_neBB rfl rfl) rfl rfl ?_ | refine RD_c rfl (fun _ => Const_eqB rfl rfl) rfl rfl ?_ | refine RD_c rfl (fun _ => Const_neB rfl rfl) rfl rfl ?_) | (refine RD_isUn ?_; first | refine RD_c rfl (fun _ => Const_neg rfl wF) rfl rfl ?_) | (refine RD_isCv ?_; first | refine RD_c rfl (fun _ => Const_conv rfl wF) rfl rfl ?_) | (refine RD_isCa ?_; first | refine RD_c rfl (fun _ => Const_len rfl) rfl rfl ?_ | refine RD_c rfl (fun _ => Const_minM rfl rfl) rfl rfl ?_ | refine RD_c rfl (fun _ => Const_maxM rfl rfl) rfl rfl ?_ | refine RD_c rfl (fun _ => Const_min3 rfl rfl rfl) rfl rfl ?_) | (refine RD_isFa ?_; first | refine RD_fldP rfl (by decide) rfl rfl ?_ | refine RD_fld rfl (by decide) rfl rfl ?_) | (refine RD_isIx ?_; first | refine RD_ixB rfl rfl bdI rfl rfl ?_ | refine RD_ixI vwF rfl rfl bdI memF posC rfl rfl ?_ | refine RD_ixR vwF rfl rfl bdI memF posC rfl rfl ?_ | refine RD_c rfl (fun _ => Const_indexA rfl rfl bdI) rfl rfl ?_) | (refine RD_isLd ?_; first | (apply RD_ldZB; exact vwF; exact rfl; (focus ((repeat (first | with_reducible exact List.mem_cons_self | with_reducible assumption | with_reducible refine List.mem_cons_of_mem _ ?_)); done)); exact atY; exact rfl; exact rfl) | (apply RD_ldZIB; exact vwF; exact rfl; (focus ((repeat (first | with_reducible exact List.mem_cons_self | with_reducible assumption | with_reducible refine List.mem_cons_of_mem _ ?_)); done)); exact atY; exact rfl; exact rfl) | (apply RD_ldZI; exact vwF; exact rfl; (focus ((repeat (first | with_reducible exact List.mem_cons_self | with_reducible assumption | with_reducible refine List.mem_cons_of_mem _ ?_)); done)); exact atY; exact rfl; exact rfl) | (apply RD_ldZR; exact vwF; exact rfl; (focus ((repeat (first | with_reducible exact List.mem_cons_self | with_reducible assumption | with_reducible refine List.mem_cons_of_mem _ ?_)); done)); exact atY; exact rfl; exact rfl) | (apply RD_ldB; exact vwF; exact rfl; (focus ((repeat (first | with_reducible exact List.mem_cons_self | with_reducible assumption | with_reducible refine List.mem_cons_of_mem _ ?_)); done)); exact atF; exact rfl; exact rfl) | (apply RD_ldIB; exact vwF; exact rfl; (focus ((repeat (first | with_reducible exact List.mem_cons_self | with_reducible assumption | with_reducible refine List.mem_cons_of_mem _ ?_)); done)); exact atF; exact rfl; exact rfl) | (apply RD_ldI; exact vwF; exact rfl; (focus ((repeat (first | with_reducible exact List.mem_cons_self | with_reducible assumption | with_reducible refine List.mem_cons_of_mem _ ?_)); done)); exact atF; exact rfl; exact rfl) | (apply RD_ldR; exact vwF; exact rfl; (focus ((repeat (first | with_reducible exact List.mem_cons_self | with_reducible assumption | with_reducible refine List.mem_cons_of_mem _ ?_)); done)); exact atF; exact rfl; exact rfl)) | (refine RD_isFd ?_; first | refine RD_c rfl (fun _ => Const_field1 rfl rfl) rfl rfl ?_ | refine RD_c rfl (fun _ => Const_fieldN rfl) rfl rfl ?_) | (refine TD_isCo ?_; first | refine TD_cond_true rfl ?_ | refine TD_cond_false rfl ?_ | refine TD_yes rfl (by omega) ?_ | refine TD_no rfl (by omega) ?_ | refine TD_dec rfl (fun h => ?_) (fun h => ?_) | refine TD_cond rfl (fun h => ?_) (fun h => ?_)))
            refine RD_st rfl rfl rfl repF (StAt.r1 (gt rows1 (x : Int)) (by rw [st_len]; omega) rfl) rfl rfl ⟨okF, ?_⟩
            obtain ⟨rows2, hrows2⟩ : ∃ rows2, rows2 = st (st rows1 (x : Int) (gt rows1 (j : Int))) (j : Int) (gt rows1 (x : Int)) := ⟨_, rfl⟩
            have hsp := swap_perm (rows := rows1) (r := x) (k := j) (by omega) (by omega)
            rw [← hrows2] at hsp ⊢
            refine RD_perm (M' := .blk b6 (eR d) 26 :: .blk bo (recs eM rows2) 61 :: (rows2.map entM ++ M1)) (List.Perm.cons _ (List.Perm.cons _ ((hsp.symm.map entM).append_right M1))) ?_
            refine RD_hv (φ := allM rows2 kj) (Hv.permM (List.Mem.tail _ (List.Mem.head _)) hsp) ?_
            repeat (refine wXh ?_)
            (refine RD_callS rfl (QNeg_ok (k := kj) (by omega) (Hv.mem memF)) rfl rfl ?_; rintro _ _ _ ⟨rfl, d2, rfl, hd2, rfl⟩; refine ⟨okF, ?_⟩)
            repeat (refine wXh ?_)
            refine ND_cut _ _ _ subG subF incF ⟨rows2, d2, by rw [hsp.length_eq]; exact hl1, fun r hr => hC1 r (hsp.mem_iff.1 hr), ?_, ?_, rfl, rfl, rfl⟩
            · rw [hrows2]
              unfold st swp
              simp only [Int.toNat_natCast]
              rw [mq_set, mq_set, rowAt_mq (by omega), rowAt_mq (by omega), List.set_comm _ _ hxj]
            · unfold esg; rw [if_neg (fun e => hxj e.symm), hd2]; grind
        · clear hs0 hz
          rintro G M I ⟨rows2, d2, hl2, hC2, hmq2, hd2, rfl, rfl, rfl⟩
          have hC2g : ∀ t : Nat, t < n → (gt rows2 (t : Int)).es.length = n := fun t ht => hC2 _ (gt_mem (by omega))
          have hdim2 := mq_dim hl2 hC2
          have hlr := hC2g j hjn
          have hatj := at2_mq (rows := rows2) (i := j) (j := j) (by omega) (by omega)
          have hpe : at2 (mq rows2) j j = at2 (mq rows1) x j := by
            rw [hmq2]
            unfold at2
            rw [rowAt_swp hdim hjn hxn2]
            simp [tr]
          have hpiv : (gt (gt rows2 (j : Int)).es (j : Int)).q ≠ 0 := by rw [← hatj, hpe]; exact hxne
          have hEl : ∀ I, allM rows2 kj ∈ I → Hv I (isR (gt (gt rows2 (j : Int)).es (j : Int)) kj) := fun I h => Hv.elM h (by omega) (by omega) (Nat.le_refl _)
          refine TD_perm (foc1 (rows := rows2) (i := j) (by omega)) ?_
          (repeat refine TD_seq ?_); refine TD_drawnJ 1 [0, 1, 2, 3, 4, 5, 6, 7, 8, 9] [0, 1, 1, 1, 1, 1, 1, 0, 0, 0] mixed (by kernel_rfl) ?_
          repeat (refine wXh ?_)
          (refine RD_callS rfl (QMul_ok (k := kj) (m := kj) (by omega) (Hv.mem memF) (hEl _ memF)) rfl rfl ?_; rintro _ _ _ ⟨rfl, d3, rfl, hd3, rfl⟩; refine ⟨okF, ?_⟩)
          repeat (refine wXh ?_)
          refine TD_perm (foc1 (rows := rows2) (i := j) (by omega)).symm ?_
          refine TD_hv (φ := allM rows2 (4 * kj + 1)) (Hv.monoM (k := kj) memF (by omega)) ?_
          refine TD_loop [2, 5, 6, 7, 20, 21] rfl (fun k G M I => ∃ (i : Nat) (rows4 : List MR), j + 1 ≤ i ∧ i ≤ n ∧ k = n - i ∧ rows4.length = n ∧ (∀ t : Nat, t < n → (gt rows4 (t : Int)).es.length = n) ∧ (∀ t : Nat, t < n → (t ≤ j ∨ i ≤ t) → gt rows4 (t : Int) = gt rows2 (t : Int)) ∧ (∀ t : Nat, j < t → t < i → qs (gt rows4 (t : Int)).es = if at2 (mq rows2) t j = 0 then qs (gt rows2 (t : Int)).es else subFrom j (at2 (mq rows2) t j / at2 (mq rows2) j j) (rowAt (mq rows2) j) (qs (gt rows2 (t : Int)).es)) ∧ G = [(9, .int .i64 i)] ∧ M = .blk b6 (eR d3) 26 :: .blk bo (recs eM rows4) 61 :: (rows4.map entM ++ M1) ∧ I = allM rows4 (4 * kj + 1) :: isR d3 (kj + kj) :: allM rows2 kj :: I0) (n - (j + 1)) _ _ _ subG subF incF (⟨j + 1, rows2, by omega, by omega, rfl, hl2, hC2g, fun _ _ _ => rfl, fun t h1 h2 => by omega, rfl, rfl, rfl⟩) ?_
          rintro k G M I ⟨i, rows4, hji, hin, rfl, hl4, hC4, hrest, hdone, rfl, rfl, rfl⟩
          have hg4j := hrest j hjn (.inl (Nat.le_refl _))
          by_cases hi : i < n
          · have hgi := hrest i hi (.inr (Nat.le_refl _))
            have hij : i ≠ j := by omega
            have hlx := hC4 i hi
            have hlj := hC4 j hjn
            have hat : at2 (mq rows2) i j = (gt (gt rows4 (i : Int)).es (j : Int)).q := by rw [hgi]; exact at2_mq (by omega) (by rw [hC2g i hi]; omega)
            have hEi : ∀ I, allM rows2 kj ∈ I → Hv I (isR (gt (gt rows4 (i : Int)).es (j : Int)) kj) := fun I h => by rw [hgi]; exact Hv.elM h (by omega) (by rw [hC2g i hi]; omega) (Nat.le_refl _)
            have hEj : ∀ I, allM rows2 kj ∈ I → Hv I (isR (gt (gt rows4 (j : Int)).es (j : Int)) kj) := fun I h => by rw [hg4j]; exact hEl I h
            have hpj : (gt (gt rows4 (j : Int)).es (j : Int)).q ≠ 0 := by rw [hg4j]; exact hpiv
            have hRi : ∀ I, allM rows2 kj ∈ I → Hv I (allR (gt rows4 (i : Int)).es kj) := fun I h => by rw [hgi]; exact Hv.rowMm h (by omega) (Nat.le_refl _)
            have hRj : ∀ I, allM rows2 kj ∈ I → Hv I (allR (gt rows4 (j : Int)).es kj) := fun I h => by rw [hg4j]; exact Hv.rowMm h (by omega) (Nat.le_refl _)
            have hfoc := foc2 (rows := rows4) (i := i) (j := j) (by omega) (by omega) hij (A := .blk b6 (eR d3) 26) (B := .blk bo (recs eM rows4) 61) (M1 := M1)
            have hS := fun M0 I0 h => QSign_ok (X := X) (w0 := w0) (M0 := M0) (I0 := I0) (e := gt (gt rows4 (i : Int)).es (j : Int)) (k := kj) (by omega) h
            refine TD_perm hfoc ?_
            by_cases hx0 : (gt (gt rows4 (i : Int)).es (j : Int)).q = 0
            · rw [(sign0 _).2 hx0] at hS
              repeat (refine wXh ?_)
              (refine RD_callS rfl (hS _ _ (hEi _ memF)) rfl rfl ?_; rintro _ _ _ ⟨rfl, rfl, rfl⟩; refine ⟨okF, ?_⟩)
              repeat (refine wXh ?_)
              refine ND_perm hfoc.symm ?_
              refine ND_again (n - (i + 1)) _ _ _ (by first | omega | (simp only [List.length_append, List.length_cons, List.length_nil]; omega)) subG subF incF (⟨i + 1, rows4, by omega, by omega, rfl, hl4, hC4, fun t ht h => hrest t ht (by omega), fun t h1 h2 => ?_, rfl, rfl, rfl⟩)
              by_cases hti : t = i
              · subst hti
                rw [hat, if_pos hx0, hgi]
              · exact hdone t h1 (by omega)
            · have hs0 : ¬ (gt (gt rows4 (i : Int)).es (j : Int)).q.num.sign = 0 := fun h => hx0 ((sign0 _).1 h)
              generalize (gt (gt rows4 (i : Int)).es (j : Int)).q.num.sign = sg2 at *
              repeat (refine wXh ?_)
              (refine RD_callS rfl (hS _ _ (hEi _ memF)) rfl rfl ?_; rintro _ _ _ ⟨rfl, rfl, rfl⟩; refine ⟨okF, ?_⟩)
              repeat (refine wXh ?_)
              (repeat refine TD_seq ?_); refine TD_drawnL 1 2 (.blk b6 (eR d3) 26 :: .blk bo (recs eM rows4) 61 :: ((rest2 rows4 i j).map entM ++ M1)) (allM rows4 (4 * kj + 1) :: isR d3 (kj + kj) :: allM rows2 kj :: I0) [0, 1, 2, 3, 4, 5, 6, 7, 8, 9, 10, 11, 12, 13, 14, 15, 16, 17, 18, 19, 20, 21, 23, 22, 24] [2, 2, 2, 1, 2, 2, 2, 1, 2, 2, 2, 2, 2, 2, 1, 2, 2, 2, 2, 2, 2, 1, 1, 0, 0] subF incF mixed (by kernel_rfl) ?_
              repeat (refine wXh ?_)
              (apply RD_ldB; exact View_l2 (by decide); exact rfl; exact memF; exact atF; exact rfl; exact rfl)
              repeat (refine wXh ?_)
              (apply RD_ldB; exact View_l2 (by decide); exact rfl; exact memF; exact atF; exact rfl; exact rfl)
              repeat (refine wXh ?_)
              (apply RD_ldB; exact View_l2 (by decide); exact rfl; exact memF; exact atF; exact rfl; exact rfl)
              repeat (refine wXh ?_)
              (apply RD_ldZB; exact View_l1 (by decide); exact rfl; exact memF; exact atY; exact rfl; exact rfl)
              repeat (refine wXh ?_)
              (apply RD_ldB; exact View_l2 (by decide); exact rfl; exact memF; exact atF; exact rfl; exact rfl)
              repeat (refine wXh ?_)
              (apply RD_ldZB; exact View_l1 (by decide); exact rfl; exact memF; exact atY; exact rfl; exact rfl)
              repeat (refine wXh ?_)
              (refine RD_callS rfl (quotient_ok (k := kj) (m := kj) (by omega) hpj (hEi _ memF) (hEj _ memF)) rfl rfl ?_; rintro _ _ _ ⟨rfl, κ, rfl, hκ, rfl⟩; refine ⟨OkD_lY subF incF subF incF, ?_⟩)
              repeat (refine wXh ?_)
              rw [hlx, hlj]
              refine RD_hv (φ := allR (gt rows4 (i : Int)).es kj) (hRi _ memF) ?_
              refine RD_hv (φ := allR (gt rows4 (j : Int)).es kj) (hRj _ memF) ?_
              (refine RD_callS rfl (subtract_ok (kz := kj) (m := kj + kj) (h := kj) (fr := j) (n := n) (κ := κ) (M1 := .blk b6 (eR d3) 26 :: .blk bo (recs eM rows4) 61 :: ((rest2 rows4 i j).map entM ++ M1)) (by omega) (by omega) hlx hlj (by omega) memF memF memF rfl) rfl rfl ?_; rintro _ _ _ ⟨rfl, e5, hl5, hd5, rfl, rfl⟩; refine ⟨OkD_lN (by decide) subF incF, ?_⟩)
              rw [show kj + (kj + kj + kj) + 1 = 4 * kj + 1 by omega]
              obtain ⟨rows5, hrows5⟩ : ∃ rows5, rows5 = rows4.set i ⟨(gt rows4 (i : Int)).b, e5⟩ := ⟨_, rfl⟩
              have hl5' : rows5.length = n := by rw [hrows5, List.length_set]; exact hl4
              have hh5 : recs eM rows4 = recs eM rows5 := by rw [hrows5]; exact (recs_eM_set (by omega) (by rw [hlx, hl5])).symm
              have hr5 : rest2 rows4 i j = rest2 rows5 i j := by rw [hrows5, rest2_set _ _ _ _ hij]
              have hg5i : gt rows5 (i : Int) = ⟨(gt rows4 (i : Int)).b, e5⟩ := by rw [hrows5, gt_lt (by simpa using (show i < rows4.length by omega))]; simp
              have hg5o : ∀ t : Nat, t < n → t ≠ i → gt rows5 (t : Int) = gt rows4 (t : Int) := fun t ht hti => by
                rw [hrows5, gt_lt (by simpa using (show t < rows4.length by omega)), List.getElem_set_ne (Ne.symm hti)]; exact (gt_lt (by omega)).symm
              have hf5 := foc2 (rows := rows5) (i := i) (j := j) (by omega) (by omega) hij (A := .blk b6 (eR d3) 26) (B := .blk bo (recs eM rows5) 61) (M1 := M1)
              rw [hg5i, hg5o j (by omega) (Ne.symm hij)] at hf5
              rw [hh5, hr5]
              refine RD_perm hf5.symm ?_
              refine RD_hv (φ := allM rows5 (4 * kj + 1)) (by rw [hrows5]; exact Hv.setM (k := 4 * kj + 1) (m := 4 * kj + 1) memF memF (by omega) (by omega)) ?_
              repeat (refine wXh ?_)
              refine ND_again (n - (i + 1)) _ _ _ (by first | omega | (simp only [List.length_append, List.length_cons, List.length_nil]; omega)) subG subF incF (⟨i + 1, rows5, by omega, by omega, rfl, hl5', fun t ht => ?_, fun t ht h => ?_, fun t h1 h2 => ?_, rfl, rfl, rfl⟩)
              · by_cases hti : t = i
                · subst hti; rw [hg5i]; exact hl5
                · rw [hg5o t ht hti]; exact hC4 t ht
              · rw [hg5o t ht (by omega)]; exact hrest t ht (by omega)
              · by_cases hti : t = i
                · subst hti
                  rw [hg5i, hat, if_neg hx0, ← hgi]
                  have e1 : rowAt (mq rows2) j = qs (gt rows4 (j : Int)).es := by rw [rowAt_mq (by omega), hg4j]
                  have e2 : at2 (mq rows2) j j = (gt (gt rows4 (j : Int)).es (j : Int)).q := by rw [hg4j]; exact hatj
                  rw [e1, e2, ← hκ]
                  exact qs_sub hl5 hlx hlj hd5
                · rw [hg5o t (by omega) hti]; exact hdone t h1 (by omega)
          · obtain rfl : i = n := by omega
            have hmq4 : mq rows4 = dstep (mq rows1) j x := by
              unfold dstep
              rw [← hmq2]
              exact mq_below hl4 hl2 (fun t ht h => hrest t ht (.inl h)) (fun t ht h => hdone t h ht)
            repeat (refine wXh ?_)
            refine ND_hv (φ := isR d3 (kb k0 (j + 1))) (Hv.q (k := kj + kj) memF (by omega)) ?_
            refine ND_hv (φ := allM rows4 (kb k0 (j + 1))) (Hv.monoM (k := 4 * kj + 1) memF (by omega)) ?_
            refine ND_again (i - (j + 1)) _ _ _ (by first | omega | (simp only [List.length_append, List.length_cons, List.length_nil]; omega)) subG subF incF (⟨j + 1, rows4, d3, by omega, rfl, hl4, fun r hr => ?_, ?_, rfl, rfl, rfl⟩)
            · obtain ⟨t, ht, rfl⟩ := List.mem_iff_getElem.1 hr
              have := hC4 t (by omega)
              rwa [gt_lt ht] at this
            · rw [hD, hd3, ← hatj, hpe, hd2, dstep_dt hdim hjn hjx hxn2 hxne, hmq4]; grind
    · obtain rfl : x = n := by omega
      repeat (refine wXh ?_)
      (refine RD_callS rfl (hW 0 (by decide) _ _) rfl rfl ?_; rintro _ _ _ ⟨rfl, e1, rfl, he1, rfl⟩; refine ⟨okF, ?_⟩)
      rw [hM1]
      refine RD_w (M' := .blk b2 zRm 26 :: M0) (I' := isR e1 0 :: I0) (SubP.drop (SubP.drop (SubP_dropA SubP.refl))) incF ?_
      repeat (refine wXh ?_)
      refine ND_hv (φ := isR e1 (kb k0 x)) (Hv.q (k := 0) memF (Nat.zero_le _)) ?_
      refine ND_retsC (rs := [.cell 2 26, .tmp 3]) (vs := [rv e1, .int .i64 0]) (.inl rfl) rfl (.cellN (cs := eR e1) inferInstance rfl memF rfl (.tmp rfl .nil)) rfl M0 (isR e1 (kb k0 x) :: I0) subF incF ⟨rfl, e1, rfl, ?_, rfl⟩
      rw [hD, he1, blk_none hjn (fun i h1 h2 => hz i h1 h2)]; grind
  · obtain rfl : j = n := by omega
    rw [hM1]
    refine TD_w (M' := .blk b6 (eR d) 26 :: .blk b2 zRm 26 :: M0) (I' := isR d (kb k0 j) :: I0) (SubP.cons .here (SubP.drop (SubP_dropA SubP.refl))) incF ?_
    repeat (refine wXh ?_)
    refine ND_retsC (rs := [.cell 2 26, .tmp 3]) (vs := [rv d, .int .i64 0]) (.inl rfl) rfl (.cellN (cs := eR d) inferInstance rfl memF rfl (.tmp rfl .nil)) rfl M0 (isR d (kb k0 j) :: I0) subF incF ⟨rfl, d, rfl, ?_, rfl⟩
    rw [hD, Nat.sub_self]
    show d.q = d.q * 1
    grind
end
end Go.Proofs.YtdmlebigkakplaaGreat
