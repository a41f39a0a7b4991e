/- Forest: the stable sort of numbers, merging. -/
import Derived.Test.YtkhgglkkdnemlaaZhal
import Derived.Test.YtkhgglkkdnemlaaZhai
set_option linter.unusedSimpArgs false
set_option linter.unusedVariables false
namespace Go.Proofs.Ytkhgglkkdnemlaa
open Go Go.Fx
/- ---------- the stable sort of []int: merging in place ---------- -/
section
variable {X : List Nat} {w0 : World} {M0 : List Ent} {I0 : List Imm}
set_option maxHeartbeats 4000000 in
theorem symI_ok {g : FuncId} [FnOk Try.prog g] {fs cs' : Array Value} {key : Int → Int} {Pr : Int → Prop} {b n c : Nat} {tl : List Value} (hcmp : CmpI g fs cs' key Pr X w0 b 3 M0 I0) (hbd : (n : Int) ≤ 1000000) : ∀ (N : Nat) {P A B S : List Int} {a m z : Int}, A.length + B.length ≤ N → n = (P ++ A ++ B ++ S).length →
    (∀ x ∈ A, Pr x) → (∀ x ∈ B, Pr x) → Asc key A → Asc key B → a = P.length → m = P.length + A.length → z = P.length + A.length + B.length → 0 < A.length → 0 < B.length →
    CD Try.prog 82 [.slice (some ⟨b, 0, none⟩) n c, .int .i64 a, .int .i64 m, .int .i64 z, .func (.func g) fs cs'] X w0 (.blk b (recs (eI .i64) (P ++ A ++ B ++ S) ++ tl) 3 :: M0) I0
      (fun _ M I => .blk b (recs (eI .i64) (P ++ mg key A B ++ S) ++ tl) 3 :: M0 = M ∧ I0 = I) := by
  intro N
  induction N with
  | zero => intro P A B S a m z h _ _ _ _ _ _ _ _ hA _; omega
  | succ N ih =>
  intro P A B S a m z hN hn hPA hPB hsA hsB ha hm hz hA hB
  have hn2 : n = P.length + A.length + B.length + S.length := by rw [hn]; simp only [List.length_append]
  have hDl : (P ++ A ++ B ++ S).length = n := hn.symm
  clear hn
  have gA : ∀ t : Int, P.length ≤ t → t < P.length + A.length → gt (P ++ A ++ B ++ S) t = gt A (t - P.length) := fun t h1 h2 => by
    obtain ⟨u, rfl⟩ : ∃ u : Nat, t = u := ⟨t.toNat, by omega⟩
    rw [gt_app, if_pos (by simp only [List.length_append]; omega), gt_app, if_pos (by simp only [List.length_append]; omega), gt_app, if_neg (by omega)]
    congr 1; omega
  have gB : ∀ t : Int, P.length + A.length ≤ t → t < P.length + A.length + B.length → gt (P ++ A ++ B ++ S) t = gt B (t - P.length - A.length) := fun t h1 h2 => by
    obtain ⟨u, rfl⟩ : ∃ u : Nat, t = u := ⟨t.toNat, by omega⟩
    rw [gt_app, if_pos (by simp only [List.length_append]; omega), gt_app, if_neg (by simp only [List.length_append]; omega)]
    congr 1; simp only [List.length_append]; omega
  have pA : ∀ t : Int, P.length ≤ t → t < P.length + A.length → Pr (gt (P ++ A ++ B ++ S) t) := fun t h1 h2 => by
    rw [gA t h1 h2]
    have := gt_some (ms := A) (i := t - P.length) (by omega)
    exact hPA _ (List.mem_of_getElem? this)
  have pB : ∀ t : Int, P.length + A.length ≤ t → t < P.length + A.length + B.length → Pr (gt (P ++ A ++ B ++ S) t) := fun t h1 h2 => by
    rw [gB t h1 h2]
    have := gt_some (ms := B) (i := t - P.length - A.length) (by omega)
    exact hPB _ (List.mem_of_getElem? this)
  have aA : ∀ s t : Int, P.length ≤ s → s ≤ t → t < P.length + A.length → key (gt (P ++ A ++ B ++ S) s) ≤ key (gt (P ++ A ++ B ++ S) t) := fun s t h1 h2 h3 => by
    rw [gA s h1 (by omega), gA t (by omega) h3]
    have := Asc.at key hsA (i := (s - P.length).toNat) (j := (t - P.length).toNat) (by omega) (by omega)
    rwa [show (((s - P.length).toNat : Nat) : Int) = s - P.length by omega, show (((t - P.length).toNat : Nat) : Int) = t - P.length by omega] at this
  have aB : ∀ s t : Int, P.length + A.length ≤ s → s ≤ t → t < P.length + A.length + B.length → key (gt (P ++ A ++ B ++ S) s) ≤ key (gt (P ++ A ++ B ++ S) t) := fun s t h1 h2 h3 => by
    rw [gB s h1 (by omega), gB t (by omega) h3]
    have := Asc.at key hsB (i := (s - P.length - A.length).toNat) (j := (t - P.length - A.length).toNat) (by omega) (by omega)
    rwa [show (((s - P.length - A.length).toNat : Nat) : Int) = s - P.length - A.length by omega, show (((t - P.length - A.length).toNat : Nat) : Int) = t - P.length - A.length by omega] at this
  generalize hD : P ++ A ++ B ++ S = D at *
  refine enterD Try.func82 rfl Try.ntmps82 rfl ?_
  by_cases hA1 : A.length = 1
  · obtain ⟨x, rfl⟩ : ∃ x, A = [x] := List.length_eq_one_iff.1 hA1
    simp only [List.length_cons, List.length_nil] at *
    have gx : gt D a = x := by rw [gA a (by omega) (by omega), show a - P.length = 0 by omega]; rfl
    repeat (refine wXn ?_)
    refine TD_loop [0, 1, 4] rfl (fun k G M I => ∃ i j : Int, m ≤ i ∧ i ≤ j ∧ j ≤ z ∧ k = (j - i).toNat ∧ (∀ t, m ≤ t → t < i → key (gt D t) < key x) ∧ (∀ t, j ≤ t → t < z → key x ≤ key (gt D t)) ∧ G = [(10, .int .i64 i), (11, .int .i64 j)] ∧ M = .blk b (recs (eI .i64) D ++ tl) 3 :: M0 ∧ I0 = I) ((z - m).toNat) _ _ _ subG subP incL (⟨m, z, by omega, by omega, by omega, rfl, fun t h1 h2 => by omega, fun t h1 h2 => by omega, rfl, rfl, rfl⟩) ?_
    rintro k G M I ⟨i, j, hi, hij, hj, rfl, h1, h2, rfl, rfl, rfl⟩
    repeat' (first | refine wXn ?_ | (refine TD_isCo ?_; first | refine TD_dec rfl (fun h => ?_) (fun h => ?_) | refine TD_cond rfl (fun h => ?_) (fun h => ?_)) | (refine RD_isGu ?_; first | refine RD_grd rfl rfl (fun h => ?_) (fun h => ?_) | (fail_if_success (refine RD_isW rfl ?_); refine RD_grdB rfl rfl (fun h => ?_) (fun h => ?_))))
    · (repeat refine TD_seq ?_); refine TD_drawn [0, 1, 2, 3, 4, 5, 6, 7, 8, 9, 10] [0, 1, 1, 1, 0, 1, 1, 1, 0, 0, 0] mixed (by kernel_rfl) ?_
      repeat (refine wXn ?_)
      rw [gx]
      (refine RD_callV rfl rfl (hcmp _ (gt D ((i + j) / 2)) x (pB _ (by omega) (by omega)) (hPA x (by simp))) rfl rfl rfl ?_; rintro _ _ _ ⟨rfl, rfl, r, rfl, hr⟩; refine ⟨okD, ?_⟩)
      repeat' (first | refine wXn ?_ | (refine TD_isCo ?_; first | refine TD_dec rfl (fun h => ?_) (fun h => ?_) | refine TD_cond rfl (fun h => ?_) (fun h => ?_)) | (refine RD_isGu ?_; first | refine RD_grd rfl rfl (fun h => ?_) (fun h => ?_) | (fail_if_success (refine RD_isW rfl ?_); refine RD_grdB rfl rfl (fun h => ?_) (fun h => ?_))))
      · have hlt := hr.1 (by assumption)
        refine ND_again ((j - ((i + j) / 2 + 1)).toNat) _ _ _ (by first | omega | (simp only [List.length_append, List.length_cons, List.length_nil]; omega)) subG subP incL (⟨(i + j) / 2 + 1, j, by omega, by omega, hj, rfl, fun t t1 t2 => ?_, h2, rfl, rfl, rfl⟩)
        have := aB t ((i + j) / 2) (by omega) (by omega) (by omega)
        omega
      · have hge : ¬ key (gt D ((i + j) / 2)) < key x := fun h => absurd (hr.2 h) (by assumption)
        refine ND_again (((i + j) / 2 - i).toNat) _ _ _ (by first | omega | (simp only [List.length_append, List.length_cons, List.length_nil]; omega)) subG subP incL (⟨i, (i + j) / 2, hi, by omega, by omega, rfl, h1, fun t t1 t2 => ?_, rfl, rfl, rfl⟩)
        have := aB ((i + j) / 2) t (by omega) (by omega) (by omega)
        omega
    · obtain rfl : i = j := by omega
      obtain ⟨B1, B2, rfl, hB1⟩ : ∃ B1 B2, B = B1 ++ B2 ∧ (B1.length : Int) = i - m := ⟨B.take (i - m).toNat, B.drop (i - m).toNat, by simp, by simp; omega⟩
      simp only [List.length_append] at *
      have hm1 : mg key [x] (B1 ++ B2) = B1 ++ x :: B2 := by
        refine one_mg key (fun y hy => ?_) (fun y hy => ?_)
        · obtain ⟨u, hu, rfl⟩ := List.mem_iff_getElem.1 hy
          have := h1 (m + u) (by omega) (by omega)
          rw [gB _ (by omega) (by omega), show m + (u : Int) - P.length - ((0 + 1 : Nat) : Int) = (u : Int) by omega, gt_app, if_pos hu, gt_get hu] at this
          exact this
        · obtain ⟨u, hu, rfl⟩ := List.mem_iff_getElem.1 hy
          have := h2 (i + u) (by omega) (by omega)
          rw [gB _ (by omega) (by omega), show i + (u : Int) - P.length - ((0 + 1 : Nat) : Int) = ((B1.length + u : Nat) : Int) by omega, gt_app, if_neg (by omega), show B1.length + u - B1.length = u by omega, gt_get hu] at this
          exact this
      rw [hm1]
      refine TD_loop [0, 10] rfl (fun k G M I => ∃ (q : Nat) (kk : Int) (D' : List Int), kk = a + q ∧ q ≤ B1.length ∧ k = B1.length - q ∧ D' = (P ++ B1.take q) ++ x :: (B1.drop q ++ (B2 ++ S)) ∧ G = [(13, .int .i64 kk)] ∧ M = .blk b (recs (eI .i64) D' ++ tl) 3 :: M0 ∧ I0 = I) (B1.length) _ _ _ subG subP incL (⟨0, a, D, by omega, by omega, rfl, by rw [← hD]; simp, rfl, rfl, rfl⟩) ?_
      rintro k G M I ⟨q, kk, D', hkk, hq, rfl, hD', rfl, rfl, rfl⟩
      have hl' : D'.length = n := by rw [hD']; simp only [List.length_append, List.length_cons, List.length_take, List.length_drop]; omega
      repeat' (first | refine wXn ?_ | (refine TD_isCo ?_; first | refine TD_dec rfl (fun h => ?_) (fun h => ?_) | refine TD_cond rfl (fun h => ?_) (fun h => ?_)) | (refine RD_isGu ?_; first | refine RD_grd rfl rfl (fun h => ?_) (fun h => ?_) | (fail_if_success (refine RD_isW rfl ?_); refine RD_grdB rfl rfl (fun h => ?_) (fun h => ?_))))
      · have hqB : q < B1.length := by omega
        have e1 : B1.drop q = B1[q] :: B1.drop (q + 1) := List.drop_eq_getElem_cons hqB
        have e2 : B1.take (q + 1) = B1.take q ++ [B1[q]] := List.take_succ_eq_append_getElem hqB
        have htl : (B1.take q).length = q := by simp; omega
        generalize B1[q] = y at e1 e2
        rw [e1] at hD'
        have g1 : gt D' kk = x := by rw [hD']; exact gt_at (by simp only [List.length_append]; omega)
        have g2 : gt D' (kk + 1) = y := by
          rw [hD', show (P ++ B1.take q) ++ x :: (y :: B1.drop (q + 1) ++ (B2 ++ S)) = ((P ++ B1.take q) ++ [x]) ++ y :: (B1.drop (q + 1) ++ (B2 ++ S)) by simp]
          exact gt_at (by simp only [List.length_append, List.length_cons, List.length_nil]; omega)
        (repeat refine TD_seq ?_); refine TD_drawn1 [0, 1, 2, 3, 4, 5, 6, 7, 8, 9, 10, 11, 12, 13, 14, 15, 16, 17] [0, 0, 1, 1, 1, 0, 0, 0, 0, 0, 1, 1, 1, 0, 0, 0, 0, 0] mixed (by kernel_rfl) ?_
        repeat (refine wXn ?_)
        rw [g1, g2]
        refine ND_again (B1.length - (q + 1)) _ _ _ (by first | omega | (simp only [List.length_append, List.length_cons, List.length_nil]; omega)) subG subP incL (⟨q + 1, kk + 1, _, by omega, by omega, rfl, ?_, rfl, rfl, rfl⟩)
        rw [hD', List.cons_append, swap2 (by simp only [List.length_append]; omega) (by simp only [List.length_append]; omega), e2]
        simp
      · obtain rfl : q = B1.length := by omega
        have : D' = P ++ (B1 ++ x :: B2) ++ S := by rw [hD']; simp
        rw [this]
        refine ND_ret0 (by first | exact .inl rfl | exact .inr rfl) rfl _ _ subP incL (⟨rfl, rfl⟩)
  by_cases hB1 : B.length = 1
  · obtain ⟨y, rfl⟩ : ∃ y, B = [y] := List.length_eq_one_iff.1 hB1
    simp only [List.length_cons, List.length_nil] at *
    have gy : gt D m = y := by rw [gB m (by omega) (by omega), show m - P.length - A.length = 0 by omega]; rfl
    repeat (refine wXn ?_)
    refine TD_loop [0, 2, 4] rfl (fun k G M I => ∃ i j : Int, a ≤ i ∧ i ≤ j ∧ j ≤ m ∧ k = (j - i).toNat ∧ (∀ t, a ≤ t → t < i → key (gt D t) ≤ key y) ∧ (∀ t, j ≤ t → t < m → key y < key (gt D t)) ∧ G = [(14, .int .i64 i), (15, .int .i64 j)] ∧ M = .blk b (recs (eI .i64) D ++ tl) 3 :: M0 ∧ I0 = I) ((m - a).toNat) _ _ _ subG subP incL (⟨a, m, by omega, by omega, by omega, rfl, fun t h1 h2 => by omega, fun t h1 h2 => by omega, rfl, rfl, rfl⟩) ?_
    rintro k G M I ⟨i, j, hi, hij, hj, rfl, h1, h2, rfl, rfl, rfl⟩
    repeat' (first | refine wXn ?_ | (refine TD_isCo ?_; first | refine TD_dec rfl (fun h => ?_) (fun h => ?_) | refine TD_cond rfl (fun h => ?_) (fun h => ?_)) | (refine RD_isGu ?_; first | refine RD_grd rfl rfl (fun h => ?_) (fun h => ?_) | (fail_if_success (refine RD_isW rfl ?_); refine RD_grdB rfl rfl (fun h => ?_) (fun h => ?_))))
    · (repeat refine TD_seq ?_); refine TD_drawn [0, 1, 2, 3, 4, 5, 6, 7, 8, 9, 10, 11] [0, 1, 1, 1, 0, 1, 1, 1, 0, 0, 0, 0] mixed (by kernel_rfl) ?_
      repeat (refine wXn ?_)
      rw [gy]
      (refine RD_callV rfl rfl (hcmp _ y (gt D ((i + j) / 2)) (hPB y (by simp)) (pA _ (by omega) (by omega))) rfl rfl rfl ?_; rintro _ _ _ ⟨rfl, rfl, r, rfl, hr⟩; refine ⟨okD, ?_⟩)
      repeat' (first | refine wXn ?_ | (refine TD_isCo ?_; first | refine TD_dec rfl (fun h => ?_) (fun h => ?_) | refine TD_cond rfl (fun h => ?_) (fun h => ?_)) | (refine RD_isGu ?_; first | refine RD_grd rfl rfl (fun h => ?_) (fun h => ?_) | (fail_if_success (refine RD_isW rfl ?_); refine RD_grdB rfl rfl (fun h => ?_) (fun h => ?_))))
      · have hge : ¬ key y < key (gt D ((i + j) / 2)) := fun h => absurd (hr.2 h) (by assumption)
        refine ND_again ((j - ((i + j) / 2 + 1)).toNat) _ _ _ (by first | omega | (simp only [List.length_append, List.length_cons, List.length_nil]; omega)) subG subP incL (⟨(i + j) / 2 + 1, j, by omega, by omega, hj, rfl, fun t t1 t2 => ?_, h2, rfl, rfl, rfl⟩)
        have := aA t ((i + j) / 2) (by omega) (by omega) (by omega)
        omega
      · have hlt := hr.1 (by omega)
        refine ND_again (((i + j) / 2 - i).toNat) _ _ _ (by first | omega | (simp only [List.length_append, List.length_cons, List.length_nil]; omega)) subG subP incL (⟨i, (i + j) / 2, hi, by omega, by omega, rfl, h1, fun t t1 t2 => ?_, rfl, rfl, rfl⟩)
        have := aA ((i + j) / 2) t (by omega) (by omega) (by omega)
        omega
    · obtain rfl : i = j := by omega
      obtain ⟨A1, A2, rfl, hA1⟩ : ∃ A1 A2, A = A1 ++ A2 ∧ (A1.length : Int) = i - a := ⟨A.take (i - a).toNat, A.drop (i - a).toNat, by simp, by simp; omega⟩
      simp only [List.length_append] at *
      have hm1 : mg key (A1 ++ A2) [y] = A1 ++ y :: A2 := by
        refine mg_one key (fun u hu => ?_) (fun u hu => ?_)
        · obtain ⟨v, hv, rfl⟩ := List.mem_iff_getElem.1 hu
          have := h1 (a + v) (by omega) (by omega)
          rw [gA _ (by omega) (by omega), show a + (v : Int) - P.length = (v : Int) by omega, gt_app, if_pos hv, gt_get hv] at this
          exact this
        · obtain ⟨v, hv, rfl⟩ := List.mem_iff_getElem.1 hu
          have := h2 (i + v) (by omega) (by omega)
          rw [gA _ (by omega) (by omega), show i + (v : Int) - P.length = ((A1.length + v : Nat) : Int) by omega, gt_app, if_neg (by omega), show A1.length + v - A1.length = v by omega, gt_get hv] at this
          exact this
      rw [hm1]
      refine TD_loop [0, 14] rfl (fun k G M I => ∃ (T R : List Int) (kk : Int) (D' : List Int), A2 = T ++ R ∧ kk = P.length + A1.length + T.length ∧ k = T.length ∧ D' = (P ++ A1 ++ T) ++ y :: (R ++ S) ∧ G = [(17, .int .i64 kk)] ∧ M = .blk b (recs (eI .i64) D' ++ tl) 3 :: M0 ∧ I0 = I) (A2.length) _ _ _ subG subP incL (⟨A2, [], m, D, by simp, by omega, rfl, by rw [← hD]; simp, rfl, rfl, rfl⟩) ?_
      rintro k G M I ⟨T, R, kk, D', hTR, hkk, rfl, hD', rfl, rfl, rfl⟩
      have hlTR := congrArg List.length hTR
      simp only [List.length_append] at hlTR
      have hl' : D'.length = n := by rw [hD']; simp only [List.length_append, List.length_cons]; omega
      repeat' (first | refine wXn ?_ | (refine TD_isCo ?_; first | refine TD_dec rfl (fun h => ?_) (fun h => ?_) | refine TD_cond rfl (fun h => ?_) (fun h => ?_)) | (refine RD_isGu ?_; first | refine RD_grd rfl rfl (fun h => ?_) (fun h => ?_) | (fail_if_success (refine RD_isW rfl ?_); refine RD_grdB rfl rfl (fun h => ?_) (fun h => ?_))))
      · have hne : T ≠ [] := by intro e; subst e; simp at hkk; omega
        obtain ⟨T', u, rfl⟩ : ∃ T' u, T = T' ++ [u] := ⟨T.dropLast, T.getLast hne, (List.dropLast_concat_getLast hne).symm⟩
        simp only [List.length_append, List.length_cons, List.length_nil] at hkk hlTR
        have hDe : D' = (P ++ A1 ++ T') ++ u :: y :: (R ++ S) := by rw [hD']; simp
        have g1 : gt D' kk = y := by rw [hD']; exact gt_at (by simp only [List.length_append, List.length_cons, List.length_nil]; omega)
        have g2 : gt D' (kk - 1) = u := by rw [hDe]; exact gt_at (by simp only [List.length_append]; omega)
        (repeat refine TD_seq ?_); refine TD_drawn1 [0, 1, 2, 3, 4, 5, 6, 7, 8, 9, 10, 11, 12, 13, 14, 15, 16, 17] [0, 0, 1, 1, 1, 0, 0, 0, 0, 0, 1, 1, 1, 0, 0, 0, 0, 0] mixed (by kernel_rfl) ?_
        repeat (refine wXn ?_)
        rw [g1, g2]
        refine ND_again (T'.length) _ _ _ (by first | omega | (simp only [List.length_append, List.length_cons, List.length_nil]; omega)) subG subP incL (⟨T', u :: R, kk - 1, _, by rw [hTR]; simp, by omega, rfl, ?_, rfl, rfl, rfl⟩)
        rw [hDe, swap2' (by simp only [List.length_append]; omega) (by simp only [List.length_append]; omega)]
        simp
      · obtain rfl : T = [] := List.eq_nil_of_length_eq_zero (by omega)
        have : D' = P ++ (A1 ++ y :: A2) ++ S := by rw [hD', hTR]; simp
        rw [this]
        refine ND_ret0 (by first | exact .inl rfl | exact .inr rfl) rfl _ _ subP incL (⟨rfl, rfl⟩)
  iterate 7 (refine TD_seq ?_; repeat' (first | refine TD_region ?_ | refine TD_ret ?_ | refine TD_skip ?_ | refine TD_label ?_ | refine TD_block ?_ | refine TD_exit ?_ | refine ND_then ?_ | refine ND_thenR ?_ | refine ND_thenE ?_ | refine ND_inN ?_ | refine ND_inR ?_ | refine ND_inE ?_ | refine ND_inO rfl ?_ | refine RD_nil ?_ | (refine RD_isGu ?_; first | refine RD_skip rfl rfl rfl ?_ | (refine RD_isEf rfl rfl ?_; refine RD_skipE rfl rfl rfl okD ?_) | refine RD_grdY rfl rfl (by omega) ?_ | refine RD_grdN rfl rfl (by omega) ?_ | refine RD_grd rfl rfl (fun h => ?_) (fun h => ?_) | (fail_if_success (refine RD_isW rfl ?_); refine RD_grdB rfl rfl (fun h => ?_) (fun h => ?_))) | (refine RD_isUn ?_; refine RD_c rfl (fun _ => Const_notB rfl) rfl rfl ?_) | refine RD_c rfl (fun _ => Const_pure rfl) rfl rfl ?_ | (refine RD_isBi ?_; first | refine RD_c rfl (fun _ => Const_add rfl rfl w_) rfl rfl ?_ | refine RD_c rfl (fun _ => Const_sub rfl rfl w_) rfl rfl ?_ | refine RD_c rfl (fun _ => Const_mul rfl rfl w_) rfl rfl ?_ | refine RD_c rfl (fun _ => Const_quo rfl rfl (by omega) q_) rfl rfl ?_ | refine RD_c rfl (fun _ => Const_rem rfl rfl (by omega) rfl) rfl rfl ?_ | refine RD_c rfl (fun _ => Const_half rfl rfl) rfl rfl ?_) | (refine RD_isUn ?_; first | refine RD_c rfl (fun _ => Const_neg rfl w_) rfl rfl ?_) | (refine RD_isCv ?_; first | refine RD_c rfl (fun _ => Const_conv rfl w_) rfl rfl ?_) | (refine RD_isCa ?_; first | refine RD_c rfl (fun _ => Const_len rfl) rfl rfl ?_ | refine RD_c rfl (fun _ => Const_minM rfl rfl) rfl rfl ?_ | refine RD_c rfl (fun _ => Const_maxM rfl rfl) rfl rfl ?_ | refine RD_c rfl (fun _ => Const_min3 rfl rfl rfl) rfl rfl ?_) | (refine RD_isFa ?_; first | refine RD_fldP rfl (by decide) rfl rfl ?_ | refine RD_fld rfl (by decide) rfl rfl ?_) | (refine RD_isIx ?_; first | refine RD_ixB rfl rfl bdI rfl rfl ?_ | refine RD_ixI vwX rfl rfl bdI memL posC rfl rfl ?_ | refine RD_ixR vwX rfl rfl bdI memL posC rfl rfl ?_ | refine RD_c rfl (fun _ => Const_indexA rfl rfl bdI) rfl rfl ?_) | (refine RD_isLd ?_; first | refine RD_ldI vwX rfl memL atC rfl rfl ?_ | refine RD_ldR vwX rfl memL atC rfl rfl ?_ | refine RD_ldB vwX rfl memL atC rfl rfl ?_ | refine RD_ldIB vwX rfl memL atC rfl rfl ?_ | refine RD_ldNI vwX rfl memL atsC lenC rfl rfl ?_ | refine RD_ldNR vwX rfl memL atsC lenC rfl rfl ?_ | refine RD_ldNB vwX rfl memL atsC lenC rfl rfl ?_ | refine RD_ldNIB vwX rfl memL atsC lenC rfl rfl ?_) | (refine RD_isFd ?_; first | refine RD_c rfl (fun _ => Const_field1 rfl rfl) rfl rfl ?_ | refine RD_c rfl (fun _ => Const_fieldN rfl) rfl rfl ?_) | (refine RD_isSt ?_; first | refine RD_st rfl rfl rfl repE stC rfl rfl ⟨okD, ?_⟩ | refine RD_stN rfl rfl lenC oneC repE stsC rfl rfl ⟨okD, ?_⟩) | (refine TD_isCo ?_; first | refine TD_cond_true rfl ?_ | refine TD_cond_false rfl ?_ | refine TD_yes rfl (by omega) ?_ | refine TD_no rfl (by omega) ?_ | refine TD_dec rfl (fun h => ?_) (fun h => ?_) | refine TD_cond rfl (fun h => ?_) (fun h => ?_))))
  have hmid : a < (a + z) / 2 ∧ (a + z) / 2 < z := by omega
  generalize hmd : (a + z) / 2 = md at *
  refine TD_cut (fun G M I => ∃ s r : Int, a ≤ s ∧ s ≤ r ∧ r ≤ m ∧ md + m - z ≤ s ∧ r ≤ md ∧ (s = a ∨ s = md + m - z) ∧ (r = m ∨ r = md) ∧ G = [(0, .slice (some ⟨b, 0, none⟩) n c), (1, .int .i64 a), (2, .int .i64 m), (3, .int .i64 z), (4, .func (.func g) fs cs'), (18, .int .i64 md), (19, .int .i64 (md + m)), (20, .int .i64 s), (21, .int .i64 r)] ∧
    M = .blk b (recs (eI .i64) D ++ tl) 3 :: M0 ∧ I0 = I) ?_ ?_
  · refine TD_seq ?_
    repeat' (first | refine wXn ?_ | (refine TD_isCo ?_; first | refine TD_dec rfl (fun h => ?_) (fun h => ?_) | refine TD_cond rfl (fun h => ?_) (fun h => ?_)) | (refine RD_isGu ?_; first | refine RD_grd rfl rfl (fun h => ?_) (fun h => ?_) | (fail_if_success (refine RD_isW rfl ?_); refine RD_grdB rfl rfl (fun h => ?_) (fun h => ?_))))
    · refine ND_cut _ _ _ subG subP incL ⟨md + m - z, md, by omega, by omega, by omega, by omega, by omega, .inr rfl, .inr rfl, rfl, rfl, rfl⟩
    · refine ND_cut _ _ _ subG subP incL ⟨a, m, by omega, by omega, by omega, by omega, by omega, .inl rfl, .inl rfl, rfl, rfl, rfl⟩
  rintro G M I ⟨s0, r0, q1, q2, q3, q4, q5, q6, q7, rfl, rfl, rfl⟩
  repeat (refine wXn ?_)
  refine TD_loop [0, 1, 2, 3, 4, 18, 19, 22] rfl (fun k G M I => ∃ s r : Int, s0 ≤ s ∧ s ≤ r ∧ r ≤ r0 ∧ k = (r - s).toNat ∧ (s = s0 ∨ key (gt D (s - 1)) ≤ key (gt D (md + m - s))) ∧ (r = r0 ∨ key (gt D (md + m - 1 - r)) < key (gt D r)) ∧ G = [(20, .int .i64 s), (21, .int .i64 r)] ∧ M = .blk b (recs (eI .i64) D ++ tl) 3 :: M0 ∧ I0 = I) ((r0 - s0).toNat) _ _ _ subG subP incL (⟨s0, r0, by omega, by omega, by omega, rfl, .inl rfl, .inl rfl, rfl, rfl, rfl⟩) ?_
  rintro k G M I ⟨s, r, hs, hsr, hr, rfl, hL, hR, rfl, rfl, rfl⟩
  by_cases hlp : s < r
  · repeat (refine wXn ?_)
    (repeat refine TD_seq ?_); refine TD_drawn [0, 1, 2, 3, 4, 5, 6, 7, 8, 9, 10, 11, 12, 13] [0, 1, 1, 1, 1, 1, 0, 1, 1, 1, 0, 0, 0, 0] mixed (by kernel_rfl) ?_
    repeat (refine wXn ?_)
    (refine RD_callV rfl rfl (hcmp _ (gt D (md + m - 1 - (s + r) / 2)) (gt D ((s + r) / 2)) (pB _ (by omega) (by omega)) (pA _ (by omega) (by omega))) rfl rfl rfl ?_; rintro _ _ _ ⟨rfl, rfl, rr, rfl, hrr⟩; refine ⟨okD, ?_⟩)
    repeat' (first | refine wXn ?_ | (refine TD_isCo ?_; first | refine TD_dec rfl (fun h => ?_) (fun h => ?_) | refine TD_cond rfl (fun h => ?_) (fun h => ?_)) | (refine RD_isGu ?_; first | refine RD_grd rfl rfl (fun h => ?_) (fun h => ?_) | (fail_if_success (refine RD_isW rfl ?_); refine RD_grdB rfl rfl (fun h => ?_) (fun h => ?_))))
    · have hge : ¬ key (gt D (md + m - 1 - (s + r) / 2)) < key (gt D ((s + r) / 2)) := fun h => absurd (hrr.2 h) (by assumption)
      refine ND_again ((r - ((s + r) / 2 + 1)).toNat) _ _ _ (by first | omega | (simp only [List.length_append, List.length_cons, List.length_nil]; omega)) subG subP incL (⟨(s + r) / 2 + 1, r, by omega, by omega, hr, rfl, .inr ?_, hR, rfl, rfl, rfl⟩)
      rw [show (s + r) / 2 + 1 - 1 = (s + r) / 2 by omega, show md + m - ((s + r) / 2 + 1) = md + m - 1 - (s + r) / 2 by omega]
      omega
    · have hlt := hrr.1 (by omega)
      refine ND_again (((s + r) / 2 - s).toNat) _ _ _ (by first | omega | (simp only [List.length_append, List.length_cons, List.length_nil]; omega)) subG subP incL (⟨s, (s + r) / 2, hs, by omega, by omega, rfl, hL, .inr hlt, rfl, rfl, rfl⟩)
  obtain rfl : s = r := by omega
  have hse : a ≤ s ∧ s ≤ m ∧ m ≤ md + m - s ∧ md + m - s ≤ z := by omega
  obtain ⟨A1, A2, hAe, hA1'⟩ : ∃ A1 A2, A = A1 ++ A2 ∧ (A1.length : Int) = s - a := ⟨A.take (s - a).toNat, A.drop (s - a).toNat, by simp, by simp; omega⟩
  obtain ⟨B1, B2, hBe, hB1'⟩ : ∃ B1 B2, B = B1 ++ B2 ∧ (B1.length : Int) = md - s := ⟨B.take (md - s).toNat, B.drop (md - s).toNat, by simp, by simp; omega⟩
  have c1 : ∀ x ∈ A1, ∀ y ∈ B2, key x ≤ key y := by
    intro x hx y hy
    obtain ⟨u, hu, rfl⟩ := List.mem_iff_getElem.1 hx
    obtain ⟨v, hv, rfl⟩ := List.mem_iff_getElem.1 hy
    have lA := congrArg List.length hAe
    have lB := congrArg List.length hBe
    simp only [List.length_append] at lA lB
    have e1 := gA (a + u) (by omega) (by omega)
    have e2 := gB (md + m - s + v) (by omega) (by omega)
    rw [show a + (u : Int) - P.length = (u : Int) by omega, hAe, gt_app, if_pos hu, gt_get hu] at e1
    rw [show md + m - s + (v : Int) - P.length - A.length = ((B1.length + v : Nat) : Int) by omega, hBe, gt_app, if_neg (by omega), show B1.length + v - B1.length = v by omega, gt_get hv] at e2
    rw [← e1, ← e2]
    rcases hL with h | h
    · omega
    · have h1 := aA (a + u) (s - 1) (by omega) (by omega) (by omega)
      have h2 := aB (md + m - s) (md + m - s + v) (by omega) (by omega) (by omega)
      omega
  have c2 : ∀ y ∈ B1, ∀ x ∈ A2, key y < key x := by
    intro y hy x hx
    obtain ⟨u, hu, rfl⟩ := List.mem_iff_getElem.1 hx
    obtain ⟨v, hv, rfl⟩ := List.mem_iff_getElem.1 hy
    have lA := congrArg List.length hAe
    have lB := congrArg List.length hBe
    simp only [List.length_append] at lA lB
    have e1 := gA (s + u) (by omega) (by omega)
    have e2 := gB (m + v) (by omega) (by omega)
    rw [show s + (u : Int) - P.length = ((A1.length + u : Nat) : Int) by omega, hAe, gt_app, if_neg (by omega), show A1.length + u - A1.length = u by omega, gt_get hu] at e1
    rw [show m + (v : Int) - P.length - A.length = (v : Int) by omega, hBe, gt_app, if_pos hv, gt_get hv] at e2
    rw [← e1, ← e2]
    rcases hR with h | h
    · omega
    · have h1 := aA s (s + u) (by omega) (by omega) (by omega)
      have h2 := aB (m + v) (md + m - 1 - s) (by omega) (by omega) (by omega)
      omega
  have hmg := mg_split key A1 B1 A2 B2 c1 c2
  subst hAe
  subst hBe
  rw [hmg]
  clear gA gB pA pB aA aB hL hR
  simp only [List.length_append] at *
  have hDe : D = P ++ A1 ++ A2 ++ B1 ++ (B2 ++ S) := by rw [← hD]; simp
  iterate 3 (refine TD_seq ?_; repeat' (first | refine TD_region ?_ | refine TD_ret ?_ | refine TD_skip ?_ | refine TD_label ?_ | refine TD_block ?_ | refine TD_exit ?_ | refine ND_then ?_ | refine ND_thenR ?_ | refine ND_thenE ?_ | refine ND_inN ?_ | refine ND_inR ?_ | refine ND_inE ?_ | refine ND_inO rfl ?_ | refine RD_nil ?_ | (refine RD_isGu ?_; first | refine RD_skip rfl rfl rfl ?_ | (refine RD_isEf rfl rfl ?_; refine RD_skipE rfl rfl rfl okD ?_) | refine RD_grdY rfl rfl (by omega) ?_ | refine RD_grdN rfl rfl (by omega) ?_ | refine RD_grd rfl rfl (fun h => ?_) (fun h => ?_) | (fail_if_success (refine RD_isW rfl ?_); refine RD_grdB rfl rfl (fun h => ?_) (fun h => ?_))) | (refine RD_isUn ?_; refine RD_c rfl (fun _ => Const_notB rfl) rfl rfl ?_) | refine RD_c rfl (fun _ => Const_pure rfl) rfl rfl ?_ | (refine RD_isBi ?_; first | refine RD_c rfl (fun _ => Const_add rfl rfl w_) rfl rfl ?_ | refine RD_c rfl (fun _ => Const_sub rfl rfl w_) rfl rfl ?_ | refine RD_c rfl (fun _ => Const_mul rfl rfl w_) rfl rfl ?_ | refine RD_c rfl (fun _ => Const_quo rfl rfl (by omega) q_) rfl rfl ?_ | refine RD_c rfl (fun _ => Const_rem rfl rfl (by omega) rfl) rfl rfl ?_ | refine RD_c rfl (fun _ => Const_half rfl rfl) rfl rfl ?_) | (refine RD_isUn ?_; first | refine RD_c rfl (fun _ => Const_neg rfl w_) rfl rfl ?_) | (refine RD_isCv ?_; first | refine RD_c rfl (fun _ => Const_conv rfl w_) rfl rfl ?_) | (refine RD_isCa ?_; first | refine RD_c rfl (fun _ => Const_len rfl) rfl rfl ?_ | refine RD_c rfl (fun _ => Const_minM rfl rfl) rfl rfl ?_ | refine RD_c rfl (fun _ => Const_maxM rfl rfl) rfl rfl ?_ | refine RD_c rfl (fun _ => Const_min3 rfl rfl rfl) rfl rfl ?_) | (refine RD_isFa ?_; first | refine RD_fldP rfl (by decide) rfl rfl ?_ | refine RD_fld rfl (by decide) rfl rfl ?_) | (refine RD_isIx ?_; first | refine RD_ixB rfl rfl bdI rfl rfl ?_ | refine RD_ixI vwX rfl rfl bdI memL posC rfl rfl ?_ | refine RD_ixR vwX rfl rfl bdI memL posC rfl rfl ?_ | refine RD_c rfl (fun _ => Const_indexA rfl rfl bdI) rfl rfl ?_) | (refine RD_isLd ?_; first | refine RD_ldI vwX rfl memL atC rfl rfl ?_ | refine RD_ldR vwX rfl memL atC rfl rfl ?_ | refine RD_ldB vwX rfl memL atC rfl rfl ?_ | refine RD_ldIB vwX rfl memL atC rfl rfl ?_ | refine RD_ldNI vwX rfl memL atsC lenC rfl rfl ?_ | refine RD_ldNR vwX rfl memL atsC lenC rfl rfl ?_ | refine RD_ldNB vwX rfl memL atsC lenC rfl rfl ?_ | refine RD_ldNIB vwX rfl memL atsC lenC rfl rfl ?_) | (refine RD_isFd ?_; first | refine RD_c rfl (fun _ => Const_field1 rfl rfl) rfl rfl ?_ | refine RD_c rfl (fun _ => Const_fieldN rfl) rfl rfl ?_) | (refine RD_isSt ?_; first | refine RD_st rfl rfl rfl repE stC rfl rfl ⟨okD, ?_⟩ | refine RD_stN rfl rfl lenC oneC repE stsC rfl rfl ⟨okD, ?_⟩) | (refine TD_isCo ?_; first | refine TD_cond_true rfl ?_ | refine TD_cond_false rfl ?_ | refine TD_yes rfl (by omega) ?_ | refine TD_no rfl (by omega) ?_ | refine TD_dec rfl (fun h => ?_) (fun h => ?_) | refine TD_cond rfl (fun h => ?_) (fun h => ?_))))
  have lAB := hmg
  clear lAB
  refine TD_cut (fun G M I => G = [(0, .slice (some ⟨b, 0, none⟩) n c), (1, .int .i64 a), (3, .int .i64 z), (4, .func (.func g) fs cs'), (18, .int .i64 md), (20, .int .i64 s), (24, .int .i64 (md + m - s))] ∧
    M = .blk b (recs (eI .i64) (P ++ A1 ++ B1 ++ (A2 ++ B2 ++ S)) ++ tl) 3 :: M0 ∧ I0 = I) ?_ ?_
  · refine TD_seq ?_
    repeat' (first | refine wXn ?_ | (refine TD_isCo ?_; first | refine TD_dec rfl (fun h => ?_) (fun h => ?_) | refine TD_cond rfl (fun h => ?_) (fun h => ?_)) | (refine RD_isGu ?_; first | refine RD_grd rfl rfl (fun h => ?_) (fun h => ?_) | (fail_if_success (refine RD_isW rfl ?_); refine RD_grdB rfl rfl (fun h => ?_) (fun h => ?_))))
    · rw [hDe]
      (refine RD_call rfl (rotI_ok (P := P ++ A1) (A := A2) (B := B1) (S := B2 ++ S) (by simp only [List.length_append]; omega) (by simp only [List.length_append]; omega) (by simp only [List.length_append]; omega) (by simp only [List.length_append]; omega) (by omega) (by omega) hbd) rfl rfl ?_; rintro _ _ _ ⟨rfl, rfl⟩; refine ⟨okD, ?_⟩)
      repeat (refine wXn ?_)
      rw [show P ++ A1 ++ B1 ++ A2 ++ (B2 ++ S) = P ++ A1 ++ B1 ++ (A2 ++ B2 ++ S) by simp]
      refine ND_cut _ _ _ subG subP incL ⟨rfl, rfl, rfl⟩
    · obtain rfl : B1 = [] := List.eq_nil_of_length_eq_zero (by omega)
      rw [show D = P ++ A1 ++ [] ++ (A2 ++ B2 ++ S) by rw [hDe]; simp]
      refine ND_cut _ _ _ subG subP incL ⟨rfl, rfl, rfl⟩
    · obtain rfl : A2 = [] := List.eq_nil_of_length_eq_zero (by omega)
      rw [show D = P ++ A1 ++ B1 ++ ([] ++ B2 ++ S) by rw [hDe]; simp]
      refine ND_cut _ _ _ subG subP incL ⟨rfl, rfl, rfl⟩
  rintro G M I ⟨rfl, rfl, rfl⟩
  have hPA1 : ∀ x ∈ A1, Pr x := fun x hx => hPA x (List.mem_append.2 (.inl hx))
  have hPA2 : ∀ x ∈ A2, Pr x := fun x hx => hPA x (List.mem_append.2 (.inr hx))
  have hPB1 : ∀ x ∈ B1, Pr x := fun x hx => hPB x (List.mem_append.2 (.inl hx))
  have hPB2 : ∀ x ∈ B2, Pr x := fun x hx => hPB x (List.mem_append.2 (.inr hx))
  have hll := mg_len key A1 B1
  refine TD_cut (fun G M I => G = [(0, .slice (some ⟨b, 0, none⟩) n c), (3, .int .i64 z), (4, .func (.func g) fs cs'), (18, .int .i64 md), (24, .int .i64 (md + m - s))] ∧
    M = .blk b (recs (eI .i64) ((P ++ mg key A1 B1) ++ A2 ++ B2 ++ S) ++ tl) 3 :: M0 ∧ I0 = I) ?_ ?_
  · refine TD_seq ?_
    repeat' (first | refine wXn ?_ | (refine TD_isCo ?_; first | refine TD_dec rfl (fun h => ?_) (fun h => ?_) | refine TD_cond rfl (fun h => ?_) (fun h => ?_)) | (refine RD_isGu ?_; first | refine RD_grd rfl rfl (fun h => ?_) (fun h => ?_) | (fail_if_success (refine RD_isW rfl ?_); refine RD_grdB rfl rfl (fun h => ?_) (fun h => ?_))))
    · (refine RD_call rfl (ih (P := P) (A := A1) (B := B1) (S := A2 ++ B2 ++ S) (by omega) (by simp only [List.length_append]; omega) hPA1 hPB1 (Asc.left key hsA) (Asc.left key hsB) (by omega) (by omega) (by omega) (by omega) (by omega)) rfl rfl ?_; rintro _ _ _ ⟨rfl, rfl⟩; refine ⟨okD, ?_⟩)
      repeat (refine wXn ?_)
      rw [show P ++ mg key A1 B1 ++ (A2 ++ B2 ++ S) = P ++ mg key A1 B1 ++ A2 ++ B2 ++ S by simp]
      refine ND_cut _ _ _ subG subP incL ⟨rfl, rfl, rfl⟩
    · obtain rfl : B1 = [] := List.eq_nil_of_length_eq_zero (by omega)
      rw [mg_nil, show P ++ A1 ++ [] ++ (A2 ++ B2 ++ S) = P ++ A1 ++ A2 ++ B2 ++ S by simp]
      refine ND_cut _ _ _ subG subP incL ⟨rfl, rfl, rfl⟩
    · obtain rfl : A1 = [] := List.eq_nil_of_length_eq_zero (by omega)
      rw [nil_mg, show P ++ [] ++ B1 ++ (A2 ++ B2 ++ S) = P ++ B1 ++ A2 ++ B2 ++ S by simp]
      refine ND_cut _ _ _ subG subP incL ⟨rfl, rfl, rfl⟩
  rintro G M I ⟨rfl, rfl, rfl⟩
  refine TD_seq ?_
  repeat' (first | refine wXn ?_ | (refine TD_isCo ?_; first | refine TD_dec rfl (fun h => ?_) (fun h => ?_) | refine TD_cond rfl (fun h => ?_) (fun h => ?_)) | (refine RD_isGu ?_; first | refine RD_grd rfl rfl (fun h => ?_) (fun h => ?_) | (fail_if_success (refine RD_isW rfl ?_); refine RD_grdB rfl rfl (fun h => ?_) (fun h => ?_))))
  · (refine RD_call rfl (ih (P := P ++ mg key A1 B1) (A := A2) (B := B2) (S := S) (by omega) (by simp only [List.length_append]; omega) hPA2 hPB2 (Asc.right key hsA) (Asc.right key hsB) (by simp only [List.length_append]; omega) (by simp only [List.length_append]; omega) (by simp only [List.length_append]; omega) (by omega) (by omega)) rfl rfl ?_; rintro _ _ _ ⟨rfl, rfl⟩; refine ⟨okD, ?_⟩)
    repeat (refine wXn ?_)
    rw [show P ++ mg key A1 B1 ++ mg key A2 B2 ++ S = P ++ (mg key A1 B1 ++ mg key A2 B2) ++ S by simp]
    refine ND_ret0 (by first | exact .inl rfl | exact .inr rfl) rfl _ _ subP incL (⟨rfl, rfl⟩)
  · obtain rfl : B2 = [] := List.eq_nil_of_length_eq_zero (by omega)
    rw [mg_nil, show P ++ mg key A1 B1 ++ A2 ++ [] ++ S = P ++ (mg key A1 B1 ++ A2) ++ S by simp]
    refine ND_ret0 (by first | exact .inl rfl | exact .inr rfl) rfl _ _ subP incL (⟨rfl, rfl⟩)
  · obtain rfl : A2 = [] := List.eq_nil_of_length_eq_zero (by omega)
    rw [nil_mg, show P ++ mg key A1 B1 ++ [] ++ B2 ++ S = P ++ (mg key A1 B1 ++ B2) ++ S by simp]
    refine ND_ret0 (by first | exact .inl rfl | exact .inr rfl) rfl _ _ subP incL (⟨rfl, rfl⟩)
end

end Go.Proofs.Ytkhgglkkdnemlaa
