/- The document's SameList, SameMatrix, Symmetric, Nonzero, Form, Leading, Definite. The document's Form, Leading, Definite. -/
import Derived.Test.YtdmlebigkakplaaGreatZdaj
import Derived.Test.YtdmlebigkakplaaGreatZdao
import Derived.Test.YtdmlebigkakplaaGreatZdae
import Derived.Test.YtdmlebigkakplaaGreatZdaa
set_option linter.unusedSimpArgs false
set_option linter.unusedVariables false
namespace Go.Proofs.YtdmlebigkakplaaGreat
open Go Go.Fx
/-- the form of a list -/
def qfr (A : Mt) (v : List Rat) (n : Nat) : Rat := sm n (fun t => v.getD t 0 * sm n (fun j => at2 A t j * v.getD j 0))
theorem Hv.cutL {I : List Imm} {m : MX} {K : Nat} {i : Int} {k : Nat} (h : isX m K ∈ I) (hi : 0 ≤ i ∧ i < m.rows.length) : Hv I (isL ⟨cutA (gt m.rows i).p (gt m.rows i).c 0 4, (gt m.rows i).c - 0, (gt m.rows i).es.take k⟩ K) := ⟨fun X w hw => by
  have hr := (hw _ h : IsX m K X w).row _ (gt_mem hi)
  have hc := hr.cap.1
  refine ⟨?_, fun e he => hr.el e (List.mem_of_mem_take he), ?_, ?_⟩
  · have := hr.sl.cut (gt m.rows i).c 0 (k * 4) 4 (by rw [recs_len]; exact Nat.mul_le_mul_right _ hc)
    rw [Nat.zero_mul, List.drop_zero] at this
    show Sl X w _ (recs eR ((gt m.rows i).es.take k))
    rw [recs_take]; exact this
  · show ((gt m.rows i).es.take k).length ≤ (gt m.rows i).c - 0
    rw [List.length_take]; omega
  · rcases hr.cap.2 with h | ⟨h1, h2⟩
    · exact .inl (Ok_cut h)
    · refine .inr ⟨?_, ?_⟩
      · show ((gt m.rows i).es.take k).length = 0
        rw [List.length_take]; omega
      · show (gt m.rows i).c - 0 = 0
        omega⟩
theorem symM_iff {A B : Mt} {n : Nat} (hA : A = mkM n n (at2 A)) (hB : B = mkM n n (fun i j => at2 A j i)) : A = B ↔ symM A n := by
  constructor
  · intro h i hi j hj
    have e : at2 A i j = at2 B i j := by rw [← h]
    rw [e, hB, mkM_at hi (by omega)]
  · intro h
    rw [hB, hA]
    exact mkM_congr (fun i j hi hj => by
      rw [mkM_at hj hi]
      rcases Nat.lt_trichotomy i j with e | e | e
      · exact (h j hj i e).symm
      · rw [e]
      · exact h i hi j e)
section
variable {X : List Nat} {w0 : World} {M0 : List Ent} {I0 : List Imm}
set_option maxRecDepth 100000 in
theorem rSameList_ok {x y : RL} {u m : Nat} (hk : u + m + 1 ≤ 100000000) (lx : x.es.length ≤ 1000) (ly : y.es.length ≤ 1000) (hx : Hv I0 (isL x u)) (hy : Hv I0 (isL y m)) :
    CD Tryz.prog 48 [lv x, lv y] X w0 M0 I0 (fun v M I => M0 = M ∧ I0 = I ∧ v = .bool (B (x.q = y.q))) := by
  refine CD_hvV hx (CD_hvV (φ := isL y m) (hy.cons) ?_)
  refine CD_hv (φ := slI (x).p (recs eR (x).es)) (Hv.lsl memF) ?_
  refine CD_hv (φ := slI (y).p (recs eR (y).es)) (Hv.lsl memF) ?_
  by_cases hlen : x.es.length = y.es.length
  · refine enterD2 Tryz.func48 rfl Tryz.ntmps48 rfl ?_
    repeat (refine wXh ?_)
    refine TD_loop [0, 1] rfl (fun k G M I => ∃ i : Nat, i ≤ x.es.length ∧ k = x.es.length - i ∧ (∀ j : Nat, j < i → (gt x.es (j : Int)).q = (gt y.es (j : Int)).q) ∧ G = [(5, .int .i64 i)] ∧ M0 = M ∧ I = slI y.p (recs eR y.es) :: slI x.p (recs eR x.es) :: isL y m :: isL x u :: I0) (x.es.length) _ _ _ subG subF incF (⟨0, by omega, rfl, fun j hj => by omega, rfl, rfl, rfl⟩) ?_
    rintro kk G M I ⟨i, hi, rfl, hs, rfl, rfl, rfl⟩
    by_cases hi2 : i < x.es.length
    · have hS := fun M0 I0 h1 h2 => rSame_ok (X := X) (w0 := w0) (M0 := M0) (I0 := I0) (a := gt x.es (i : Int)) (b := gt y.es (i : Int)) (k := u) (m := m) (by omega) h1 h2
      by_cases he : (gt x.es (i : Int)).q = (gt y.es (i : Int)).q
      · rw [B_true he] at hS
        repeat (refine wXh ?_)
        (repeat refine TD_seq ?_); refine TD_drawnJ 1 [0, 1, 2, 3, 4, 5, 6, 7, 8, 9] [1, 1, 1, 0, 1, 1, 1, 0, 0, 0] mixed (by kernel_rfl) ?_
        repeat (refine wXh ?_)
        (refine RD_callS rfl (hS _ _ (Hv.lel memF (by omega)) (Hv.lel memF (by omega))) rfl rfl ?_; rintro _ _ _ ⟨rfl, rfl, rfl⟩; refine ⟨okF, ?_⟩)
        repeat (refine wXh ?_)
        refine ND_again (x.es.length - (i + 1)) _ _ _ (by first | omega | (simp only [List.length_append, List.length_cons, List.length_nil]; omega)) subG subF incF (⟨i + 1, by omega, rfl, fun j hj => ?_, rfl, rfl, rfl⟩)
        by_cases e : j = i
        · subst e; exact he
        · exact hs j (by omega)
      · rw [B_false he] at hS
        repeat (refine wXh ?_)
        (repeat refine TD_seq ?_); refine TD_drawnJ 1 [0, 1, 2, 3, 4, 5, 6, 7, 8, 9] [1, 1, 1, 0, 1, 1, 1, 0, 0, 0] mixed (by kernel_rfl) ?_
        repeat (refine wXh ?_)
        (refine RD_callS rfl (hS _ _ (Hv.lel memF (by omega)) (Hv.lel memF (by omega))) rfl rfl ?_; rintro _ _ _ ⟨rfl, rfl, rfl⟩; refine ⟨okF, ?_⟩)
        repeat (refine wXh ?_)
        refine ND_ret1 (by first | exact .inl rfl | exact .inr rfl) rfl rfl _ _ subF incF (⟨rfl, rfl, congrArg Value.bool (B_false (fun e => he (q_at e hi2))).symm⟩)
    · repeat (refine wXh ?_)
      refine ND_ret1 (by first | exact .inl rfl | exact .inr rfl) rfl rfl _ _ subF incF (⟨rfl, rfl, congrArg Value.bool (B_true (q_ext hlen (fun j hj => hs j (by omega)))).symm⟩)
  · refine enterD2 Tryz.func48 rfl Tryz.ntmps48 rfl ?_
    repeat (refine wXh ?_)
    refine ND_ret1 (by first | exact .inl rfl | exact .inr rfl) rfl rfl _ _ subF incF (⟨rfl, rfl, congrArg Value.bool (B_false (fun e => hlen (by have := congrArg List.length e; simpa using this))).symm⟩)
set_option maxRecDepth 100000 in
theorem rSameMatrix_ok {a b : MX} {n k m : Nat} (hk : k + m + 1 ≤ 100000000) (hn : n ≤ 64) (da : a.dim n n) (db : b.dim n n) (ha : isX a k ∈ I0) (hb : isX b m ∈ I0) :
    CD Tryz.prog 35 [mv a, mv b] X w0 M0 I0 (fun v M I => M0 = M ∧ I0 = I ∧ v = .bool (B (a.q = b.q))) := by
  have la := da.1
  have lb := db.1
  refine CD_hv (φ := slI (a).p (recs eL (a).rows)) (Hv.xsl memF) ?_
  refine CD_hv (φ := slI (b).p (recs eL (b).rows)) (Hv.xsl memF) ?_
  refine enterD2 Tryz.func35 rfl Tryz.ntmps35 rfl ?_
  repeat (refine wXh ?_)
  refine TD_loop [0, 1] rfl (fun k G M I => ∃ i : Nat, i ≤ n ∧ k = n - i ∧ (∀ j : Nat, j < i → (gt a.rows (j : Int)).q = (gt b.rows (j : Int)).q) ∧ G = [(5, .int .i64 i)] ∧ M0 = M ∧ I = slI b.p (recs eL b.rows) :: slI a.p (recs eL a.rows) :: I0) (n) _ _ _ subG subF incF (⟨0, by omega, rfl, fun j hj => by omega, rfl, rfl, rfl⟩) ?_
  rintro kk G M I ⟨i, hi, rfl, hs, rfl, rfl, rfl⟩
  by_cases hi2 : i < n
  · have c1 := da.row (i := i) (by omega)
    have c2 := db.row (i := i) (by omega)
    have hS := fun M0 I0 h1 h2 => rSameList_ok (X := X) (w0 := w0) (M0 := M0) (I0 := I0) (x := gt a.rows (i : Int)) (y := gt b.rows (i : Int)) (u := k) (m := m) hk (by omega) (by omega) h1 h2
    by_cases he : (gt a.rows (i : Int)).q = (gt b.rows (i : Int)).q
    · rw [B_true he] at hS
      repeat (refine wXh ?_)
      (repeat refine TD_seq ?_); refine TD_drawnJ 1 [0, 1, 2, 3, 4, 5, 6, 7, 8, 9] [1, 1, 1, 0, 1, 1, 1, 0, 0, 0] mixed (by kernel_rfl) ?_
      repeat (refine wXh ?_)
      (refine RD_callS rfl (hS _ _ (Hv.xrow memF (by omega)) (Hv.xrow memF (by omega))) rfl rfl ?_; rintro _ _ _ ⟨rfl, rfl, rfl⟩; refine ⟨okF, ?_⟩)
      repeat (refine wXh ?_)
      refine ND_again (n - (i + 1)) _ _ _ (by first | omega | (simp only [List.length_append, List.length_cons, List.length_nil]; omega)) subG subF incF (⟨i + 1, by omega, rfl, fun j hj => ?_, rfl, rfl, rfl⟩)
      by_cases e : j = i
      · subst e; exact he
      · exact hs j (by omega)
    · rw [B_false he] at hS
      repeat (refine wXh ?_)
      (repeat refine TD_seq ?_); refine TD_drawnJ 1 [0, 1, 2, 3, 4, 5, 6, 7, 8, 9] [1, 1, 1, 0, 1, 1, 1, 0, 0, 0] mixed (by kernel_rfl) ?_
      repeat (refine wXh ?_)
      (refine RD_callS rfl (hS _ _ (Hv.xrow memF (by omega)) (Hv.xrow memF (by omega))) rfl rfl ?_; rintro _ _ _ ⟨rfl, rfl, rfl⟩; refine ⟨okF, ?_⟩)
      repeat (refine wXh ?_)
      refine ND_ret1 (by first | exact .inl rfl | exact .inr rfl) rfl rfl _ _ subF incF (⟨rfl, rfl, congrArg Value.bool (B_false (fun e => he (mq_row e (by omega)))).symm⟩)
  · repeat (refine wXh ?_)
    refine ND_ret1 (by first | exact .inl rfl | exact .inr rfl) rfl rfl _ _ subF incF (⟨rfl, rfl, congrArg Value.bool (B_true (mq_ext (by omega) (fun j hj => hs j (by omega)))).symm⟩)
set_option maxRecDepth 100000 in
theorem rSymmetric_ok {a : MX} {n k : Nat} (hk : k ≤ 20000000) (da : a.fit n n) (ha : isX a k ∈ I0) :
    CD Tryz.prog 180 [mv a] X w0 M0 I0 (fun v M I => M0 = M ∧ I0 = I ∧ v = .bool (B (symM a.q n))) := by
  have hTr := fun M0 I0 h1 => CD_ms (rTransp_own (X := X) (w0 := w0) (M0 := M0) (I0 := I0) (a := a) (k0 := k) da.2.1 da.2.2 da.1 h1)
  have hn := da.2.1
  refine enterD1 Tryz.func180 rfl Tryz.ntmps180 rfl ?_
  repeat (refine wXh ?_)
  (refine RD_callS rfl (hTr _ _ memF) rfl rfl ?_; rintro _ _ _ ⟨rfl, y, rfl, hy, hyd, rfl⟩; refine ⟨okF, ?_⟩)
  have hS := fun M0 I0 h1 h2 => rSameMatrix_ok (X := X) (w0 := w0) (M0 := M0) (I0 := I0) (a := a) (b := y) (n := n) (k := k) (m := k) (by omega) (by omega) da.1 hyd h1 h2
  rw [B_congr (symM_iff da.1.mk hy)] at hS
  (refine RD_callS rfl (hS _ _ memF memF) rfl rfl ?_; rintro _ _ _ ⟨rfl, rfl, rfl⟩; refine ⟨okF, ?_⟩)
  repeat (refine wXh ?_)
  refine ND_ret1 (by first | exact .inl rfl | exact .inr rfl) rfl rfl _ _ subF incF (⟨rfl, rfl, rfl⟩)
set_option maxRecDepth 100000 in
theorem rNonzero_ok {x : RL} {k : Nat} (hk : k ≤ 100000000) (lx : x.es.length ≤ 1000) (hx : isL x k ∈ I0) :
    CD Tryz.prog 36 [lv x] X w0 M0 I0 (fun v M I => M0 = M ∧ I0 = I ∧ v = .bool (B (¬ zeroL x.q))) := by
  refine CD_hv (φ := slI (x).p (recs eR (x).es)) (Hv.lsl memF) ?_
  refine enterD1 Tryz.func36 rfl Tryz.ntmps36 rfl ?_
  repeat (refine wXh ?_)
  refine TD_loop [0] rfl (fun k G M I => ∃ i : Nat, i ≤ x.es.length ∧ k = x.es.length - i ∧ (∀ j : Nat, j < i → (gt x.es (j : Int)).q = 0) ∧ G = [(3, .int .i64 i)] ∧ M0 = M ∧ I = slI x.p (recs eR x.es) :: I0) (x.es.length) _ _ _ subG subF incF (⟨0, by omega, rfl, fun j hj => by omega, rfl, rfl, rfl⟩) ?_
  rintro kk G M I ⟨i, hi, rfl, hs, rfl, rfl, rfl⟩
  by_cases hi2 : i < x.es.length
  · have hS := fun M0 I0 h1 => rQSign_ok (X := X) (w0 := w0) (M0 := M0) (I0 := I0) (e := gt x.es (i : Int)) (k := k) hk h1
    by_cases he : (gt x.es (i : Int)).q = 0
    · rw [(sign0 _).2 he] at hS
      repeat (refine wXh ?_)
      (refine RD_callS rfl (hS _ _ (Hv.lel memF (by omega))) rfl rfl ?_; rintro _ _ _ ⟨rfl, rfl, rfl⟩; refine ⟨okF, ?_⟩)
      repeat (refine wXh ?_)
      refine ND_again (x.es.length - (i + 1)) _ _ _ (by first | omega | (simp only [List.length_append, List.length_cons, List.length_nil]; omega)) subG subF incF (⟨i + 1, by omega, rfl, fun j hj => ?_, rfl, rfl, rfl⟩)
      by_cases e : j = i
      · subst e; exact he
      · exact hs j (by omega)
    · have hs0 : ¬ (gt x.es (i : Int)).q.num.sign = 0 := fun h => he ((sign0 _).1 h)
      generalize hsg : (gt x.es (i : Int)).q.num.sign = sg at *
      repeat (refine wXh ?_)
      (refine RD_callS rfl (hS _ _ (Hv.lel memF (by omega))) rfl rfl ?_; rintro _ _ _ ⟨rfl, rfl, rfl⟩; refine ⟨okF, ?_⟩)
      repeat (refine wXh ?_)
      refine ND_ret1 (by first | exact .inl rfl | exact .inr rfl) rfl rfl _ _ subF incF (⟨rfl, rfl, congrArg Value.bool (B_true (p := ¬ zeroL x.q) (fun e => he (e _ (List.mem_map.2 ⟨_, gt_mem (ms := x.es) (i := (i : Int)) (by omega), rfl⟩)))).symm⟩)
  · repeat (refine wXh ?_)
    refine ND_ret1 (by first | exact .inl rfl | exact .inr rfl) rfl rfl _ _ subF incF (⟨rfl, rfl, congrArg Value.bool (B_false (p := ¬ zeroL x.q) (fun e => e (fun q hq => ?_))).symm⟩)
    obtain ⟨r, hr, rfl⟩ := List.mem_map.1 hq
    obtain ⟨j, hj, rfl⟩ := List.mem_iff_getElem.1 hr
    have := hs j (by omega)
    rwa [gt_lt hj] at this
end
end Go.Proofs.YtdmlebigkakplaaGreat
namespace Go.Proofs.YtdmlebigkakplaaGreat
open Go Go.Fx
section
variable {X : List Nat} {w0 : World} {M0 : List Ent} {I0 : List Imm}
set_option maxRecDepth 100000 in
set_option maxHeartbeats 1000000 in
theorem rForm_ok {a : MX} {x : RL} {n k0 m : Nat} (hk : k0 + m ≤ 700000) (hm : m ≤ 600000) (hK : n * (m + n * (k0 + m + 1) + 1) ≤ 100000000) (da : a.fit n n) (hl : x.es.length = n) (ha : isX a k0 ∈ I0) (hx : isL x m ∈ I0) :
    CD Tryz.prog 183 [mv a, lv x] X w0 M0 I0 (RQ (qfr a.q x.q n) (n * (m + n * (k0 + m + 1) + 1)) M0 I0) := by
  obtain ⟨n1, n2⟩ := da.2.1
  have hA := fun M0 I0 h1 h2 => rApply_ok (X := X) (w0 := w0) (M0 := M0) (I0 := I0) (a := a) (x := x) (R := n) (C := n) (k0 := k0) (m := m) hk hm ⟨n1, n2⟩ ⟨n1, n2⟩ da.1 hl h1 h2
  have hW := fun M0 I0 => rWhole05_ok (X := X) (w0 := w0) (M0 := M0) (I0 := I0) (x := 0) (by decide)
  obtain ⟨kw, hkw⟩ : ∃ kw, kw = n * (k0 + m + 1) := ⟨_, rfl⟩
  rw [← hkw] at hA hK ⊢
  refine CD_hv (φ := slI (x).p (recs eR (x).es)) (Hv.lsl memF) ?_
  refine enterD2 Tryz.func183 rfl Tryz.ntmps183 rfl ?_
  refine TD_seq ?_
  refine TD_region ?_
  (refine RD_alloc rfl rfl ?_; intro b4; refine ⟨okF, ?_⟩)
  repeat (refine wXh ?_)
  (refine RD_callS rfl (hW _ _) rfl rfl ?_; rintro _ _ _ ⟨rfl, e0, rfl, he0, rfl⟩; refine ⟨okF, ?_⟩)
  repeat (refine wXh ?_)
  (refine RD_alloc rfl rfl ?_; intro b5; refine ⟨okF, ?_⟩)
  repeat (refine wXh ?_)
  (refine RD_callS rfl (hA _ _ memF memF) rfl rfl ?_; rintro _ _ _ ⟨rfl, y, rfl, hy, rfl⟩; refine ⟨okF, ?_⟩)
  repeat (refine wXh ?_)
  have ly : y.es.length = n := by have := congrArg List.length hy; simpa using this
  refine TD_hv (φ := slI (y).p (recs eR (y).es)) (Hv.lsl memF) ?_
  clear hW hA
  refine TD_w (I' := isR e0 0 :: slI y.p (recs eR y.es) :: isL y kw :: slI x.p (recs eR x.es) :: I0) SubP.refl incF ?_
  refine TD_loop [1, 4, 5, 6] rfl (fun k G M I => ∃ (t : Nat) (s : RE), t ≤ n ∧ k = n - t ∧ s.q = sm t (fun t => x.q.getD t 0 * sm n (fun j => at2 a.q t j * x.q.getD j 0)) ∧ G = [(7, .int .i64 t)] ∧ M = .blk b5 (eR s) 26 :: .blk b4 [.bool false, .slice none 0 0, .bool false, .slice none 0 0] 26 :: M0 ∧ I = isR s (t * (m + kw + 1)) :: slI y.p (recs eR y.es) :: isL y kw :: slI x.p (recs eR x.es) :: I0) (n) _ _ _ subG subF incF (⟨0, e0, by omega, rfl, he0, rfl, rfl, by rw [Nat.zero_mul]⟩) ?_
  rintro kk G M I ⟨t, s, ht, rfl, hs, rfl, rfl, rfl⟩
  have hu : t * (m + kw + 1) ≤ 100000000 := Nat.le_trans (Nat.mul_le_mul_right _ ht) hK
  by_cases htn : t < n
  · have hu2 : (t + 1) * (m + kw + 1) = t * (m + kw + 1) + (m + kw) + 1 := by rw [Nat.succ_mul]; omega
    have hK2 : (t + 1) * (m + kw + 1) ≤ 100000000 := Nat.le_trans (Nat.mul_le_mul_right _ htn) hK
    have hyt : (gt y.es (t : Int)).q = sm n (fun j => at2 a.q t j * x.q.getD j 0) := by
      have h1 : y.q.getD t 0 = sm n (fun j => at2 a.q t j * x.q.getD j 0) := by rw [hy]; simp [List.getD, htn]
      rw [← h1]; exact (qs_getD (by omega)).symm
    have hq : sm (t + 1) (fun t => x.q.getD t 0 * sm n (fun j => at2 a.q t j * x.q.getD j 0)) = s.q + (gt x.es (t : Int)).q * (gt y.es (t : Int)).q := by
      simp only [sm]
      rw [hs, hyt, qs_getD (by omega)]
    generalize t * (m + kw + 1) = u at *
    repeat (refine wXh ?_)
    (repeat refine TD_seq ?_); refine TD_drawnJ 2 [0, 1, 2, 3, 4, 5, 6, 7, 8, 9, 10, 11] [1, 2, 2, 2, 1, 2, 2, 2, 1, 0, 0, 0] mixed (by kernel_rfl) ?_
    repeat (refine wXh ?_)
    (refine RD_callS rfl (rQMul_ok (k := m) (m := kw) (by omega) (Hv.lel (r := x) (k := m) memF (by omega)) (Hv.lel (r := y) (k := kw) memF (by omega))) rfl rfl ?_; rintro _ _ _ ⟨rfl, e2, rfl, he2, rfl⟩; refine ⟨okF, ?_⟩)
    (refine RD_callS rfl (rQAdd_ok (k := u) (m := m + kw) (by omega) (Hv.mem memF) (Hv.mem memF)) rfl rfl ?_; rintro _ _ _ ⟨rfl, e3, rfl, he3, rfl⟩; refine ⟨okF, ?_⟩)
    repeat (refine wXh ?_)
    rw [← hu2]
    refine ND_again (n - (t + 1)) _ _ _ (by first | omega | (simp only [List.length_append, List.length_cons, List.length_nil]; omega)) subG subF incF (⟨t + 1, e3, by omega, rfl, by rw [hq, he3, he2], rfl, rfl, rfl⟩)
  · obtain rfl : t = n := by omega
    repeat (refine wXh ?_)
    refine ND_retC (cs := eR s) (.inl rfl) rfl rfl memF rfl M0 (isR s (t * (m + kw + 1)) :: I0) subF incF ⟨rfl, s, rfl, hs, rfl⟩
set_option maxRecDepth 100000 in
set_option maxHeartbeats 1000000 in
theorem Leading_ok {a : MX} {n u k0 : Nat} (hu1 : 1 ≤ u) (hu : u ≤ n) (hK : hD k0 u ≤ 50000000) (da : a.fit n n) (ha : isX a k0 ∈ I0) :
    CD Tryz.prog 182 [mv a, .int .i64 (u : Int)] X w0 M0 I0 (RQ (dt u (at2 a.q)) (hD k0 u) M0 I0) := by
  obtain ⟨n1, n2⟩ := da.2.1
  have lR := da.1.1
  refine CD_hv (φ := slI (a).p (recs eL (a).rows)) (Hv.xsl memF) ?_
  refine enterD2 Tryz.func182 rfl Tryz.ntmps182 rfl ?_
  refine TD_seq ?_
  refine TD_region ?_
  (refine RD_alloc rfl rfl ?_; intro b4; refine ⟨okF, ?_⟩)
  repeat (refine wXh ?_)
  (refine RD_vals (cs := recs eL []) ([]) rfl rfl (by intro v hv; repeat (first | exact absurd hv (List.not_mem_nil) | (rcases List.mem_cons.1 hv with rfl | hv; · rfl))) (by omega) rfl rfl rfl ?_; intro bo; refine ⟨okF, ?_⟩; refine RD_toRow (mm := 0) 1 .here rfl (by omega) ?_)
  repeat (refine wXh ?_)
  refine TD_hv (φ := allL [] k0) Hv.nilL ?_
  refine TD_loop [0, 1, 4] rfl (fun k G M I => ∃ (i : Nat) (rs : List RL) (q : Option Addr) (c : Nat), i ≤ u ∧ k = u - i ∧ rs.length = i ∧ (∀ r ∈ rs, r.es.length = u) ∧ rs.map RL.q = (List.range i).map (fun t => (List.range u).map (at2 a.q t)) ∧ G = [(5, .slice q rs.length c), (6, .int .i64 i)] ∧ M = .row q rs.length c (recs eL rs) 61 1 :: .blk b4 [.bool false, .slice none 0 0, .bool false, .slice none 0 0] 26 :: M0 ∧ I = allL rs k0 :: slI a.p (recs eL a.rows) :: I0) (u) _ _ _ subG subF incF (⟨0, [], _, _, by omega, rfl, rfl, fun r hr => by simp at hr, rfl, rfl, rfl, rfl⟩) ?_
  rintro kk G M I ⟨i, rs, q, c, hi, rfl, hrl, hrc, hrq, rfl, rfl, rfl⟩
  by_cases hin : i < u
  · have hra := da.1.row (show i < n by omega)
    refine TD_hv (φ := isL ⟨cutA (gt a.rows (i : Int)).p (gt a.rows (i : Int)).c 0 4, (gt a.rows (i : Int)).c - 0, (gt a.rows (i : Int)).es.take u⟩ k0) (Hv.cutL (m := a) memF (by omega)) ?_
    refine TD_fact (fun w hw => (((hw.imm _ (show isX a k0 ∈ _ by exact memF)).2 : IsX a k0 _ w).row _ (gt_mem (i := (i : Int)) (by omega))).cap.1) (fun hcap => ?_)
    obtain ⟨rl, hrl2⟩ : ∃ rl : RL, rl = ⟨cutA (gt a.rows (i : Int)).p (gt a.rows (i : Int)).c 0 4, (gt a.rows (i : Int)).c - 0, (gt a.rows (i : Int)).es.take u⟩ := ⟨_, rfl⟩
    rw [← hrl2]
    have hrlen : rl.es.length = u := by rw [hrl2]; show ((gt a.rows (i : Int)).es.take u).length = u; rw [List.length_take]; omega
    have hrlv : Value.slice (cutA (gt a.rows (i : Int)).p (gt a.rows (i : Int)).c 0 4) u ((gt a.rows (i : Int)).c - 0) = lv rl := by
      show _ = Value.slice rl.p rl.es.length rl.c
      rw [hrlen, hrl2]
    repeat (refine wXh ?_)
    (refine RD_c rfl (fun _ => Const_cut (e := 26) (sz := 4) 0 u u rfl (.inl ⟨rfl, rfl⟩) (.inr ⟨_, _, _, rfl, rfl, rfl⟩) (by omega) (by omega) (by omega)) rfl rfl ?_)
    rw [hrlv]
    (refine RD_vals (cs := recs eL [rl]) ([lv rl]) rfl rfl (by intro v hv; repeat (first | exact absurd hv (List.not_mem_nil) | (rcases List.mem_cons.1 hv with rfl | hv; · rfl))) (by omega) rfl rfl rfl ?_; intro b2; refine ⟨okF, ?_⟩)
    (refine RD_appR (ys := [rl]) 1 rfl rfl rfl ?_ (by decide) rfl (by omega) (by omega) rfl rfl ?_; (· first | exact Src.blk memF | exact Src.row memF | exact Src.imm memF (by first | assumption | exact .inl (Ok.mk _ _))); intro q2 c2; refine ⟨okF, ?_⟩)
    repeat (refine wXh ?_)
    refine ND_hv (φ := allL (rs ++ [rl]) k0) (Hv.snocL memF memF) ?_
    refine ND_again (u - (i + 1)) _ _ _ (by first | omega | (simp only [List.length_append, List.length_cons, List.length_nil]; omega)) subG subF incF (⟨i + 1, rs ++ [rl], q2, c2, by omega, rfl, by simp [hrl], fun r hr => ?_, ?_, rfl, rfl, rfl⟩)
    · rcases List.mem_append.1 hr with h | h
      · exact hrc r h
      · rw [List.mem_singleton.1 h]; exact hrlen
    · rw [q_snoc, hrq, List.range_succ, List.map_append]
      have : rl.q = (List.range u).map (at2 a.q i) := by
        apply list_ext0
        · simp [hrlen]
        · intro t ht
          have ht' : t < u := by simpa [hrlen] using ht
          rw [qs_getD (by omega)]
          have e1 : gt rl.es (t : Int) = gt (gt a.rows (i : Int)).es (t : Int) := by
            rw [gt_lt (by omega), gt_lt (by omega)]
            simp only [hrl2, List.getElem_take]
          rw [e1, ← at2_q (by omega) (by omega)]
          simp [List.getD, ht']
      rw [this]; rfl
  · obtain rfl : i = u := by omega
    repeat (refine wXh ?_)
    refine RD_toX memF ?_
    have hXq : (⟨q, c, rs⟩ : MX).q = mkM i i (at2 a.q) := hrq
    have hdt : dt i (at2 (⟨q, c, rs⟩ : MX).q) = dt i (at2 a.q) := dt_congr (fun x y hx hy => by rw [hXq, mkM_at hx hy])
    have hD2 := fun M0 I0 h1 => rDet_ok (X := X) (w0 := w0) (M0 := M0) (I0 := I0) (m := (⟨q, c, rs⟩ : MX)) i (k0 := k0) hu1 (by omega) hK ⟨hrl, hrc⟩ h1
    rw [hdt] at hD2
    (refine RD_callS rfl (hD2 _ _ memF) rfl rfl ?_; rintro _ _ _ ⟨rfl, e, rfl, he, rfl⟩; refine ⟨okF, ?_⟩)
    repeat (refine wXh ?_)
    refine ND_retC (cs := eR e) (.inl rfl) rfl rfl memF rfl M0 (isR e (hD k0 i) :: I0) subF incF ⟨rfl, e, rfl, he, rfl⟩
def posD (f : Nat → Nat → Rat) (n : Nat) : Prop := ∀ k, k < n → 0 < dt (k + 1) f
instance (f : Nat → Nat → Rat) (n : Nat) : Decidable (posD f n) := inferInstanceAs (Decidable (∀ k, k < n → 0 < dt (k + 1) f))
set_option maxRecDepth 100000 in
theorem rDefinite_ok {a : MX} {n k0 : Nat} (hK : ∀ u, 1 ≤ u → u ≤ n → hD k0 u ≤ 50000000) (da : a.fit n n) (ha : isX a k0 ∈ I0) :
    CD Tryz.prog 78 [mv a] X w0 M0 I0 (fun v M I => M0 = M ∧ I0 = I ∧ v = .bool (B (posD (at2 a.q) n))) := by
  obtain ⟨n1, n2⟩ := da.2.1
  have lR := da.1.1
  refine enterD1 Tryz.func78 rfl Tryz.ntmps78 rfl ?_
  repeat (refine wXh ?_)
  refine TD_loop [0] rfl (fun k G M I => ∃ u : Nat, 1 ≤ u ∧ u ≤ n + 1 ∧ k = n + 1 - u ∧ (∀ x : Nat, x + 1 < u → 0 < dt (x + 1) (at2 a.q)) ∧ G = [(3, .int .i64 u)] ∧ M0 = M ∧ I0 = I) (n) _ _ _ subG subF incF (⟨1, by omega, by omega, by omega, fun x hx => by omega, rfl, rfl, rfl⟩) ?_
  rintro kk G M I ⟨u, hu1, hu, rfl, hs, rfl, rfl, rfl⟩
  by_cases hun : u ≤ n
  · have hL := fun M0 I0 h => Leading_ok (X := X) (w0 := w0) (M0 := M0) (I0 := I0) (a := a) (n := n) (u := u) (k0 := k0) hu1 hun (hK u hu1 hun) da h
    have hb := hK u hu1 hun
    obtain ⟨x, rfl⟩ : ∃ x, u = x + 1 := ⟨u - 1, by omega⟩
    by_cases he : 0 < dt (x + 1) (at2 a.q)
    · repeat (refine wXh ?_)
      (refine RD_callS rfl (hL _ _ memF) rfl rfl ?_; rintro _ _ _ ⟨rfl, e, rfl, hq, rfl⟩; refine ⟨okF, ?_⟩)
      have hS := fun M0 I0 h1 => rQSign_ok (X := X) (w0 := w0) (M0 := M0) (I0 := I0) (e := e) (k := hD k0 (x + 1)) (by omega) h1
      have hsg : 0 < e.q.num.sign := (sign_pos _).2 (by rw [hq]; exact he)
      generalize e.q.num.sign = sg at *
      (refine RD_callS rfl (hS _ _ (Hv.mem memF)) rfl rfl ?_; rintro _ _ _ ⟨rfl, rfl, rfl⟩; refine ⟨okF, ?_⟩)
      repeat (refine wXh ?_)
      refine ND_again (n + 1 - (x + 1 + 1)) _ _ _ (by first | omega | (simp only [List.length_append, List.length_cons, List.length_nil]; omega)) subG subF incF (⟨x + 1 + 1, by omega, by omega, rfl, fun y hy => ?_, rfl, rfl, rfl⟩)
      by_cases e : y = x
      · subst e; exact he
      · exact hs y (by omega)
    · repeat (refine wXh ?_)
      (refine RD_callS rfl (hL _ _ memF) rfl rfl ?_; rintro _ _ _ ⟨rfl, e, rfl, hq, rfl⟩; refine ⟨okF, ?_⟩)
      have hS := fun M0 I0 h1 => rQSign_ok (X := X) (w0 := w0) (M0 := M0) (I0 := I0) (e := e) (k := hD k0 (x + 1)) (by omega) h1
      have hsg : ¬ 0 < e.q.num.sign := fun h => he (by rw [← hq]; exact (sign_pos _).1 h)
      generalize e.q.num.sign = sg at *
      (refine RD_callS rfl (hS _ _ (Hv.mem memF)) rfl rfl ?_; rintro _ _ _ ⟨rfl, rfl, rfl⟩; refine ⟨okF, ?_⟩)
      repeat (refine wXh ?_)
      refine ND_ret1 (by first | exact .inl rfl | exact .inr rfl) rfl rfl _ _ subF incF (⟨rfl, rfl, congrArg Value.bool (B_false (fun h => he (h x (by omega)))).symm⟩)
  · obtain rfl : u = n + 1 := by omega
    repeat (refine wXh ?_)
    refine ND_ret1 (by first | exact .inl rfl | exact .inr rfl) rfl rfl _ _ subF incF (⟨rfl, rfl, congrArg Value.bool (B_true (fun x hx => hs x (by omega))).symm⟩)
end
end Go.Proofs.YtdmlebigkakplaaGreat
