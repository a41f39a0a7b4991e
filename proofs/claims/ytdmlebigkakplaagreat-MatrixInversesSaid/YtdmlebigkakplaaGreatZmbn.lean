/- matrix: the functions that the elements are made by; dot. -/
import Derived.Test.YtdmlebigkakplaaGreatZmbk
import Derived.Test.YtdmlebigkakplaaGreatZmbm
import Derived.Test.YtdmlebigkakplaaGreatZmbi
set_option linter.unusedSimpArgs false
set_option linter.unusedVariables false
namespace Go.Proofs.YtdmlebigkakplaaGreat
open Go Go.Fx
abbrev pb (b : Nat) : Value := .pointer (some ⟨b, 0, none⟩)
abbrev bxX (b : Nat) (m : MX) : Imm := slI (some ⟨b, 0, none⟩) [.slice m.p m.rows.length m.c]
/-- the products of two lists, summed -/
def dotQ (n : Nat) (x y : List Rat) : Rat := sm n (fun t => x.getD t 0 * y.getD t 0)
theorem rowAt_q {m : MX} {i : Nat} (hi : i < m.rows.length) : rowAt m.q i = (gt m.rows (i : Int)).q := by
  unfold rowAt
  rw [gt_lt hi]
  simp [List.getD, hi]
section
variable {X : List Nat} {w0 : World} {M0 : List Ent} {I0 : List Imm}
set_option maxRecDepth 100000 in
theorem Add1_ok {a b : MX} {p q k m i j : Nat} (hk : k + m + 1 ≤ 100000000) (hi : i < a.rows.length) (hj : j < (gt a.rows (i : Int)).es.length) (hi2 : i < b.rows.length) (hj2 : j < (gt b.rows (i : Int)).es.length)
    (ha : isX a k ∈ I0) (hb : isX b m ∈ I0) (fa : bxX p a ∈ I0) (fb : bxX q b ∈ I0) :
    CD Tryz.prog 162 [.int .i64 (i : Int), .int .i64 (j : Int), pb p, pb q] X w0 M0 I0 (RQ (at2 a.q i j + at2 b.q i j) (k + m + 1) M0 I0) := by
  rw [at2_q hi hj, at2_q hi2 hj2]
  refine CD_hv (φ := slI (a).p (recs eL (a).rows)) (Hv.xsl memF) ?_
  refine CD_hv (φ := slI (gt (a).rows (i : Int)).p (recs eR (gt (a).rows (i : Int)).es)) (Hv.xrsl memF (by omega)) ?_
  refine CD_hv (φ := slI (b).p (recs eL (b).rows)) (Hv.xsl memF) ?_
  refine CD_hv (φ := slI (gt (b).rows (i : Int)).p (recs eR (gt (b).rows (i : Int)).es)) (Hv.xrsl memF (by omega)) ?_
  refine enterD4 Tryz.func162 rfl Tryz.ntmps162 rfl ?_
  refine TD_seq ?_
  refine TD_region ?_
  (refine RD_alloc rfl rfl ?_; intro br; refine ⟨okF, ?_⟩)
  repeat (refine wXh ?_)
  (repeat refine TD_seq ?_); refine TD_drawnJ 1 [0, 1, 2, 3, 4, 5, 6, 7, 8, 9, 10, 11, 12, 13, 14, 15] [1, 1, 1, 1, 1, 1, 0, 1, 1, 1, 1, 1, 1, 0, 0, 0] mixed (by kernel_rfl) ?_
  repeat (refine wXh ?_)
  (refine RD_callS rfl (QAdd_ok (k := k) (m := m) (by omega) (Hv.xel memF (by omega) (by omega)) (Hv.xel memF (by omega) (by omega))) rfl rfl ?_; rintro _ _ _ ⟨rfl, e, rfl, he, rfl⟩; refine ⟨okF, ?_⟩)
  repeat (refine wXh ?_)
  refine ND_retC (cs := eR e) (.inl rfl) rfl rfl memF rfl M0 (isR e (k + m + 1) :: I0) subF incF ⟨rfl, e, rfl, he, rfl⟩
set_option maxRecDepth 100000 in
theorem Sub1_ok {a b : MX} {p q k m i j : Nat} (hk : k + m + 1 ≤ 100000000) (hi : i < a.rows.length) (hj : j < (gt a.rows (i : Int)).es.length) (hi2 : i < b.rows.length) (hj2 : j < (gt b.rows (i : Int)).es.length)
    (ha : isX a k ∈ I0) (hb : isX b m ∈ I0) (fa : bxX p a ∈ I0) (fb : bxX q b ∈ I0) :
    CD Tryz.prog 164 [.int .i64 (i : Int), .int .i64 (j : Int), pb p, pb q] X w0 M0 I0 (RQ (at2 a.q i j - at2 b.q i j) (k + m + 1) M0 I0) := by
  rw [at2_q hi hj, at2_q hi2 hj2]
  refine CD_hv (φ := slI (a).p (recs eL (a).rows)) (Hv.xsl memF) ?_
  refine CD_hv (φ := slI (gt (a).rows (i : Int)).p (recs eR (gt (a).rows (i : Int)).es)) (Hv.xrsl memF (by omega)) ?_
  refine CD_hv (φ := slI (b).p (recs eL (b).rows)) (Hv.xsl memF) ?_
  refine CD_hv (φ := slI (gt (b).rows (i : Int)).p (recs eR (gt (b).rows (i : Int)).es)) (Hv.xrsl memF (by omega)) ?_
  refine enterD4 Tryz.func164 rfl Tryz.ntmps164 rfl ?_
  refine TD_seq ?_
  refine TD_region ?_
  (refine RD_alloc rfl rfl ?_; intro br; refine ⟨okF, ?_⟩)
  repeat (refine wXh ?_)
  (repeat refine TD_seq ?_); refine TD_drawnJ 1 [0, 1, 2, 3, 4, 5, 6, 7, 8, 9, 10, 11, 12, 13, 14, 15] [1, 1, 1, 1, 1, 1, 0, 1, 1, 1, 1, 1, 1, 0, 0, 0] mixed (by kernel_rfl) ?_
  repeat (refine wXh ?_)
  (refine RD_callS rfl (QSub_ok (k := k) (m := m) (by omega) (Hv.xel memF (by omega) (by omega)) (Hv.xel memF (by omega) (by omega))) rfl rfl ?_; rintro _ _ _ ⟨rfl, e, rfl, he, rfl⟩; refine ⟨okF, ?_⟩)
  repeat (refine wXh ?_)
  refine ND_retC (cs := eR e) (.inl rfl) rfl rfl memF rfl M0 (isR e (k + m + 1) :: I0) subF incF ⟨rfl, e, rfl, he, rfl⟩
set_option maxRecDepth 100000 in
theorem Scale1_ok {a : MX} {κ : RE} {p q k m i j : Nat} (hk : m + k ≤ 100000000) (hi : i < a.rows.length) (hj : j < (gt a.rows (i : Int)).es.length)
    (ha : isX a k ∈ I0) (hb : isR κ m ∈ I0) (fa : bxX p a ∈ I0) (fb : slI (some ⟨q, 0, none⟩) (eR κ) ∈ I0) :
    CD Tryz.prog 169 [.int .i64 (i : Int), .int .i64 (j : Int), pb q, pb p] X w0 M0 I0 (RQ (κ.q * at2 a.q i j) (m + k) M0 I0) := by
  rw [at2_q hi hj]
  refine CD_hv (φ := slI (a).p (recs eL (a).rows)) (Hv.xsl memF) ?_
  refine CD_hv (φ := slI (gt (a).rows (i : Int)).p (recs eR (gt (a).rows (i : Int)).es)) (Hv.xrsl memF (by omega)) ?_
  refine enterD4 Tryz.func169 rfl Tryz.ntmps169 rfl ?_
  refine TD_seq ?_
  refine TD_region ?_
  (refine RD_alloc rfl rfl ?_; intro br; refine ⟨okF, ?_⟩)
  repeat (refine wXh ?_)
  (repeat refine TD_seq ?_); refine TD_drawnJ 1 [0, 1, 2, 3, 4, 5, 6, 7, 8, 9] [0, 1, 1, 1, 1, 1, 1, 0, 0, 0] mixed (by kernel_rfl) ?_
  repeat (refine wXh ?_)
  (refine RD_callS rfl (QMul_ok (k := m) (m := k) (by omega) (Hv.mem memF) (Hv.xel memF (by omega) (by omega))) rfl rfl ?_; rintro _ _ _ ⟨rfl, e, rfl, he, rfl⟩; refine ⟨okF, ?_⟩)
  repeat (refine wXh ?_)
  refine ND_retC (cs := eR e) (.inl rfl) rfl rfl memF rfl M0 (isR e (m + k) :: I0) subF incF ⟨rfl, e, rfl, he, rfl⟩
set_option maxRecDepth 100000 in
theorem turned1_ok {a : MX} {p k i j : Nat} (hi : j < a.rows.length) (hj : i < (gt a.rows (j : Int)).es.length)
    (ha : isX a k ∈ I0) (fa : bxX p a ∈ I0) :
    CD Tryz.prog 219 [.int .i64 (i : Int), .int .i64 (j : Int), pb p] X w0 M0 I0 (RQ (at2 a.q j i) k M0 I0) := by
  rw [at2_q hi hj]
  refine CD_hv (φ := slI (a).p (recs eL (a).rows)) (Hv.xsl memF) ?_
  refine CD_hv (φ := slI (gt (a).rows (j : Int)).p (recs eR (gt (a).rows (j : Int)).es)) (Hv.xrsl memF (by omega)) ?_
  refine enterD3 Tryz.func219 rfl Tryz.ntmps219 rfl ?_
  refine TD_seq ?_
  refine TD_region ?_
  (refine RD_alloc rfl rfl ?_; intro br; refine ⟨okF, ?_⟩)
  repeat (refine wXh ?_)
  refine ND_hv (φ := isR (gt (gt a.rows (j : Int)).es (i : Int)) k) (Hv.xel memF (by omega) (by omega)) ?_
  refine ND_retC (cs := eR (gt (gt a.rows (j : Int)).es (i : Int))) (.inl rfl) rfl rfl memF rfl M0 (isR (gt (gt a.rows (j : Int)).es (i : Int)) k :: I0) subF incF ⟨rfl, _, rfl, rfl, rfl⟩
set_option maxRecDepth 100000 in
theorem copied1_ok {a : MX} {p k i j : Nat} (hi : i < a.rows.length) (hj : j < (gt a.rows (i : Int)).es.length)
    (ha : isX a k ∈ I0) (fa : bxX p a ∈ I0) :
    CD Tryz.prog 217 [.int .i64 (i : Int), .int .i64 (j : Int), pb p] X w0 M0 I0 (RQ (at2 a.q i j) k M0 I0) := by
  rw [at2_q hi hj]
  refine CD_hv (φ := slI (a).p (recs eL (a).rows)) (Hv.xsl memF) ?_
  refine CD_hv (φ := slI (gt (a).rows (i : Int)).p (recs eR (gt (a).rows (i : Int)).es)) (Hv.xrsl memF (by omega)) ?_
  refine enterD3 Tryz.func217 rfl Tryz.ntmps217 rfl ?_
  refine TD_seq ?_
  refine TD_region ?_
  (refine RD_alloc rfl rfl ?_; intro br; refine ⟨okF, ?_⟩)
  repeat (refine wXh ?_)
  refine ND_hv (φ := isR (gt (gt a.rows (i : Int)).es (j : Int)) k) (Hv.xel memF (by omega) (by omega)) ?_
  refine ND_retC (cs := eR (gt (gt a.rows (i : Int)).es (j : Int))) (.inl rfl) rfl rfl memF rfl M0 (isR (gt (gt a.rows (i : Int)).es (j : Int)) k :: I0) subF incF ⟨rfl, _, rfl, rfl, rfl⟩
set_option maxRecDepth 100000 in
theorem beside1_ok {a b : MX} {p q k m i j C : Nat} (hC : (gt a.rows 0).es.length = C) (hR : 1 ≤ a.rows.length) (hi : i < a.rows.length) (hj : (gt a.rows (i : Int)).es.length = C) (hi2 : i < b.rows.length) (hj2 : j < C + (gt b.rows (i : Int)).es.length) (hB : (gt b.rows (i : Int)).es.length ≤ 200) (hk : k ≤ m) (hCC : C ≤ 200)
    (ha : isX a k ∈ I0) (hb : isX b m ∈ I0) (fa : bxX p a ∈ I0) (fb : bxX q b ∈ I0) :
    CD Tryz.prog 222 [.int .i64 (i : Int), .int .i64 (j : Int), pb p, pb q] X w0 M0 I0 (RQ (if j < C then at2 a.q i j else at2 b.q i (j - C)) m M0 I0) := by
  by_cases hjC : j < C
  · rw [if_pos hjC, at2_q hi (by omega)]
    refine CD_hv (φ := slI (a).p (recs eL (a).rows)) (Hv.xsl memF) ?_
    refine CD_hv (φ := slI (gt (a).rows (i : Int)).p (recs eR (gt (a).rows (i : Int)).es)) (Hv.xrsl memF (by omega)) ?_
    refine enterD4 Tryz.func222 rfl Tryz.ntmps222 rfl ?_
    refine TD_seq ?_
    refine TD_region ?_
    (refine RD_alloc rfl rfl ?_; intro br; refine ⟨okF, ?_⟩)
    repeat (refine wXh ?_)
    refine ND_hv (φ := isR (gt (gt a.rows (i : Int)).es (j : Int)) k) (Hv.xel memF (by omega) (by omega)) ?_
    refine ND_hv (φ := isR (gt (gt a.rows (i : Int)).es (j : Int)) m) (Hv.q (k := k) (List.Mem.head _) hk) ?_
    refine ND_retC (cs := eR (gt (gt a.rows (i : Int)).es (j : Int))) (.inl rfl) rfl rfl memF rfl M0 (isR (gt (gt a.rows (i : Int)).es (j : Int)) m :: I0) subF incF ⟨rfl, _, rfl, rfl, rfl⟩
  · obtain ⟨u, rfl⟩ : ∃ u, j = C + u := ⟨j - C, by omega⟩
    rw [if_neg hjC, Nat.add_sub_cancel_left, at2_q hi2 (by omega)]
    have eu : ((C + u : Nat) : Int) - ((gt a.rows 0).es.length : Int) = (u : Int) := by omega
    refine CD_hv (φ := slI (a).p (recs eL (a).rows)) (Hv.xsl memF) ?_
    refine CD_hv (φ := slI (b).p (recs eL (b).rows)) (Hv.xsl memF) ?_
    refine CD_hv (φ := slI (gt (b).rows (i : Int)).p (recs eR (gt (b).rows (i : Int)).es)) (Hv.xrsl memF (by omega)) ?_
    refine enterD4 Tryz.func222 rfl Tryz.ntmps222 rfl ?_
    refine TD_seq ?_
    refine TD_region ?_
    (refine RD_alloc rfl rfl ?_; intro br; refine ⟨okF, ?_⟩)
    repeat (refine wXh ?_)
    (repeat refine TD_seq ?_); refine TD_drawnJ 0 [0, 1, 2, 3, 4, 5, 6, 7, 8, 9, 10, 11, 12] [0, 0, 0, 0, 0, 0, 0, 0, 0, 0, 0, 0, 0] mixed (by kernel_rfl) ?_
    repeat (refine wXh ?_)
    rw [eu]
    repeat (refine wXh ?_)
    refine ND_hv (φ := isR (gt (gt b.rows (i : Int)).es (u : Int)) m) (Hv.xel memF (by omega) (by omega)) ?_
    refine ND_retC (cs := eR (gt (gt b.rows (i : Int)).es (u : Int))) (.inl rfl) rfl rfl memF rfl M0 (isR (gt (gt b.rows (i : Int)).es (u : Int)) m :: I0) subF incF ⟨rfl, _, rfl, rfl, rfl⟩
set_option maxRecDepth 100000 in
theorem Inverse1_ok {a : MX} {p q k i j n : Nat} (hi : i < a.rows.length) (hj : n + j < (gt a.rows (i : Int)).es.length) (hn : n ≤ 100) (hjj : j ≤ 100)
    (ha : isX a k ∈ I0) (fa : bxX p a ∈ I0) (fn : slI (some ⟨q, 0, none⟩) [.int .i64 (n : Int)] ∈ I0) :
    CD Tryz.prog 155 [.int .i64 (i : Int), .int .i64 (j : Int), pb p, pb q] X w0 M0 I0 (RQ (at2 a.q i (n + j)) k M0 I0) := by
  rw [at2_q hi hj]
  have eu : (n : Int) + (j : Int) = ((n + j : Nat) : Int) := by omega
  refine CD_hv (φ := slI (a).p (recs eL (a).rows)) (Hv.xsl memF) ?_
  refine CD_hv (φ := slI (gt (a).rows (i : Int)).p (recs eR (gt (a).rows (i : Int)).es)) (Hv.xrsl memF (by omega)) ?_
  refine enterD4 Tryz.func155 rfl Tryz.ntmps155 rfl ?_
  refine TD_seq ?_
  refine TD_region ?_
  (refine RD_alloc rfl rfl ?_; intro br; refine ⟨okF, ?_⟩)
  repeat (refine wXh ?_)
  (repeat refine TD_seq ?_); refine TD_drawnJ 0 [0, 1, 2, 3, 4, 5, 6, 7, 8, 9] [0, 0, 0, 0, 0, 0, 0, 0, 0, 0] mixed (by kernel_rfl) ?_
  repeat (refine wXh ?_)
  rw [eu]
  repeat (refine wXh ?_)
  refine ND_hv (φ := isR (gt (gt a.rows (i : Int)).es ((n + j : Nat) : Int)) k) (Hv.xel memF (by omega) (by omega)) ?_
  refine ND_retC (cs := eR (gt (gt a.rows (i : Int)).es ((n + j : Nat) : Int))) (.inl rfl) rfl rfl memF rfl M0 (isR (gt (gt a.rows (i : Int)).es ((n + j : Nat) : Int)) k :: I0) subF incF ⟨rfl, _, rfl, rfl, rfl⟩
set_option maxRecDepth 100000 in
set_option maxHeartbeats 1000000 in
theorem dot_ok {a b : RL} {ka kb n : Nat} (hn : n ≤ 200) (hK : n * (ka + kb + 1) ≤ 100000000) (la : a.es.length = n) (lb : b.es.length = n) (ha : isL a ka ∈ I0) (hb : isL b kb ∈ I0) :
    CD Tryz.prog 149 [lv a, lv b] X w0 M0 I0 (RQ (dotQ n a.q b.q) (n * (ka + kb + 1)) M0 I0) := by
  refine CD_hv (φ := slI (a).p (recs eR (a).es)) (Hv.lsl memF) ?_
  refine CD_hv (φ := slI (b).p (recs eR (b).es)) (Hv.lsl memF) ?_
  have hW := fun M0 I0 => Whole_ok (X := X) (w0 := w0) (M0 := M0) (I0 := I0) (x := 0) (by decide) (k := 0) (by decide)
  refine enterD2 Tryz.func149 rfl Tryz.ntmps149 rfl ?_
  refine TD_seq ?_
  refine TD_region ?_
  (refine RD_alloc rfl rfl ?_; intro b4; refine ⟨okF, ?_⟩)
  repeat (refine wXh ?_)
  (refine RD_callS rfl (hW _ _) rfl rfl ?_; rintro _ _ _ ⟨rfl, e0, rfl, he0, rfl⟩; refine ⟨okF, ?_⟩)
  repeat (refine wXh ?_)
  (refine RD_alloc rfl rfl ?_; intro b5; refine ⟨okF, ?_⟩)
  repeat (refine wXh ?_)
  refine TD_loop [1, 4, 5, 9, 10] rfl (fun k G M I => ∃ (t : Nat) (s : RE), t ≤ n ∧ k = n - t ∧ s.q = sm t (fun t => a.q.getD t 0 * b.q.getD t 0) ∧ G = [(11, .int .i64 t)] ∧ M = .blk b5 (eR s) 26 :: .blk b4 [.bool false, .slice none 0 0, .bool false, .slice none 0 0] 26 :: M0 ∧ I = isR s (t * (ka + kb + 1)) :: slI b.p (recs eR b.es) :: slI a.p (recs eR a.es) :: I0) (n) _ _ _ subG subF incF (⟨0, e0, by omega, rfl, he0, rfl, rfl, by rw [Nat.zero_mul]⟩) ?_
  rintro kk G M I ⟨t, s, ht, rfl, hs, rfl, rfl, rfl⟩
  have hu : t * (ka + kb + 1) ≤ 100000000 := Nat.le_trans (Nat.mul_le_mul_right _ ht) hK
  by_cases htn : t < n
  · have hu2 : (t + 1) * (ka + kb + 1) = t * (ka + kb + 1) + (ka + kb) + 1 := by rw [Nat.succ_mul]; omega
    have hK2 : (t + 1) * (ka + kb + 1) ≤ 100000000 := Nat.le_trans (Nat.mul_le_mul_right _ htn) hK
    have hva : Hv (isR s (t * (ka + kb + 1)) :: slI b.p (recs eR b.es) :: slI a.p (recs eR a.es) :: I0) (isR (gt a.es (t : Int)) ka) := Hv.lel memF (by omega)
    have hvb : Hv (isR s (t * (ka + kb + 1)) :: slI b.p (recs eR b.es) :: slI a.p (recs eR a.es) :: I0) (isR (gt b.es (t : Int)) kb) := Hv.lel memF (by omega)
    have hS1 := fun M0 => QSign_ok (X := X) (w0 := w0) (M0 := M0) (e := gt a.es (t : Int)) (k := ka) (by omega) hva
    have hS2 := fun M0 => QSign_ok (X := X) (w0 := w0) (M0 := M0) (e := gt b.es (t : Int)) (k := kb) (by omega) hvb
    have hq : sm (t + 1) (fun t => a.q.getD t 0 * b.q.getD t 0) = s.q + (gt a.es (t : Int)).q * (gt b.es (t : Int)).q := by
      simp only [sm]
      rw [hs, qs_getD (by omega), qs_getD (by omega)]
    generalize t * (ka + kb + 1) = u at *
    by_cases h1 : (gt a.es (t : Int)).q = 0
    · rw [(sign0 _).2 h1] at hS1
      repeat (refine wXh ?_)
      (refine RD_alloc rfl rfl ?_; intro b7; refine ⟨okF, ?_⟩)
      repeat (refine wXh ?_)
      (refine RD_callS rfl (hS1 _) rfl rfl ?_; rintro _ _ _ ⟨rfl, rfl, rfl⟩; refine ⟨okF, ?_⟩)
      repeat (refine wXh ?_)
      refine ND_hv (φ := isR s ((t + 1) * (ka + kb + 1))) (Hv.q (k := u) memF (by omega)) ?_
      refine ND_again (n - (t + 1)) _ _ _ (by first | omega | (simp only [List.length_append, List.length_cons, List.length_nil]; omega)) subG subF incF (⟨t + 1, s, by omega, rfl, by rw [hq, h1]; grind, rfl, rfl, rfl⟩)
    · have hs1 : ¬ (gt a.es (t : Int)).q.num.sign = 0 := fun h => h1 ((sign0 _).1 h)
      generalize (gt a.es (t : Int)).q.num.sign = sg1 at *
      by_cases h2 : (gt b.es (t : Int)).q = 0
      · rw [(sign0 _).2 h2] at hS2
        repeat (refine wXh ?_)
        (refine RD_alloc rfl rfl ?_; intro b7; refine ⟨okF, ?_⟩)
        repeat (refine wXh ?_)
        (refine RD_callS rfl (hS1 _) rfl rfl ?_; rintro _ _ _ ⟨rfl, rfl, rfl⟩; refine ⟨okF, ?_⟩)
        repeat (refine wXh ?_)
        (refine RD_callS rfl (hS2 _) rfl rfl ?_; rintro _ _ _ ⟨rfl, rfl, rfl⟩; refine ⟨okF, ?_⟩)
        repeat (refine wXh ?_)
        refine ND_hv (φ := isR s ((t + 1) * (ka + kb + 1))) (Hv.q (k := u) memF (by omega)) ?_
        refine ND_again (n - (t + 1)) _ _ _ (by first | omega | (simp only [List.length_append, List.length_cons, List.length_nil]; omega)) subG subF incF (⟨t + 1, s, by omega, rfl, by rw [hq, h2]; grind, rfl, rfl, rfl⟩)
      · have hs2 : ¬ (gt b.es (t : Int)).q.num.sign = 0 := fun h => h2 ((sign0 _).1 h)
        generalize (gt b.es (t : Int)).q.num.sign = sg2 at *
        repeat (refine wXh ?_)
        (refine RD_alloc rfl rfl ?_; intro b7; refine ⟨okF, ?_⟩)
        repeat (refine wXh ?_)
        (refine RD_callS rfl (hS1 _) rfl rfl ?_; rintro _ _ _ ⟨rfl, rfl, rfl⟩; refine ⟨okF, ?_⟩)
        repeat (refine wXh ?_)
        (refine RD_callS rfl (hS2 _) rfl rfl ?_; rintro _ _ _ ⟨rfl, rfl, rfl⟩; refine ⟨okF, ?_⟩)
        repeat (refine wXh ?_)
        (repeat refine TD_seq ?_); refine TD_drawnJ 2 [0, 1, 2, 3, 4, 5, 6, 7, 8] [1, 1, 2, 2, 2, 1, 0, 0, 0] mixed (by kernel_rfl) ?_
        repeat (refine wXh ?_)
        (refine RD_callS rfl (QMul_ok (k := ka) (m := kb) (by omega) hva hvb) rfl rfl ?_; rintro _ _ _ ⟨rfl, e2, rfl, he2, rfl⟩; refine ⟨okF, ?_⟩)
        (refine RD_callS rfl (QAdd_ok (k := u) (m := ka + kb) (by omega) (Hv.mem memF) (Hv.mem memF)) rfl rfl ?_; rintro _ _ _ ⟨rfl, e3, rfl, he3, rfl⟩; refine ⟨okF, ?_⟩)
        repeat (refine wXh ?_)
        rw [← hu2]
        refine ND_again (n - (t + 1)) _ _ _ (by first | omega | (simp only [List.length_append, List.length_cons, List.length_nil]; omega)) subG subF incF (⟨t + 1, e3, by omega, rfl, by rw [hq, he3, he2], rfl, rfl, rfl⟩)
  · obtain rfl : t = n := by omega
    repeat (refine wXh ?_)
    refine ND_retC (cs := eR s) (.inl rfl) rfl rfl memF rfl M0 (isR s (t * (ka + kb + 1)) :: I0) subF incF ⟨rfl, s, rfl, hs, rfl⟩
end
end Go.Proofs.YtdmlebigkakplaaGreat
