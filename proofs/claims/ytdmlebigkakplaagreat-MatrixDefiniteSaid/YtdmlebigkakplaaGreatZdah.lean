/- matrix: the functions that the elements are made by; dot. matrix: Add, Sub, Scale, Mul, Transpose, Apply, Identity, of matrices and of what is none. matrix: Mul, Apply, of matrices and of what is none. Elimination of lists of rows is elimination of numbers. The determinant by elimination, one column at a time. -/
import Derived.Test.YtdmlebigkakplaaGreatZdag
import Derived.Test.YtdmlebigkakplaaGreatZdae
import Derived.Test.YtdmlebigkakplaaGreatZdab
import Derived.Test.YtdmlebigkakplaaGreatZdaa
set_option linter.unusedSimpArgs false
set_option linter.unusedVariables false
namespace Go.Proofs.YtdmlebigkakplaaGreat
open Go Go.Fx
abbrev pb (b : Nat) : Value := .pointer (some ⟨b, 0, none⟩)
abbrev bxX (b : Nat) (m : MX) : Imm := slI (some ⟨b, 0, none⟩) [.slice m.p m.rows.length m.c]
/-- the products of two lists, summed -/
def dotQ (n : Nat) (x y : List Rat) : Rat := sm n (fun t => x.getD t 0 * y.getD t 0)
theorem rowAt_q {m : MX} {i : Nat} (hi : i < m.rows.length) : rowAt m.q i = (gt m.rows (i : Int)).q := by
  unfold rowAt
  rw [gt_lt hi]
  simp [List.getD, hi]
section
variable {X : List Nat} {w0 : World} {M0 : List Ent} {I0 : List Imm}
set_option maxRecDepth 100000 in
theorem copied1_ok {a : MX} {p k i j : Nat} (hi : i < a.rows.length) (hj : j < (gt a.rows (i : Int)).es.length)
    (ha : isX a k ∈ I0) (fa : bxX p a ∈ I0) :
    CD Tryz.prog 217 [.int .i64 (i : Int), .int .i64 (j : Int), pb p] X w0 M0 I0 (RQ (at2 a.q i j) k M0 I0) := by
  rw [at2_q hi hj]
  refine CD_hv (φ := slI (a).p (recs eL (a).rows)) (Hv.xsl memF) ?_
  refine CD_hv (φ := slI (gt (a).rows (i : Int)).p (recs eR (gt (a).rows (i : Int)).es)) (Hv.xrsl memF (by omega)) ?_
  refine enterD3 Tryz.func217 rfl Tryz.ntmps217 rfl ?_
  refine TD_seq ?_
  refine TD_region ?_
  (refine RD_alloc rfl rfl ?_; intro br; refine ⟨okF, ?_⟩)
  repeat (refine wXh ?_)
  refine ND_hv (φ := isR (gt (gt a.rows (i : Int)).es (j : Int)) k) (Hv.xel memF (by omega) (by omega)) ?_
  refine ND_retC (cs := eR (gt (gt a.rows (i : Int)).es (j : Int))) (.inl rfl) rfl rfl memF rfl M0 (isR (gt (gt a.rows (i : Int)).es (j : Int)) k :: I0) subF incF ⟨rfl, _, rfl, rfl, rfl⟩
set_option maxRecDepth 100000 in
theorem beside1_ok {a b : MX} {p q k m i j C : Nat} (hC : (gt a.rows 0).es.length = C) (hR : 1 ≤ a.rows.length) (hi : i < a.rows.length) (hj : (gt a.rows (i : Int)).es.length = C) (hi2 : i < b.rows.length) (hj2 : j < C + (gt b.rows (i : Int)).es.length) (hB : (gt b.rows (i : Int)).es.length ≤ 200) (hk : k ≤ m) (hCC : C ≤ 200)
    (ha : isX a k ∈ I0) (hb : isX b m ∈ I0) (fa : bxX p a ∈ I0) (fb : bxX q b ∈ I0) :
    CD Tryz.prog 222 [.int .i64 (i : Int), .int .i64 (j : Int), pb p, pb q] X w0 M0 I0 (RQ (if j < C then at2 a.q i j else at2 b.q i (j - C)) m M0 I0) := by
  by_cases hjC : j < C
  · rw [if_pos hjC, at2_q hi (by omega)]
    refine CD_hv (φ := slI (a).p (recs eL (a).rows)) (Hv.xsl memF) ?_
    refine CD_hv (φ := slI (gt (a).rows (i : Int)).p (recs eR (gt (a).rows (i : Int)).es)) (Hv.xrsl memF (by omega)) ?_
    refine enterD4 Tryz.func222 rfl Tryz.ntmps222 rfl ?_
    refine TD_seq ?_
    refine TD_region ?_
    (refine RD_alloc rfl rfl ?_; intro br; refine ⟨okF, ?_⟩)
    repeat (refine wXh ?_)
    refine ND_hv (φ := isR (gt (gt a.rows (i : Int)).es (j : Int)) k) (Hv.xel memF (by omega) (by omega)) ?_
    refine ND_hv (φ := isR (gt (gt a.rows (i : Int)).es (j : Int)) m) (Hv.q (k := k) (List.Mem.head _) hk) ?_
    refine ND_retC (cs := eR (gt (gt a.rows (i : Int)).es (j : Int))) (.inl rfl) rfl rfl memF rfl M0 (isR (gt (gt a.rows (i : Int)).es (j : Int)) m :: I0) subF incF ⟨rfl, _, rfl, rfl, rfl⟩
  · obtain ⟨u, rfl⟩ : ∃ u, j = C + u := ⟨j - C, by omega⟩
    rw [if_neg hjC, Nat.add_sub_cancel_left, at2_q hi2 (by omega)]
    have eu : ((C + u : Nat) : Int) - ((gt a.rows 0).es.length : Int) = (u : Int) := by omega
    refine CD_hv (φ := slI (a).p (recs eL (a).rows)) (Hv.xsl memF) ?_
    refine CD_hv (φ := slI (b).p (recs eL (b).rows)) (Hv.xsl memF) ?_
    refine CD_hv (φ := slI (gt (b).rows (i : Int)).p (recs eR (gt (b).rows (i : Int)).es)) (Hv.xrsl memF (by omega)) ?_
    refine enterD4 Tryz.func222 rfl Tryz.ntmps222 rfl ?_
    refine TD_seq ?_
    refine TD_region ?_
    (refine RD_alloc rfl rfl ?_; intro br; refine ⟨okF, ?_⟩)
    repeat (refine wXh ?_)
    (repeat refine TD_seq ?_); refine TD_drawnJ 0 [0, 1, 2, 3, 4, 5, 6, 7, 8, 9, 10, 11, 12] [0, 0, 0, 0, 0, 0, 0, 0, 0, 0, 0, 0, 0] mixed (by kernel_rfl) ?_
    repeat (refine wXh ?_)
    rw [eu]
    repeat (refine wXh ?_)
    refine ND_hv (φ := isR (gt (gt b.rows (i : Int)).es (u : Int)) m) (Hv.xel memF (by omega) (by omega)) ?_
    refine ND_retC (cs := eR (gt (gt b.rows (i : Int)).es (u : Int))) (.inl rfl) rfl rfl memF rfl M0 (isR (gt (gt b.rows (i : Int)).es (u : Int)) m :: I0) subF incF ⟨rfl, _, rfl, rfl, rfl⟩
set_option maxRecDepth 100000 in
theorem Inverse1_ok {a : MX} {p q k i j n : Nat} (hi : i < a.rows.length) (hj : n + j < (gt a.rows (i : Int)).es.length) (hn : n ≤ 100) (hjj : j ≤ 100)
    (ha : isX a k ∈ I0) (fa : bxX p a ∈ I0) (fn : slI (some ⟨q, 0, none⟩) [.int .i64 (n : Int)] ∈ I0) :
    CD Tryz.prog 155 [.int .i64 (i : Int), .int .i64 (j : Int), pb p, pb q] X w0 M0 I0 (RQ (at2 a.q i (n + j)) k M0 I0) := by
  rw [at2_q hi hj]
  have eu : (n : Int) + (j : Int) = ((n + j : Nat) : Int) := by omega
  refine CD_hv (φ := slI (a).p (recs eL (a).rows)) (Hv.xsl memF) ?_
  refine CD_hv (φ := slI (gt (a).rows (i : Int)).p (recs eR (gt (a).rows (i : Int)).es)) (Hv.xrsl memF (by omega)) ?_
  refine enterD4 Tryz.func155 rfl Tryz.ntmps155 rfl ?_
  refine TD_seq ?_
  refine TD_region ?_
  (refine RD_alloc rfl rfl ?_; intro br; refine ⟨okF, ?_⟩)
  repeat (refine wXh ?_)
  (repeat refine TD_seq ?_); refine TD_drawnJ 0 [0, 1, 2, 3, 4, 5, 6, 7, 8, 9] [0, 0, 0, 0, 0, 0, 0, 0, 0, 0] mixed (by kernel_rfl) ?_
  repeat (refine wXh ?_)
  rw [eu]
  repeat (refine wXh ?_)
  refine ND_hv (φ := isR (gt (gt a.rows (i : Int)).es ((n + j : Nat) : Int)) k) (Hv.xel memF (by omega) (by omega)) ?_
  refine ND_retC (cs := eR (gt (gt a.rows (i : Int)).es ((n + j : Nat) : Int))) (.inl rfl) rfl rfl memF rfl M0 (isR (gt (gt a.rows (i : Int)).es ((n + j : Nat) : Int)) k :: I0) subF incF ⟨rfl, _, rfl, rfl, rfl⟩
set_option maxRecDepth 100000 in
set_option maxHeartbeats 1000000 in
theorem dot_ok {a b : RL} {ka kb n : Nat} (hn : n ≤ 200) (hK : n * (ka + kb + 1) ≤ 100000000) (la : a.es.length = n) (lb : b.es.length = n) (ha : isL a ka ∈ I0) (hb : isL b kb ∈ I0) :
    CD Tryz.prog 149 [lv a, lv b] X w0 M0 I0 (RQ (dotQ n a.q b.q) (n * (ka + kb + 1)) M0 I0) := by
  refine CD_hv (φ := slI (a).p (recs eR (a).es)) (Hv.lsl memF) ?_
  refine CD_hv (φ := slI (b).p (recs eR (b).es)) (Hv.lsl memF) ?_
  have hW := fun M0 I0 => Whole_ok (X := X) (w0 := w0) (M0 := M0) (I0 := I0) (x := 0) (by decide) (k := 0) (by decide)
  refine enterD2 Tryz.func149 rfl Tryz.ntmps149 rfl ?_
  refine TD_seq ?_
  refine TD_region ?_
  (refine RD_alloc rfl rfl ?_; intro b4; refine ⟨okF, ?_⟩)
  repeat (refine wXh ?_)
  (refine RD_callS rfl (hW _ _) rfl rfl ?_; rintro _ _ _ ⟨rfl, e0, rfl, he0, rfl⟩; refine ⟨okF, ?_⟩)
  repeat (refine wXh ?_)
  (refine RD_alloc rfl rfl ?_; intro b5; refine ⟨okF, ?_⟩)
  repeat (refine wXh ?_)
  refine TD_loop [1, 4, 5, 9, 10] rfl (fun k G M I => ∃ (t : Nat) (s : RE), t ≤ n ∧ k = n - t ∧ s.q = sm t (fun t => a.q.getD t 0 * b.q.getD t 0) ∧ G = [(11, .int .i64 t)] ∧ M = .blk b5 (eR s) 26 :: .blk b4 [.bool false, .slice none 0 0, .bool false, .slice none 0 0] 26 :: M0 ∧ I = isR s (t * (ka + kb + 1)) :: slI b.p (recs eR b.es) :: slI a.p (recs eR a.es) :: I0) (n) _ _ _ subG subF incF (⟨0, e0, by omega, rfl, he0, rfl, rfl, by rw [Nat.zero_mul]⟩) ?_
  rintro kk G M I ⟨t, s, ht, rfl, hs, rfl, rfl, rfl⟩
  have hu : t * (ka + kb + 1) ≤ 100000000 := Nat.le_trans (Nat.mul_le_mul_right _ ht) hK
  by_cases htn : t < n
  · have hu2 : (t + 1) * (ka + kb + 1) = t * (ka + kb + 1) + (ka + kb) + 1 := by rw [Nat.succ_mul]; omega
    have hK2 : (t + 1) * (ka + kb + 1) ≤ 100000000 := Nat.le_trans (Nat.mul_le_mul_right _ htn) hK
    have hva : Hv (isR s (t * (ka + kb + 1)) :: slI b.p (recs eR b.es) :: slI a.p (recs eR a.es) :: I0) (isR (gt a.es (t : Int)) ka) := Hv.lel memF (by omega)
    have hvb : Hv (isR s (t * (ka + kb + 1)) :: slI b.p (recs eR b.es) :: slI a.p (recs eR a.es) :: I0) (isR (gt b.es (t : Int)) kb) := Hv.lel memF (by omega)
    have hS1 := fun M0 => QSign_ok (X := X) (w0 := w0) (M0 := M0) (e := gt a.es (t : Int)) (k := ka) (by omega) hva
    have hS2 := fun M0 => QSign_ok (X := X) (w0 := w0) (M0 := M0) (e := gt b.es (t : Int)) (k := kb) (by omega) hvb
    have hq : sm (t + 1) (fun t => a.q.getD t 0 * b.q.getD t 0) = s.q + (gt a.es (t : Int)).q * (gt b.es (t : Int)).q := by
      simp only [sm]
      rw [hs, qs_getD (by omega), qs_getD (by omega)]
    generalize t * (ka + kb + 1) = u at *
    by_cases h1 : (gt a.es (t : Int)).q = 0
    · rw [(sign0 _).2 h1] at hS1
      repeat (refine wXh ?_)
      (refine RD_alloc rfl rfl ?_; intro b7; refine ⟨okF, ?_⟩)
      repeat (refine wXh ?_)
      (refine RD_callS rfl (hS1 _) rfl rfl ?_; rintro _ _ _ ⟨rfl, rfl, rfl⟩; refine ⟨okF, ?_⟩)
      repeat (refine wXh ?_)
      refine ND_hv (φ := isR s ((t + 1) * (ka + kb + 1))) (Hv.q (k := u) memF (by omega)) ?_
      refine ND_again (n - (t + 1)) _ _ _ (by first | omega | (simp only [List.length_append, List.length_cons, List.length_nil]; omega)) subG subF incF (⟨t + 1, s, by omega, rfl, by rw [hq, h1]; grind, rfl, rfl, rfl⟩)
    · have hs1 : ¬ (gt a.es (t : Int)).q.num.sign = 0 := fun h => h1 ((sign0 _).1 h)
      generalize (gt a.es (t : Int)).q.num.sign = sg1 at *
      by_cases h2 : (gt b.es (t : Int)).q = 0
      · rw [(sign0 _).2 h2] at hS2
        repeat (refine wXh ?_)
        (refine RD_alloc rfl rfl ?_; intro b7; refine ⟨okF, ?_⟩)
        repeat (refine wXh ?_)
        (refine RD_callS rfl (hS1 _) rfl rfl ?_; rintro _ _ _ ⟨rfl, rfl, rfl⟩; refine ⟨okF, ?_⟩)
        repeat (refine wXh ?_)
        (refine RD_callS rfl (hS2 _) rfl rfl ?_; rintro _ _ _ ⟨rfl, rfl, rfl⟩; refine ⟨okF, ?_⟩)
        repeat (refine wXh ?_)
        refine ND_hv (φ := isR s ((t + 1) * (ka + kb + 1))) (Hv.q (k := u) memF (by omega)) ?_
        refine ND_again (n - (t + 1)) _ _ _ (by first | omega | (simp only [List.length_append, List.length_cons, List.length_nil]; omega)) subG subF incF (⟨t + 1, s, by omega, rfl, by rw [hq, h2]; grind, rfl, rfl, rfl⟩)
      · have hs2 : ¬ (gt b.es (t : Int)).q.num.sign = 0 := fun h => h2 ((sign0 _).1 h)
        generalize (gt b.es (t : Int)).q.num.sign = sg2 at *
        repeat (refine wXh ?_)
        (refine RD_alloc rfl rfl ?_; intro b7; refine ⟨okF, ?_⟩)
        repeat (refine wXh ?_)
        (refine RD_callS rfl (hS1 _) rfl rfl ?_; rintro _ _ _ ⟨rfl, rfl, rfl⟩; refine ⟨okF, ?_⟩)
        repeat (refine wXh ?_)
        (refine RD_callS rfl (hS2 _) rfl rfl ?_; rintro _ _ _ ⟨rfl, rfl, rfl⟩; refine ⟨okF, ?_⟩)
        repeat (refine wXh ?_)
        (repeat refine TD_seq ?_); refine TD_drawnJ 2 [0, 1, 2, 3, 4, 5, 6, 7, 8] [1, 1, 2, 2, 2, 1, 0, 0, 0] mixed (by kernel_rfl) ?_
        repeat (refine wXh ?_)
        (refine RD_callS rfl (QMul_ok (k := ka) (m := kb) (by omega) hva hvb) rfl rfl ?_; rintro _ _ _ ⟨rfl, e2, rfl, he2, rfl⟩; refine ⟨okF, ?_⟩)
        (refine RD_callS rfl (QAdd_ok (k := u) (m := ka + kb) (by omega) (Hv.mem memF) (Hv.mem memF)) rfl rfl ?_; rintro _ _ _ ⟨rfl, e3, rfl, he3, rfl⟩; refine ⟨okF, ?_⟩)
        repeat (refine wXh ?_)
        rw [← hu2]
        refine ND_again (n - (t + 1)) _ _ _ (by first | omega | (simp only [List.length_append, List.length_cons, List.length_nil]; omega)) subG subF incF (⟨t + 1, e3, by omega, rfl, by rw [hq, he3, he2], rfl, rfl, rfl⟩)
  · obtain rfl : t = n := by omega
    repeat (refine wXh ?_)
    refine ND_retC (cs := eR s) (.inl rfl) rfl rfl memF rfl M0 (isR s (t * (ka + kb + 1)) :: I0) subF incF ⟨rfl, s, rfl, hs, rfl⟩
end
end Go.Proofs.YtdmlebigkakplaaGreat
namespace Go.Proofs.YtdmlebigkakplaaGreat
open Go Go.Fx
theorem dlt_int {i j : Nat} : dlt i j = if (i : Int) = (j : Int) then (1 : Rat) else 0 := by
  unfold dlt
  by_cases e : i = j
  · rw [if_pos e, if_pos (by omega)]
  · rw [if_neg e, if_neg (by omega)]
theorem SubP_dropA {M M' : List Ent} (h : SubP M M') : ∀ {xs : List Ent}, SubP (xs ++ M) M'
  | [] => h
  | _ :: _ => .drop (SubP_dropA h)
def MX.fit (m : MX) (R C : Nat) : Prop := m.dim R C ∧ (1 ≤ R ∧ R ≤ 64) ∧ (1 ≤ C ∧ C ≤ 64)
theorem MX.fit.r0 {m : MX} {R C : Nat} (h : m.fit R C) : (gt m.rows 0).es.length = C := by
  have := h.1.row (i := 0) (by have := h.2.1; omega)
  exact this
theorem MX.fit.ok {m : MX} {R C : Nat} (h : m.fit R C) : m.raw.ok := dim_ok h.1 h.2.1 h.2.2
theorem MX.raw_rows (m : MX) : m.raw.rows.length = m.rows.length := by show (m.rows.map RL.raw).length = _; rw [List.length_map]
theorem MX.raw_c0 {m : MX} {R C : Nat} (h : m.fit R C) : (gt m.raw.rows 0).es.length = C := by
  have e : m.raw.rows = m.rows.map RL.raw := rfl
  rw [e, gt_map (by have := h.1.1; have := h.2.1; omega)]
  show ((gt m.rows 0).es.map RE.raw).length = C
  rw [List.length_map]; exact h.r0
section
variable {P : Program} {f : FuncId} {vs : List Value} {X : List Nat} {w0 : World} {M : List Ent} {I : List Imm}
theorem xCD_fact {K : Value → List Ent → List Imm → Prop} {φ : Prop} (h : ∀ w, Mem X w0 M I w → φ) (k : φ → CD P f vs X w0 M I K) : CD P f vs X w0 M I K := ⟨fun w hw => (k (h w hw)).go w hw⟩
theorem CD_hvV {K : Value → Prop} {φ : Imm} [Fx.Good φ] (h : Hv I φ) (c : CD P f vs X w0 M (φ :: I) (fun v M' I' => M = M' ∧ φ :: I = I' ∧ K v)) : CD P f vs X w0 M I (fun v M' I' => M = M' ∧ I = I' ∧ K v) :=
  ⟨fun w hw => (c.go w (Mem.hv h hw)).mono (fun _ _ ⟨M', I', ⟨e1, e2, hk⟩, h2⟩ => by subst e1; subst e2; exact ⟨M, I, ⟨rfl, rfl, hk⟩, h2.inc (.of fun φ hφ => List.Mem.tail _ hφ)⟩)⟩
theorem Mem.xsml {w : World} {m : MX} {R C k : Nat} (hm : isX m k ∈ I) (hd : m.fit R C) (hk : k ≤ 20000000) (hw : Mem X w0 M I w) : m.raw.sml := by
  have h : IsX m k (muts M) w := (hw.imm _ hm).2
  refine ⟨by rw [m.raw_rows, hd.1.1]; have := hd.2.1; omega, fun r hr => ?_⟩
  obtain ⟨s, hs, rfl⟩ := List.mem_map.1 hr
  refine ⟨by show (s.es.map RE.raw).length ≤ _; rw [List.length_map, hd.1.2 s hs]; have := hd.2.2; omega, fun e he => ?_⟩
  obtain ⟨x, hx, rfl⟩ := List.mem_map.1 he
  exact IsR.sml hk ((h.row s hs).el x hx)
theorem Mem.lsml {w : World} {r : RL} {k : Nat} (hm : isL r k ∈ I) (hl : r.es.length ≤ 1000000) (hk : k ≤ 20000000) (hw : Mem X w0 M I w) : r.raw.sml := by
  have h : IsL r k (muts M) w := (hw.imm _ hm).2
  refine ⟨by show (r.es.map RE.raw).length ≤ _; rw [List.length_map]; exact hl, fun e he => ?_⟩
  obtain ⟨x, hx, rfl⟩ := List.mem_map.1 he
  exact IsR.sml hk (h.el x hx)
end
section
variable {X : List Nat} {w0 : World} {M0 : List Ent} {I0 : List Imm}
theorem canonicalX_ok {a : RL} {k : Nat} (hk : k ≤ 20000000) (hl : a.es.length ≤ 1000000) (ha : isL a k ∈ I0) : CD Tryz.prog 160 [lv a] X w0 M0 I0 (fun v M I => M0 = M ∧ I0 = I ∧ v = .bool true) := by
  refine xCD_fact (fun w hw => Mem.lsml ha hl hk hw) (fun sa => ?_)
  refine CD_hvV (φ := isWL a.raw) (Hv.lraw ha hk) ?_
  have := mcanonical_ok (X := X) (w0 := w0) (M0 := M0) (I0 := isWL a.raw :: I0) (r := a.raw) sa (List.Mem.head _)
  rw [B_true a.raw_good, lv_raw] at this
  exact this
set_option maxRecDepth 100000 in
theorem xcopied_ok {a : MX} {R C k : Nat} (da : a.fit R C) (ha : isX a k ∈ I0) : CD Tryz.prog 138 [mv a] X w0 M0 I0 (MkP R C (at2 a.q) k M0 I0) := by
  have lR := da.1.1
  have lC := da.r0
  obtain ⟨r1, r2⟩ := da.2.1
  obtain ⟨c1, c2⟩ := da.2.2
  refine CD_hv (φ := slI (a).p (recs eL (a).rows)) (Hv.xsl memF) ?_
  refine enterD1 Tryz.func138 rfl Tryz.ntmps138 rfl ?_
  refine TD_seq ?_
  refine TD_region ?_
  (refine RD_boxL rfl rfl rfl ?_; intro p1; refine ⟨okF, ?_⟩)
  repeat (refine wXh ?_)
  (repeat refine TD_seq ?_); refine TD_drawn [0, 1, 2, 3, 4, 5, 6, 7, 8] [1, 0, 1, 1, 1, 0, 0, 0, 0] mixed (by kernel_rfl) ?_
  repeat (refine wXh ?_)
  have hg := fun M I (hI : ∀ φ ∈ slI (some ⟨p1, 0, none⟩) [.slice a.p a.rows.length a.c] :: slI a.p (recs eL a.rows) :: I0, φ ∈ I) (i j : Nat) (hi : i < a.rows.length) (hj : j < (gt a.rows 0).es.length) => copied1_ok (X := X) (w0 := w0) (M0 := M) (I0 := I) (a := a) (p := p1) (k := k) (i := i) (j := j) (by omega) (by rw [da.1.row (by omega)]; omega) (hI _ memF) (hI _ memF)
  (refine RD_callS rfl (mmade_ok (R := a.rows.length) (C := (gt a.rows 0).es.length) (g := 217) (fs := #[]) (cs := #[pb p1]) (k0 := k) (by omega) (by omega) (at2 a.q) hg) rfl rfl ?_; rintro _ _ _ ⟨bo, rows, rfl, h1, h2, h3, rfl, rfl⟩; refine ⟨OkD.any (SubP.drop (SubP_dropA SubP.refl)) incF, ?_⟩)
  rw [lR] at h1
  rw [lC] at h2
  rw [lR, lC] at h3
  have e1 : (a.rows.length : Int) = R := by omega
  repeat (refine wXh ?_)
  refine ND_ret1 (by first | exact .inl rfl | exact .inr rfl) rfl rfl _ _ subF incF (⟨bo, rows, by rw [lR], h1, h2, h3, rfl, rfl⟩)
set_option maxRecDepth 100000 in
theorem beside_ok {a b : MX} {R C D k : Nat} (da : a.fit R C) (db : b.fit R D) (ha : isX a k ∈ I0) (hb : isX b k ∈ I0) : CD Tryz.prog 152 [mv a, mv b] X w0 M0 I0 (MkP R (C + D) (fun i j => if j < C then at2 a.q i j else at2 b.q i (j - C)) k M0 I0) := by
  have lR := da.1.1
  have lR2 := db.1.1
  have lC := da.r0
  have lD := db.r0
  obtain ⟨r1, r2⟩ := da.2.1
  obtain ⟨c1, c2⟩ := da.2.2
  obtain ⟨d1, d2⟩ := db.2.2
  refine CD_hv (φ := slI (a).p (recs eL (a).rows)) (Hv.xsl memF) ?_
  refine CD_hv (φ := slI (b).p (recs eL (b).rows)) (Hv.xsl memF) ?_
  refine enterD2 Tryz.func152 rfl Tryz.ntmps152 rfl ?_
  refine TD_seq ?_
  refine TD_region ?_
  (refine RD_boxL rfl rfl rfl ?_; intro p1; refine ⟨okF, ?_⟩)
  (refine RD_boxL rfl rfl rfl ?_; intro p2; refine ⟨okF, ?_⟩)
  repeat (refine wXh ?_)
  (repeat refine TD_seq ?_); refine TD_drawn [0, 1, 2, 3, 4, 5, 6, 7, 8, 9, 10, 11, 12, 13] [1, 0, 1, 1, 1, 1, 1, 1, 1, 1, 0, 0, 0, 0] mixed (by kernel_rfl) ?_
  repeat (refine wXh ?_)
  rw [show ((gt a.rows 0).es.length : Int) + ((gt b.rows 0).es.length : Int) = (((gt a.rows 0).es.length + (gt b.rows 0).es.length : Nat) : Int) by omega]
  have hg := fun M I (hI : ∀ φ ∈ slI (some ⟨p2, 0, none⟩) [.slice b.p b.rows.length b.c] :: slI (some ⟨p1, 0, none⟩) [.slice a.p a.rows.length a.c] :: slI b.p (recs eL b.rows) :: slI a.p (recs eL a.rows) :: I0, φ ∈ I) (i j : Nat) (hi : i < a.rows.length) (hj : j < (gt a.rows 0).es.length + (gt b.rows 0).es.length) => beside1_ok (X := X) (w0 := w0) (M0 := M) (I0 := I) (a := a) (b := b) (p := p1) (q := p2) (k := k) (m := k) (i := i) (j := j) (C := C) lC (by omega) (by omega) (da.1.row (by omega)) (by omega) (by rw [db.1.row (by omega)]; omega) (by rw [db.1.row (by omega)]; omega) (Nat.le_refl _) (by omega) (hI _ memF) (hI _ memF) (hI _ memF) (hI _ memF)
  (refine RD_callS rfl (mmade_ok (R := a.rows.length) (C := (gt a.rows 0).es.length + (gt b.rows 0).es.length) (g := 222) (fs := #[]) (cs := #[pb p1, pb p2]) (k0 := k) (by omega) (by omega) (fun i j => if j < C then at2 a.q i j else at2 b.q i (j - C)) hg) rfl rfl ?_; rintro _ _ _ ⟨bo, rows, rfl, h1, h2, h3, rfl, rfl⟩; refine ⟨OkD.any (SubP.drop (SubP_dropA SubP.refl)) incF, ?_⟩)
  rw [lR] at h1
  rw [lC, lD] at h2
  rw [lR, lC, lD] at h3
  repeat (refine wXh ?_)
  refine ND_ret1 (by first | exact .inl rfl | exact .inr rfl) rfl rfl _ _ subF incF (⟨bo, rows, by rw [lR], h1, h2, h3, rfl, rfl⟩)
end
end Go.Proofs.YtdmlebigkakplaaGreat
namespace Go.Proofs.YtdmlebigkakplaaGreat
open Go Go.Fx
def mulC (a b : WM) : Int := if a.ok ∧ b.ok then (if (gt a.rows 0).es.length = b.rows.length then 0 else 4) else 1
def listC (a : WM) (x : WL) (n : Nat) : Int := if a.ok then (if x.good then (if x.es.length = n then 0 else 4) else 1) else 1
section
variable {X : List Nat} {w0 : World} {M0 : List Ent} {I0 : List Imm}
set_option maxRecDepth 100000 in
set_option maxHeartbeats 1000000 in
theorem applied_ok {a : MX} {x : RL} {R C k m : Nat} (hk : k ≤ 1000000) (hm : m ≤ 500000) (hR : R ≤ 100) (hCC : C ≤ 64) (da : a.dim R C) (hl : x.es.length = C) (ha : isX a k ∈ I0) (hx : isL x m ∈ I0) :
    CD Tryz.prog 175 [mv a, lv x] X w0 M0 I0 (LQ ((List.range R).map (fun i => sm C (fun t => at2 a.q i t * x.q.getD t 0))) (C * (k + m + 1)) M0 I0) := by
  have lR := da.1
  have hKK : C * (k + m + 1) ≤ 100000000 := Nat.le_trans (Nat.mul_le_mul hCC (show k + m + 1 ≤ 1500001 by omega)) (by decide)
  generalize hKe : C * (k + m + 1) = K at *
  refine CD_hv (φ := slI (a).p (recs eL (a).rows)) (Hv.xsl memF) ?_
  refine enterD2 Tryz.func175 rfl Tryz.ntmps175 rfl ?_
  repeat (refine wXh ?_)
  refine TD_row0 26 4 ?_
  refine TD_hv (φ := allR [] K) Hv.nilR ?_
  refine TD_loop [1, 8, 9] rfl (fun k G M I => ∃ (i : Nat) (es : List RE) (q : Option Addr) (c : Nat), i ≤ R ∧ k = R - i ∧ es.length = i ∧ qs es = (List.range i).map (fun i => sm C (fun t => at2 a.q i t * x.q.getD t 0)) ∧ G = [(5, .slice q es.length c), (10, .int .i64 i)] ∧ M = .row q es.length c (recs eR es) 26 4 :: M0 ∧ I = allR es K :: slI a.p (recs eL a.rows) :: I0) (R) _ _ _ subG subF incF (⟨0, [], none, 0, by omega, rfl, rfl, rfl, rfl, rfl, rfl⟩) ?_
  rintro kk G M I ⟨i, es, q, c, hi, rfl, hel, heq, rfl, rfl, rfl⟩
  by_cases hiR : i < R
  · refine TD_hv (φ := isL (gt (a).rows (i : Int)) k) (Hv.xrow memF (by omega)) ?_
    repeat (refine wXh ?_)
    (refine RD_callS rfl (dot_ok (ka := k) (kb := m) (n := C) (by omega) (by omega) (da.row hiR) hl memF memF) rfl rfl ?_; rintro _ _ _ ⟨rfl, e, rfl, he, rfl⟩; refine ⟨okF, ?_⟩)
    (refine RD_vals (cs := recs eR [e]) ([rv e]) rfl rfl (by intro v hv; repeat (first | exact absurd hv (List.not_mem_nil) | (rcases List.mem_cons.1 hv with rfl | hv; · rfl))) (by omega) rfl rfl rfl ?_; intro b; refine ⟨okF, ?_⟩)
    (refine RD_appR (ys := [e]) 1 rfl rfl rfl ?_ (by decide) rfl (by omega) (by omega) rfl rfl ?_; (· first | exact Src.blk memF | exact Src.row memF | exact Src.imm memF (by first | assumption | exact .inl (Ok.mk _ _))); intro q2 c2; refine ⟨okF, ?_⟩)
    rw [hKe]
    repeat (refine wXh ?_)
    refine ND_hv (φ := allR (es ++ [e]) K) (Hv.snoc memF memF) ?_
    refine ND_again (R - (i + 1)) _ _ _ (by first | omega | (simp only [List.length_append, List.length_cons, List.length_nil]; omega)) subG subF incF (⟨i + 1, es ++ [e], q2, c2, by omega, rfl, by simp; omega, ?_, rfl, rfl, rfl⟩)
    rw [List.range_succ, List.map_append, ← heq]
    have e1 : sm C (fun t => at2 a.q i t * x.q.getD t 0) = dotQ C (gt a.rows (i : Int)).q x.q := by rw [← rowAt_q (by omega)]; rfl
    show (es ++ [e]).map RE.q = qs es ++ [sm C (fun t => at2 a.q i t * x.q.getD t 0)]
    rw [List.map_append, e1, ← he]
    rfl
  · obtain rfl : i = R := by omega
    repeat (refine wXh ?_)
    refine ND_toL memF ?_
    refine ND_ret1 (by first | exact .inl rfl | exact .inr rfl) rfl rfl _ _ subF incF (⟨rfl, ⟨q, c, es⟩, rfl, heq, rfl⟩)
end
end Go.Proofs.YtdmlebigkakplaaGreat
namespace Go.Proofs.YtdmlebigkakplaaGreat
open Go Go.Fx
def dimL (A : Mt) (R C : Nat) : Prop := A.length = R ∧ ∀ i, i < R → (rowAt A i).length = C
theorem rowAt_set {A : Mt} {i a : Nat} {l : List Rat} (hi : i < A.length) : rowAt (A.set i l) a = if a = i then l else rowAt A a := by
  unfold rowAt
  simp only [List.getD, List.getElem?_set]
  by_cases e : a = i
  · subst e; simp [hi]
  · have e' : ¬ i = a := fun h => e h.symm
    simp [e, e']
theorem rowAt_map {A : Mt} {a : Nat} {f : Nat → List Rat → List Rat} (h : a < A.length) : rowAt (A.mapIdx f) a = f a (rowAt A a) := by
  simp [rowAt, List.getD, h]
theorem rowAt_swp {A : Mt} {R C r k a : Nat} (h : dimL A R C) (hr : r < R) (hk : k < R) : rowAt (swp A r k) a = rowAt A (tr r k a) := by
  unfold swp
  rw [rowAt_set (by rw [List.length_set, h.1]; exact hk), rowAt_set (by rw [h.1]; exact hr)]
  simp only [tr]
  by_cases e1 : a = k
  · subst e1
    rw [if_pos rfl]
    by_cases e2 : a = r
    · rw [if_pos e2, e2]
    · rw [if_neg e2, if_pos rfl]
  · rw [if_neg e1, if_neg e1]
    by_cases e2 : a = r
    · rw [if_pos e2, if_pos e2]
    · rw [if_neg e2, if_neg e2]
theorem dim_swp {A : Mt} {R C r k : Nat} (h : dimL A R C) (hr : r < R) (hk : k < R) : dimL (swp A r k) R C :=
  ⟨by unfold swp; rw [List.length_set, List.length_set]; exact h.1, fun i hi => by rw [rowAt_swp h hr hk]; exact h.2 _ (tr_lt hr hk hi)⟩
theorem getD_mapIdx {l : List Rat} {f : Nat → Rat → Rat} {c : Nat} (h : c < l.length) : (l.mapIdx f).getD c 0 = f c (l.getD c 0) := by
  simp [List.getD, h]
theorem rowAt_elim {B : Mt} {r j a : Nat} {pr : List Rat} (h : a < B.length) : rowAt (elimAll B r j pr) a = if a = r then rowAt B a else if (rowAt B a).getD j 0 = 0 then rowAt B a else subFrom j ((rowAt B a).getD j 0) pr (rowAt B a) := by
  unfold elimAll
  rw [rowAt_map h]
theorem dim_step {A : Mt} {R C r j x : Nat} (h : dimL A R C) (hr : r < R) (hx : x < R) : dimL (stepE A r j x) R C := by
  have hs := dim_swp (r := r) (k := x) h hr hx
  unfold stepE
  refine ⟨by unfold elimAll; rw [List.length_mapIdx, List.length_set]; exact hs.1, fun i hi => ?_⟩
  have hb : rowAt ((swp A r x).set r (scaleFrom j (1 / at2 (swp A r x) r j) (rowAt (swp A r x) r))) i = if i = r then scaleFrom j (1 / at2 (swp A r x) r j) (rowAt (swp A r x) r) else rowAt (swp A r x) i := rowAt_set (by rw [hs.1]; exact hr)
  rw [rowAt_elim (by rw [List.length_set, hs.1]; exact hi), hb]
  by_cases e : i = r
  · rw [if_pos e, if_pos e]; simp only [scaleFrom, List.length_mapIdx]; exact hs.2 r hr
  · rw [if_neg e, if_neg e]
    split
    · exact hs.2 i hi
    · simp only [subFrom, List.length_mapIdx]; exact hs.2 i hi
theorem at2_step {A : Mt} {R C r j x : Nat} (h : dimL A R C) (hr : r < R) (hx : x < R) (hj : j < C) (hz : ∀ b, b < j → at2 A x b = 0) : ∀ a b, a < R → b < C →
    at2 (stepE A r j x) a b = elm r x (1 / at2 A x j) (fun a => at2 A (tr r x a) j) (at2 A) a b := by
  intro a b ha hb
  have hs := dim_swp (r := r) (k := x) h hr hx
  have hat : ∀ i c, at2 (swp A r x) i c = at2 A (tr r x i) c := fun i c => by unfold at2; rw [rowAt_swp h hr hx]
  have htr : tr r x r = x := by simp [tr]
  have hrow : (rowAt (swp A r x) r) = rowAt A x := by rw [rowAt_swp h hr hx, htr]
  have hκ : at2 (swp A r x) r j = at2 A x j := by rw [hat, htr]
  obtain ⟨κ, hk⟩ : ∃ κ, κ = 1 / at2 A x j := ⟨_, rfl⟩
  rw [← hk]
  have hpr : ∀ c, c < C → (scaleFrom j κ (rowAt A x)).getD c 0 = κ * at2 A x c := fun c hc => by
    unfold scaleFrom
    rw [getD_mapIdx (by rw [h.2 x hx]; exact hc)]
    by_cases e : c < j
    · rw [if_pos e]
      have := hz c e
      rw [this]
      unfold at2 at this
      rw [this]; grind
    · rw [if_neg e]; rfl
  have e1 : at2 (stepE A r j x) a b = (rowAt (stepE A r j x) a).getD b 0 := rfl
  rw [e1]
  unfold stepE
  rw [hκ, hrow, ← hk]
  have hbb : rowAt ((swp A r x).set r (scaleFrom j κ (rowAt A x))) a = if a = r then scaleFrom j κ (rowAt A x) else rowAt (swp A r x) a := rowAt_set (by rw [hs.1]; exact hr)
  rw [rowAt_elim (by rw [List.length_set, hs.1]; exact ha), hbb]
  simp only [elm, htr]
  by_cases e : a = r
  · rw [if_pos e, if_pos e, if_pos e]; exact hpr b hb
  · rw [if_neg e, if_neg e, if_neg e, rowAt_swp h hr hx]
    have hc : (rowAt A (tr r x a)).getD j 0 = at2 A (tr r x a) j := rfl
    rw [hc]
    by_cases e0 : at2 A (tr r x a) j = 0
    · rw [if_pos e0, e0]
      show at2 A (tr r x a) b = _
      grind
    · rw [if_neg e0]
      unfold subFrom
      rw [getD_mapIdx (by rw [h.2 _ (tr_lt hr hx ha)]; exact hb)]
      show (if b < j then at2 A (tr r x a) b else at2 A (tr r x a) b - _) = _
      by_cases ej : b < j
      · rw [if_pos ej, hz b ej]; grind
      · rw [if_neg ej, hpr b hb]
theorem findP_zero {A : Mt} {j : Nat} : ∀ (f k : Nat), k + f = A.length → ∀ i, k ≤ i → i < findP A j f k → at2 A i j = 0
  | 0, k, _, i, h1, h2 => by simp [findP] at h2; omega
  | f + 1, k, h, i, h1, h2 => by
    unfold findP at h2
    by_cases hc : k < A.length ∧ at2 A k j = 0
    · rw [if_pos hc] at h2
      by_cases e : i = k
      · subst e; exact hc.2
      · exact findP_zero f (k + 1) (by omega) i (by omega) h2
    · rw [if_neg hc] at h2; omega
theorem redN_red {A : Mt} {R C : Nat} (h : dimL A R C) : ∀ n, n ≤ C → dimL (redN A n).1 R C ∧ ∃ s, Red R C n (at2 A) (at2 (redN A n).1) (redN A n).2 s
  | 0, _ => ⟨h, 1, Red.start⟩
  | n + 1, hn => by
    obtain ⟨hd, s, hr⟩ := redN_red h n (by omega)
    rw [redN_succ]
    generalize redN A n = st at hd hr
    obtain ⟨B, pv⟩ := st
    simp only at hd hr
    have hlen := hr.len
    obtain ⟨f1, f2, f3⟩ := findP_lt (A := B) (j := n) (B.length - pv.length) pv.length (by rw [hd.1]; omega)
    have f4 := findP_zero (A := B) (j := n) (B.length - pv.length) pv.length (by rw [hd.1]; omega)
    unfold redS
    simp only
    generalize findP B n (B.length - pv.length) pv.length = x at f1 f2 f3 f4
    by_cases hx : x < B.length
    · rw [if_pos hx]
      rw [hd.1] at hx
      refine ⟨dim_step hd (by omega) hx, _, hr.step (x := x) (by omega) f1 hx (f3 (by rw [hd.1]; exact hx)) (at2_step hd (by omega) hx (by omega) (fun b hb => hr.zero x b f1 hx hb))⟩
    · rw [if_neg hx]
      exact ⟨hd, s, hr.none (fun i h1 h2 => f4 i h1 (by rw [hd.1] at hx; omega))⟩
end Go.Proofs.YtdmlebigkakplaaGreat
namespace Go.Proofs.YtdmlebigkakplaaGreat
open Go Go.Fx
/-- one column: rows exchanged, the pivot's row subtracted from those below -/
def dstep (A : Mt) (j x : Nat) : Mt := (swp A j x).mapIdx (fun i row => if i ≤ j then row else if row.getD j 0 = 0 then row else subFrom j (row.getD j 0 / at2 (swp A j x) j j) (rowAt (swp A j x) j) row)
def blkF (A : Mt) (j : Nat) : Nat → Nat → Rat := fun i k => at2 A (i + j) (k + j)
theorem rowAt_dstep {A : Mt} {R C j x a : Nat} (h : dimL A R C) (hj : j < R) (hx : x < R) (ha : a < R) : rowAt (dstep A j x) a = if a ≤ j then rowAt A (tr j x a) else if at2 A (tr j x a) j = 0 then rowAt A (tr j x a) else subFrom j (at2 A (tr j x a) j / at2 A x j) (rowAt A x) (rowAt A (tr j x a)) := by
  have hs := dim_swp (r := j) (k := x) h hj hx
  have hr : ∀ i, rowAt (swp A j x) i = rowAt A (tr j x i) := fun i => rowAt_swp h hj hx
  have htr : tr j x j = x := by simp [tr]
  have hat : at2 (swp A j x) j j = at2 A x j := by unfold at2; rw [hr, htr]
  have e1 : rowAt (dstep A j x) a = if a ≤ j then rowAt (swp A j x) a else if (rowAt (swp A j x) a).getD j 0 = 0 then rowAt (swp A j x) a else subFrom j ((rowAt (swp A j x) a).getD j 0 / at2 (swp A j x) j j) (rowAt (swp A j x) j) (rowAt (swp A j x) a) := by
    have hl : a < (swp A j x).length := by rw [hs.1]; exact ha
    unfold dstep
    rw [rowAt_map hl]
  rw [e1, hat, hr, hr, htr]
  rfl
theorem at2_dstep {A : Mt} {R C j x a b : Nat} (h : dimL A R C) (hj : j < R) (hx : x < R) (ha : a < R) (hb : b < C) (haj : j < a) (hbj : j ≤ b) : at2 (dstep A j x) a b = at2 A (tr j x a) b - at2 A (tr j x a) j / at2 A x j * at2 A x b := by
  have e : at2 (dstep A j x) a b = (rowAt (dstep A j x) a).getD b 0 := rfl
  rw [e, rowAt_dstep h hj hx ha, if_neg (by omega)]
  by_cases e0 : at2 A (tr j x a) j = 0
  · rw [if_pos e0, e0]
    show at2 A (tr j x a) b = _
    grind
  · rw [if_neg e0]
    unfold subFrom
    rw [getD_mapIdx (by rw [h.2 _ (tr_lt hj hx ha)]; exact hb), if_neg (by omega)]
    rfl
theorem dstep_dt {A : Mt} {n j x : Nat} (h : dimL A n n) (hj : j < n) (hjx : j ≤ x) (hx : x < n) (h0 : at2 A x j ≠ 0) :
    dt (n - j) (blkF A j) = esg j x * at2 A x j * dt (n - (j + 1)) (blkF (dstep A j x) (j + 1)) := by
  obtain ⟨m, hm⟩ : ∃ m, n - j = m + 1 := ⟨n - j - 1, by omega⟩
  have hm2 : n - (j + 1) = m := by omega
  rw [hm, hm2]
  -- exchanged
  have h1 : dt (m + 1) (fun a b => blkF A j (tr 0 (x - j) a) b) = esg j x * dt (m + 1) (blkF A j) := by
    unfold esg
    by_cases e : j = x
    · subst e
      rw [if_pos rfl, Nat.sub_self, show (fun a b => blkF A j (tr 0 0 a) b) = blkF A j by funext a b; simp only [tr]; split <;> simp_all]; grind
    · rw [if_neg e, dt_swap (by omega) (by omega) (by omega)]; grind
  obtain ⟨g, hg⟩ : ∃ g : Nat → Nat → Rat, g = fun a b => blkF A j (tr 0 (x - j) a) b := ⟨_, rfl⟩
  rw [← hg] at h1
  have htr : ∀ a, tr 0 (x - j) a + j = tr j x (a + j) := fun a => by
    by_cases e1 : a = 0
    · have : tr 0 (x - j) a = x - j := by simp [tr, e1]
      have h2 : tr j x (a + j) = x := by simp [tr, e1]
      omega
    · by_cases e2 : a = x - j
      · have : tr 0 (x - j) a = 0 := by simp [tr, e1, e2]
        have h2 : tr j x (a + j) = j := by simp [tr, e1, show a + j = x by omega]
        omega
      · have : tr 0 (x - j) a = a := by simp [tr, e1, e2]
        have h2 : tr j x (a + j) = a + j := by simp [tr, e1, show ¬ a + j = x by omega]
        omega
  have hgv : ∀ a b, g a b = at2 A (tr j x (a + j)) (b + j) := fun a b => by rw [hg]; show at2 A (tr 0 (x - j) a + j) (b + j) = _; rw [htr]
  have htj : tr j x (0 + j) = x := by simp [tr]
  have hg0 : ∀ b, g 0 b = at2 A x (b + j) := fun b => by rw [hgv, htj]
  have h2 := dt_elim (n := m + 1) (r := 0) (f := g) (c := fun a => g a 0 / g 0 0) (by omega)
  have hg00 : g 0 0 ≠ 0 := by rw [hg0, Nat.zero_add]; exact h0
  have h3 : dt (m + 1) (fun a b => if a = 0 then g 0 b else g a b - g a 0 / g 0 0 * g 0 b) = g 0 0 * dt m (blkF (dstep A j x) (j + 1)) := by
    rw [dt_first (fun i hi _ => by
      rw [if_neg (by omega)]
      have : g i 0 / g 0 0 * g 0 0 = g i 0 := by grind
      grind)]
    rw [if_pos rfl]
    congr 1
    apply dt_congr
    intro a b ha hb
    rw [if_neg (by omega)]
    show _ = at2 (dstep A j x) (a + (j + 1)) (b + (j + 1))
    rw [at2_dstep h hj hx (by omega) (by omega) (by omega) (by omega), hg0, hg0, hgv, hgv, Nat.zero_add]
    rw [show a + 1 + j = a + (j + 1) by omega, show b + 1 + j = b + (j + 1) by omega]
  have hs : esg j x * esg j x = 1 := by unfold esg; split <;> grind
  have h4 : dt (m + 1) (blkF A j) = esg j x * dt (m + 1) g := by rw [h1]; grind
  rw [h4, ← h2, h3, hg0, Nat.zero_add]; grind
theorem blk_none {A : Mt} {n j : Nat} (hj : j < n) (h : ∀ i, j ≤ i → i < n → at2 A i j = 0) : dt (n - j) (blkF A j) = 0 := by
  obtain ⟨m, hm⟩ : ∃ m, n - j = m + 1 := ⟨n - j - 1, by omega⟩
  rw [hm]
  exact dt_col0 (fun i hi => by show at2 A (i + j) (0 + j) = 0; rw [Nat.zero_add]; exact h _ (by omega) (by omega))
theorem blk_all {A : Mt} {n : Nat} : dt (n - 0) (blkF A 0) = dt n (at2 A) := rfl
end Go.Proofs.YtdmlebigkakplaaGreat
