/- fiducialref02: Add, Sub, Mul, Divide, Compare, Same -/
import Derived.Test.YteghpnkhlfkigaaGreatZrsbf
import Derived.Test.YteghpnkhlfkigaaGreatZrsaw
set_option linter.unusedSimpArgs false
set_option linter.unusedVariables false
namespace Go.Proofs.YteghpnkhlfkigaaGreat
open Go Go.Fx
theorem divInt_sign {n d : Int} (hd : 0 < d) : (Rat.divInt n d).num.sign = n.sign := by
  obtain ⟨m, hm, h1, h2, h3, h4⟩ := divInt_factor (n := n) (d := d) (by omega)
  have hm0 : 0 < m := by
    rcases Int.lt_trichotomy m 0 with h | h | h
    · have := h4.1 h; omega
    · exact absurd h hm
    · exact h
  have : n.sign = ((Rat.divInt n d).num * m).sign := congrArg Int.sign h1
  rw [this, Int.sign_mul, Int.sign_eq_one_of_pos hm0, Int.mul_one]
theorem sub_sign (p q : Rat) : (p - q).num.sign = cmpR p q := by
  rw [Rat.sub_eq_add_neg, add_divInt, divInt_sign (by rw [Rat.neg_den]; exact Int.mul_pos (den_pos p) (den_pos q)), Rat.neg_num, Rat.neg_den, Int.neg_mul, ← Int.sub_eq_add_neg, cmp_sub]
  rfl
section
variable {X : List Nat} {w0 : World} {M0 : List Ent} {I0 : List Imm}
set_option maxRecDepth 100000 in
set_option maxHeartbeats 1000000 in
theorem rQAdd_ok {a b : RE} {k m : Nat} (hk : k + m + 1 ≤ 100000000) (ha : Hv I0 (isR a k)) (hb : Hv I0 (isR b m)) :
    CD Tryz.prog 134 [rv a, rv b] X w0 M0 I0 (RQ (a.q + b.q) (k + m + 1) M0 I0) := by
  have hM1 := fun u v M0 I0 => rMul_ok (X := X) (w0 := w0) (M0 := M0) (I0 := I0) (u := u) (v := v) (y := a.q.num) (z := b.q.den) (k0 := k) (m0 := m) (by omega)
  have hM2 := fun u v M0 I0 => rMul_ok (X := X) (w0 := w0) (M0 := M0) (I0 := I0) (u := u) (v := v) (y := b.q.num) (z := a.q.den) (k0 := m) (m0 := k) (by omega)
  have hM3 := fun u v M0 I0 => rMul_ok (X := X) (w0 := w0) (M0 := M0) (I0 := I0) (u := u) (v := v) (y := a.q.den) (z := b.q.den) (k0 := k) (m0 := m) (by omega)
  have hA := fun u v M0 I0 => rAdd_ok (X := X) (w0 := w0) (M0 := M0) (I0 := I0) (u := u) (v := v) (y := a.q.num * b.q.den) (z := b.q.num * a.q.den) (k := k + m) (m := m + k) (c := k + m + 1) (by omega) (by omega) (by omega) (pow_dbl k m)
  have hR := fun u v M0 I0 => rreduced_ok (X := X) (w0 := w0) (M0 := M0) (I0 := I0) (u := u) (v := v) (n := a.q.num * b.q.den + b.q.num * a.q.den) (d := a.q.den * b.q.den) (k := k + m + 1) (by omega) (den_mul_ne _ _)
  rw [← add_divInt] at hR
  refine enterD2 Tryz.func134 rfl Tryz.ntmps134 rfl ?_
  refine TD_seq ?_
  refine TD_region ?_
  (refine RD_boxA rfl rfl rfl ?_; intro b1; refine ⟨okF, ?_⟩)
  (refine RD_boxA rfl rfl rfl ?_; intro b2; refine ⟨okF, ?_⟩)
  (refine RD_alloc rfl rfl ?_; intro b3; refine ⟨okF, ?_⟩)
  repeat (first | (refine isR' ?_; refine wfR ?_) | (refine isT' ?_; refine wfT ?_) | (refine isN' ?_; refine wfN ?_))
  (refine RD_callS rfl (rQValue_ok (k := k) (by omega) ha) rfl rfl ?_; rintro _ _ _ ⟨rfl, rfl, rfl⟩; refine ⟨okF, ?_⟩)
  (refine RD_alloc rfl rfl ?_; intro b4; refine ⟨okF, ?_⟩)
  repeat (first | (refine isR' ?_; refine wfR ?_) | (refine isT' ?_; refine wfT ?_) | (refine isN' ?_; refine wfN ?_))
  (refine RD_callS rfl (rQValue_ok (k := m) (by omega) hb) rfl rfl ?_; rintro _ _ _ ⟨rfl, rfl, rfl⟩; refine ⟨okF, ?_⟩)
  (refine RD_alloc rfl rfl ?_; intro b5; refine ⟨okF, ?_⟩)
  refine RD_openR (e := a) (k := k) ha ?_
  refine RD_openR (e := b) (k := m) hb.cons.cons ?_
  repeat (first | (refine isR' ?_; refine wfR ?_) | (refine isT' ?_; refine wfT ?_) | (refine isN' ?_; refine wfN ?_))
  (repeat refine TD_seq ?_); refine TD_drawnW (.blk b5 (eR b) 26 :: .blk b4 (eR a) 26 :: M0) (I0) [0, 1, 2, 3, 5, 6, 7, 8, 11, 12, 13, 14, 4, 9, 10, 15, 16, 17] [5, 4, 5, 4, 5, 4, 5, 4, 5, 4, 5, 4, 0, 0, 0, 0, 0, 0] subF incF mixed (by kernel_rfl) ?_
  repeat (first | (refine isR' ?_; refine wfR ?_) | (refine isT' ?_; refine wfT ?_) | (refine isN' ?_; refine wfN ?_))
  (refine RD_callS rfl (hM1 _ _ _ _ memF memF) rfl rfl ?_; rintro _ _ _ ⟨rfl, rfl⟩; refine ⟨okF, ?_⟩)
  (refine RD_callS rfl (hM2 _ _ _ _ memF memF) rfl rfl ?_; rintro _ _ _ ⟨rfl, rfl⟩; refine ⟨okF, ?_⟩)
  (refine RD_callS rfl (hA _ _ _ _ memF memF) rfl rfl ?_; rintro _ _ _ ⟨rfl, rfl⟩; refine ⟨okF, ?_⟩)
  (refine RD_callS rfl (hM3 _ _ _ _ memF memF) rfl rfl ?_; rintro _ _ _ ⟨rfl, rfl⟩; refine ⟨okF, ?_⟩)
  refine RD_monoI (k2 := k + m + 1) (List.Mem.head _) (by omega) ?_
  (refine RD_callS rfl (hR _ _ _ _ memF memF) rfl rfl ?_; rintro _ _ _ ⟨rfl, e, rfl, he, rfl⟩; refine ⟨okF, ?_⟩)
  repeat (first | (refine isR' ?_; refine wfR ?_) | (refine isT' ?_; refine wfT ?_) | (refine isN' ?_; refine wfN ?_))
  refine ND_retC (cs := eR e) (.inl rfl) rfl rfl memF rfl M0 (isR e (k + m + 1) :: I0) subF incF ⟨rfl, e, rfl, he, rfl⟩
set_option maxRecDepth 100000 in
set_option maxHeartbeats 1000000 in
theorem rQMul_ok {a b : RE} {k m : Nat} (hk : k + m ≤ 100000000) (ha : Hv I0 (isR a k)) (hb : Hv I0 (isR b m)) :
    CD Tryz.prog 37 [rv a, rv b] X w0 M0 I0 (RQ (a.q * b.q) (k + m) M0 I0) := by
  have hM1 := fun u v M0 I0 => rMul_ok (X := X) (w0 := w0) (M0 := M0) (I0 := I0) (u := u) (v := v) (y := a.q.num) (z := b.q.num) (k0 := k) (m0 := m) (by omega)
  have hM3 := fun u v M0 I0 => rMul_ok (X := X) (w0 := w0) (M0 := M0) (I0 := I0) (u := u) (v := v) (y := a.q.den) (z := b.q.den) (k0 := k) (m0 := m) (by omega)
  have hR := fun u v M0 I0 => rreduced_ok (X := X) (w0 := w0) (M0 := M0) (I0 := I0) (u := u) (v := v) (n := a.q.num * b.q.num) (d := a.q.den * b.q.den) (k := k + m) (by omega) (den_mul_ne _ _)
  rw [← mul_divInt] at hR
  refine enterD2 Tryz.func37 rfl Tryz.ntmps37 rfl ?_
  refine TD_seq ?_
  refine TD_region ?_
  (refine RD_boxA rfl rfl rfl ?_; intro b1; refine ⟨okF, ?_⟩)
  (refine RD_boxA rfl rfl rfl ?_; intro b2; refine ⟨okF, ?_⟩)
  (refine RD_alloc rfl rfl ?_; intro b3; refine ⟨okF, ?_⟩)
  repeat (first | (refine isR' ?_; refine wfR ?_) | (refine isT' ?_; refine wfT ?_) | (refine isN' ?_; refine wfN ?_))
  (refine RD_callS rfl (rQValue_ok (k := k) (by omega) ha) rfl rfl ?_; rintro _ _ _ ⟨rfl, rfl, rfl⟩; refine ⟨okF, ?_⟩)
  (refine RD_alloc rfl rfl ?_; intro b4; refine ⟨okF, ?_⟩)
  repeat (first | (refine isR' ?_; refine wfR ?_) | (refine isT' ?_; refine wfT ?_) | (refine isN' ?_; refine wfN ?_))
  (refine RD_callS rfl (rQValue_ok (k := m) (by omega) hb) rfl rfl ?_; rintro _ _ _ ⟨rfl, rfl, rfl⟩; refine ⟨okF, ?_⟩)
  (refine RD_alloc rfl rfl ?_; intro b5; refine ⟨okF, ?_⟩)
  refine RD_openR (e := a) (k := k) ha ?_
  refine RD_openR (e := b) (k := m) hb.cons.cons ?_
  repeat (first | (refine isR' ?_; refine wfR ?_) | (refine isT' ?_; refine wfT ?_) | (refine isN' ?_; refine wfN ?_))
  (repeat refine TD_seq ?_); refine TD_drawnW (.blk b5 (eR b) 26 :: .blk b4 (eR a) 26 :: M0) (I0) [0, 1, 2, 3, 5, 6, 7, 8, 4, 9, 10, 11] [3, 2, 3, 2, 3, 2, 3, 2, 0, 0, 0, 0] subF incF mixed (by kernel_rfl) ?_
  repeat (first | (refine isR' ?_; refine wfR ?_) | (refine isT' ?_; refine wfT ?_) | (refine isN' ?_; refine wfN ?_))
  (refine RD_callS rfl (hM1 _ _ _ _ memF memF) rfl rfl ?_; rintro _ _ _ ⟨rfl, rfl⟩; refine ⟨okF, ?_⟩)
  (refine RD_callS rfl (hM3 _ _ _ _ memF memF) rfl rfl ?_; rintro _ _ _ ⟨rfl, rfl⟩; refine ⟨okF, ?_⟩)
  (refine RD_callS rfl (hR _ _ _ _ memF memF) rfl rfl ?_; rintro _ _ _ ⟨rfl, e, rfl, he, rfl⟩; refine ⟨okF, ?_⟩)
  repeat (first | (refine isR' ?_; refine wfR ?_) | (refine isT' ?_; refine wfT ?_) | (refine isN' ?_; refine wfN ?_))
  refine ND_retC (cs := eR e) (.inl rfl) rfl rfl memF rfl M0 (isR e (k + m) :: I0) subF incF ⟨rfl, e, rfl, he, rfl⟩
set_option maxRecDepth 100000 in
theorem rQSub_ok {a b : RE} {k m : Nat} (hk : k + m + 1 ≤ 100000000) (ha : Hv I0 (isR a k)) (hb : Hv I0 (isR b m)) :
    CD Tryz.prog 183 [rv a, rv b] X w0 M0 I0 (RQ (a.q - b.q) (k + m + 1) M0 I0) := by
  refine enterD2 Tryz.func183 rfl Tryz.ntmps183 rfl ?_
  refine TD_seq ?_
  refine TD_region ?_
  (refine RD_boxA rfl rfl rfl ?_; intro b1; refine ⟨okF, ?_⟩)
  (refine RD_boxA rfl rfl rfl ?_; intro b2; refine ⟨okF, ?_⟩)
  (refine RD_alloc rfl rfl ?_; intro b3; refine ⟨okF, ?_⟩)
  repeat (first | (refine isR' ?_; refine wfR ?_) | (refine isT' ?_; refine wfT ?_) | (refine isN' ?_; refine wfN ?_))
  (repeat refine TD_seq ?_); refine TD_drawnJ 1 [0, 1, 2, 3, 4] [1, 1, 0, 0, 0] mixed (by kernel_rfl) ?_
  repeat (first | (refine isR' ?_; refine wfR ?_) | (refine isT' ?_; refine wfT ?_) | (refine isN' ?_; refine wfN ?_))
  (refine RD_callS rfl (rQNeg_ok (k := m) (by omega) hb) rfl rfl ?_; rintro _ _ _ ⟨rfl, y, rfl, hy, rfl⟩; refine ⟨okF, ?_⟩)
  rw [Rat.sub_eq_add_neg, ← hy]
  (refine RD_callS rfl (rQAdd_ok hk ha.cons (Hv.mem (List.Mem.head _))) rfl rfl ?_; rintro _ _ _ ⟨rfl, e, rfl, he, rfl⟩; refine ⟨okF, ?_⟩)
  repeat (first | (refine isR' ?_; refine wfR ?_) | (refine isT' ?_; refine wfT ?_) | (refine isN' ?_; refine wfN ?_))
  refine ND_retC (cs := eR e) (.inl rfl) rfl rfl memF rfl M0 (isR e (k + m + 1) :: I0) subF incF ⟨rfl, e, rfl, he, rfl⟩
set_option maxRecDepth 100000 in
theorem rNew_ok {u v : Value} {n d : Int} {k : Nat} (hk : k ≤ 500000000) (hd0 : d ≠ 0) (hu : isI u n k ∈ I0) (hv : isI v d k ∈ I0) :
    CD Tryz.prog 232 [u, v] X w0 M0 I0 (RQc (Rat.divInt n d) k M0 I0) := by
  have hs0 : ¬ d.sign = 0 := fun h => hd0 (Int.sign_eq_zero_iff_zero.1 h)
  have hS := fun M0 I0 => rSign_ok (X := X) (w0 := w0) (M0 := M0) (I0 := I0) (u := v) (z := d) (k := k) (by omega)
  have hR := fun M0 I0 => rreduced_ok (X := X) (w0 := w0) (M0 := M0) (I0 := I0) (u := u) (v := v) (n := n) (d := d) (k := k) (by omega) hd0
  generalize d.sign = sd at *
  refine CD.post (K := fun v M I => ∃ q q', RQc (Rat.divInt n d) k M0 (slI q' (recs eG (gr d.natAbs)) :: slI q (recs eG (gr n.natAbs)) :: I0) v M I) (CD_openI hu (fun q cq e hc hy => ?_)) (fun v M I w h hw => ?_)
  case refine_2 =>
    obtain ⟨q, q', e1, e2, h2, h3, h4⟩ := h
    subst e1; subst h4
    exact ⟨_, _, ⟨rfl, e2, h2, h3, rfl⟩, hw.inc (Inc.cons (List.Mem.head _) (Inc.wk (Inc.wk (Inc.wk Inc.refl))))⟩
  subst e
  refine CD_openI (List.Mem.tail _ hv) (fun q' cq' e hc' hz => ?_)
  subst e
  unfold iv at *
  refine enterD2 Tryz.func232 rfl Tryz.ntmps232 rfl ?_
  refine TD_seq ?_
  refine TD_region ?_
  (refine RD_boxA rfl rfl rfl ?_; intro b1; refine ⟨okF, ?_⟩)
  (refine RD_boxA rfl rfl rfl ?_; intro b2; refine ⟨okF, ?_⟩)
  (refine RD_alloc rfl rfl ?_; intro b3; refine ⟨okF, ?_⟩)
  repeat (first | (refine isR' ?_; refine wfR ?_) | (refine isT' ?_; refine wfT ?_) | (refine isN' ?_; refine wfN ?_))
  (refine RD_callS rfl (hS _ _ memF) rfl rfl ?_; rintro _ _ _ ⟨rfl, rfl, rfl⟩; refine ⟨okF, ?_⟩)
  repeat (first | (refine isR' ?_; refine wfR ?_) | (refine isT' ?_; refine wfT ?_) | (refine isN' ?_; refine wfN ?_))
  (refine RD_callS rfl (hR _ _ memF memF) rfl rfl ?_; rintro _ _ _ ⟨rfl, e, rfl, he, rfl⟩; refine ⟨okF, ?_⟩)
  repeat (first | (refine isR' ?_; refine wfR ?_) | (refine isT' ?_; refine wfT ?_) | (refine isN' ?_; refine wfN ?_))
  refine ND_retsC (rs := [.cell 4 26, .tmp 5]) (vs := [rv e, .int .i64 0]) (.inl rfl) rfl (.cellN (cs := eR e) inferInstance rfl memF rfl (.tmp rfl .nil)) rfl M0 (isR e k :: slI q' (recs eG (gr d.natAbs)) :: slI q (recs eG (gr n.natAbs)) :: I0) subF incF ⟨q, q', rfl, e, rfl, he, rfl⟩
set_option maxRecDepth 100000 in
set_option maxHeartbeats 1000000 in
theorem rQDivide_ok {a b : RE} {k m : Nat} (hk : k + m ≤ 100000000) (hb0 : b.q ≠ 0) (ha : Hv I0 (isR a k)) (hb : Hv I0 (isR b m)) :
    CD Tryz.prog 182 [rv a, rv b] X w0 M0 I0 (RQc (a.q / b.q) (k + m) M0 I0) := by
  have hM1 := fun u v M0 I0 => rMul_ok (X := X) (w0 := w0) (M0 := M0) (I0 := I0) (u := u) (v := v) (y := a.q.num) (z := b.q.den) (k0 := k) (m0 := m) (by omega)
  have hM3 := fun u v M0 I0 => rMul_ok (X := X) (w0 := w0) (M0 := M0) (I0 := I0) (u := u) (v := v) (y := a.q.den) (z := b.q.num) (k0 := k) (m0 := m) (by omega)
  have hR := fun u v M0 I0 => rNew_ok (X := X) (w0 := w0) (M0 := M0) (I0 := I0) (u := u) (v := v) (n := a.q.num * b.q.den) (d := a.q.den * b.q.num) (k := k + m) (by omega) (den_num_ne hb0)
  rw [← div_divInt] at hR
  refine enterD2 Tryz.func182 rfl Tryz.ntmps182 rfl ?_
  refine TD_seq ?_
  refine TD_region ?_
  (refine RD_boxA rfl rfl rfl ?_; intro b1; refine ⟨okF, ?_⟩)
  (refine RD_boxA rfl rfl rfl ?_; intro b2; refine ⟨okF, ?_⟩)
  (refine RD_alloc rfl rfl ?_; intro b3; refine ⟨okF, ?_⟩)
  repeat (first | (refine isR' ?_; refine wfR ?_) | (refine isT' ?_; refine wfT ?_) | (refine isN' ?_; refine wfN ?_))
  (refine RD_callS rfl (rQValue_ok (k := k) (by omega) ha) rfl rfl ?_; rintro _ _ _ ⟨rfl, rfl, rfl⟩; refine ⟨okF, ?_⟩)
  (refine RD_alloc rfl rfl ?_; intro b4; refine ⟨okF, ?_⟩)
  repeat (first | (refine isR' ?_; refine wfR ?_) | (refine isT' ?_; refine wfT ?_) | (refine isN' ?_; refine wfN ?_))
  (refine RD_callS rfl (rQValue_ok (k := m) (by omega) hb) rfl rfl ?_; rintro _ _ _ ⟨rfl, rfl, rfl⟩; refine ⟨okF, ?_⟩)
  (refine RD_alloc rfl rfl ?_; intro b5; refine ⟨okF, ?_⟩)
  refine RD_openR (e := a) (k := k) ha ?_
  refine RD_openR (e := b) (k := m) hb.cons.cons ?_
  repeat (first | (refine isR' ?_; refine wfR ?_) | (refine isT' ?_; refine wfT ?_) | (refine isN' ?_; refine wfN ?_))
  (repeat refine TD_seq ?_); refine TD_drawnW (.blk b5 (eR b) 26 :: .blk b4 (eR a) 26 :: M0) (I0) [0, 1, 2, 3, 5, 6, 7, 8, 4, 9, 10, 11, 12, 13, 14] [3, 2, 3, 2, 3, 2, 3, 2, 0, 0, 0, 0, 0, 0, 0] subF incF mixed (by kernel_rfl) ?_
  repeat (first | (refine isR' ?_; refine wfR ?_) | (refine isT' ?_; refine wfT ?_) | (refine isN' ?_; refine wfN ?_))
  (refine RD_callS rfl (hM1 _ _ _ _ memF memF) rfl rfl ?_; rintro _ _ _ ⟨rfl, rfl⟩; refine ⟨okF, ?_⟩)
  (refine RD_callS rfl (hM3 _ _ _ _ memF memF) rfl rfl ?_; rintro _ _ _ ⟨rfl, rfl⟩; refine ⟨okF, ?_⟩)
  (refine RD_callS rfl (hR _ _ _ _ memF memF) rfl rfl ?_; rintro _ _ _ ⟨rfl, e, rfl, he, rfl⟩; refine ⟨okF, ?_⟩)
  repeat (first | (refine isR' ?_; refine wfR ?_) | (refine isT' ?_; refine wfT ?_) | (refine isN' ?_; refine wfN ?_))
  refine ND_retsC (rs := [.cell 4 26, .tmp 5]) (vs := [rv e, .int .i64 0]) (.inl rfl) rfl (.cellN (cs := eR e) inferInstance rfl memF rfl (.tmp rfl .nil)) rfl M0 (isR e (k + m) :: I0) subF incF ⟨rfl, e, rfl, he, rfl⟩
set_option maxRecDepth 100000 in
theorem rQCompare_ok {a b : RE} {k m : Nat} (hk : k + m + 1 ≤ 100000000) (ha : Hv I0 (isR a k)) (hb : Hv I0 (isR b m)) :
    CD Tryz.prog 72 [rv a, rv b] X w0 M0 I0 (fun v M I => M0 = M ∧ I0 = I ∧ v = .int .i64 (cmpR a.q b.q)) := by
  refine enterD2 Tryz.func72 rfl Tryz.ntmps72 rfl ?_
  refine TD_seq ?_
  refine TD_region ?_
  (refine RD_boxA rfl rfl rfl ?_; intro b1; refine ⟨okF, ?_⟩)
  (refine RD_boxA rfl rfl rfl ?_; intro b2; refine ⟨okF, ?_⟩)
  repeat (first | (refine isR' ?_; refine wfR ?_) | (refine isT' ?_; refine wfT ?_) | (refine isN' ?_; refine wfN ?_))
  (refine RD_callS rfl (rQSub_ok hk ha hb) rfl rfl ?_; rintro _ _ _ ⟨rfl, e, rfl, he, rfl⟩; refine ⟨okF, ?_⟩)
  (refine RD_callS rfl (rQSign_ok (k := k + m + 1) (by omega) (Hv.mem (List.Mem.head _))) rfl rfl ?_; rintro _ _ _ ⟨rfl, rfl, rfl⟩; refine ⟨okF, ?_⟩)
  repeat (first | (refine isR' ?_; refine wfR ?_) | (refine isT' ?_; refine wfT ?_) | (refine isN' ?_; refine wfN ?_))
  refine ND_ret1 (by first | exact .inl rfl | exact .inr rfl) rfl rfl _ _ subF incF (⟨rfl, rfl, by rw [he, sub_sign]⟩)
set_option maxRecDepth 100000 in
theorem rSame_ok {a b : RE} {k m : Nat} (hk : k + m + 1 ≤ 100000000) (ha : Hv I0 (isR a k)) (hb : Hv I0 (isR b m)) :
    CD Tryz.prog 21 [rv a, rv b] X w0 M0 I0 (fun v M I => M0 = M ∧ I0 = I ∧ v = .bool (B (a.q = b.q))) := by
  refine enterD2 Tryz.func21 rfl Tryz.ntmps21 rfl ?_
  refine TD_seq ?_
  refine TD_region ?_
  (refine RD_boxA rfl rfl rfl ?_; intro b1; refine ⟨okF, ?_⟩)
  (refine RD_boxA rfl rfl rfl ?_; intro b2; refine ⟨okF, ?_⟩)
  repeat (first | (refine isR' ?_; refine wfR ?_) | (refine isT' ?_; refine wfT ?_) | (refine isN' ?_; refine wfN ?_))
  (refine RD_callS rfl (rValid_okR (k := k) (by omega) ha) rfl rfl ?_; rintro _ _ _ ⟨rfl, rfl, rfl⟩; refine ⟨okF, ?_⟩)
  repeat (first | (refine isR' ?_; refine wfR ?_) | (refine isT' ?_; refine wfT ?_) | (refine isN' ?_; refine wfN ?_))
  (refine RD_callS rfl (rValid_okR (k := m) (by omega) hb) rfl rfl ?_; rintro _ _ _ ⟨rfl, rfl, rfl⟩; refine ⟨okF, ?_⟩)
  repeat (first | (refine isR' ?_; refine wfR ?_) | (refine isT' ?_; refine wfT ?_) | (refine isN' ?_; refine wfN ?_))
  (refine RD_callS rfl (rQCompare_ok hk ha hb) rfl rfl ?_; rintro _ _ _ ⟨rfl, rfl, rfl⟩; refine ⟨okF, ?_⟩)
  repeat (first | (refine isR' ?_; refine wfR ?_) | (refine isT' ?_; refine wfT ?_) | (refine isN' ?_; refine wfN ?_))
  refine ND_ret1 (by first | exact .inl rfl | exact .inr rfl) rfl rfl _ _ subF incF (⟨rfl, rfl, congrArg Value.bool (B_congr cmpR_eq)⟩)
end
end Go.Proofs.YteghpnkhlfkigaaGreat
