/- fraction: Add, Sub, Mul, Divide, Compare fiducialref01: magnitudes: group, made, plus, minus, scaled, shifted, size -/
import Derived.Test.YtdmlebigkakplaaGreatZmaw
import Derived.Test.YtdmlebigkakplaaGreatZmau
import Derived.Test.YtdmlebigkakplaaGreatZmam
import Derived.Test.YtdmlebigkakplaaGreatZmai
import Derived.Test.YtdmlebigkakplaaGreatZmak
set_option linter.unusedSimpArgs false
set_option linter.unusedVariables false
namespace Go.Proofs.YtdmlebigkakplaaGreat
open Go Go.Fx
theorem pow_dbl (k m : Nat) : 2 ^ (k + m) + 2 ^ (m + k) ≤ 2 ^ (k + m + 1) := by
  rw [Nat.add_comm m k, Nat.pow_succ]; omega
theorem den_pos (q : Rat) : (0 : Int) < q.den := by have := q.den_nz; omega
theorem den_mul_ne (p q : Rat) : ((p.den : Int) * q.den) ≠ 0 := by
  have := Int.mul_pos (den_pos p) (den_pos q); omega
theorem den_num_ne {p q : Rat} (h : q ≠ 0) : ((p.den : Int) * q.num) ≠ 0 := fun h0 => by
  rcases Int.mul_eq_zero.1 h0 with h1 | h1
  · exact absurd h1 (by have := den_pos p; omega)
  · exact h (Rat.num_eq_zero.1 h1)
section
variable {X : List Nat} {w0 : World} {M0 : List Ent} {I0 : List Imm}
set_option maxRecDepth 100000 in
set_option maxHeartbeats 1000000 in
theorem QAdd_ok {a b : RE} {k m : Nat} (hk : k + m + 1 ≤ 500000000) (ha : Hv I0 (isR a k)) (hb : Hv I0 (isR b m)) :
    CD Tryz.prog 163 [rv a, rv b] X w0 M0 I0 (RQ (a.q + b.q) (k + m + 1) M0 I0) := by
  refine enterD2 Tryz.func163 rfl Tryz.ntmps163 rfl ?_
  refine TD_seq ?_
  refine TD_region ?_
  (refine RD_boxA rfl rfl rfl ?_; intro b1; refine ⟨okF, ?_⟩)
  (refine RD_boxA rfl rfl rfl ?_; intro b2; refine ⟨okF, ?_⟩)
  (refine RD_alloc rfl rfl ?_; intro b3; refine ⟨okF, ?_⟩)
  repeat (refine wXf ?_)
  (repeat refine TD_seq ?_); refine TD_drawnJ 2 [0, 2, 1, 3, 4, 5] [1, 2, 0, 0, 0, 0] mixed (by kernel_rfl) ?_
  repeat (refine wXf ?_)
  (refine RD_callS rfl (Value_ok (k := k) (by omega) ha) rfl rfl ?_; rintro _ _ _ ⟨rfl, x, rfl, hx, rfl⟩; refine ⟨okF, ?_⟩)
  repeat (refine wXf ?_)
  (refine RD_callS rfl (Value_ok (k := m) (by omega) hb.cons) rfl rfl ?_; rintro _ _ _ ⟨rfl, y, rfl, hy, rfl⟩; refine ⟨okF, ?_⟩)
  refine RD_openR (e := x) (k := k) (Hv.mem (List.Mem.tail _ (List.Mem.head _))) ?_
  refine RD_openR (e := y) (k := m) (Hv.mem (List.Mem.tail _ (List.Mem.tail _ (List.Mem.head _)))) ?_
  rw [← hx, ← hy]
  have hM1 := fun u v M0 I0 => Mul_ok (X := X) (w0 := w0) (M0 := M0) (I0 := I0) (u := u) (v := v) (y := x.q.num) (z := y.q.den) (k := k) (m := m) (by omega)
  have hM2 := fun u v M0 I0 => Mul_ok (X := X) (w0 := w0) (M0 := M0) (I0 := I0) (u := u) (v := v) (y := y.q.num) (z := x.q.den) (k := m) (m := k) (by omega)
  have hM3 := fun u v M0 I0 => Mul_ok (X := X) (w0 := w0) (M0 := M0) (I0 := I0) (u := u) (v := v) (y := x.q.den) (z := y.q.den) (k := k) (m := m) (by omega)
  have hA := fun u v M0 I0 => Add_ok (X := X) (w0 := w0) (M0 := M0) (I0 := I0) (u := u) (v := v) (y := x.q.num * y.q.den) (z := y.q.num * x.q.den) (k := k + m) (m := m + k) (c := k + m + 1) (by omega) (by omega) (by omega) (pow_dbl k m)
  have hR := fun u v M0 I0 => reduced_ok (X := X) (w0 := w0) (M0 := M0) (I0 := I0) (u := u) (v := v) (n := x.q.num * y.q.den + y.q.num * x.q.den) (d := x.q.den * y.q.den) (k := k + m + 1) (by omega) (den_mul_ne _ _)
  rw [← add_divInt] at hR
  repeat (refine wXf ?_)
  (repeat refine TD_seq ?_); refine TD_drawnW (.blk b2 (eR y) 26 :: .blk b1 (eR x) 26 :: M0) (I0) [0, 1, 2, 3, 5, 6, 7, 8, 11, 12, 13, 14, 4, 9, 10, 15, 16, 17] [5, 4, 5, 4, 5, 4, 5, 4, 5, 4, 5, 4, 0, 0, 0, 0, 0, 0] subF incF mixed (by kernel_rfl) ?_
  repeat (refine wXf ?_)
  (refine RD_callS rfl (hM1 _ _ _ _ memF memF) rfl rfl ?_; rintro _ _ _ ⟨rfl, rfl⟩; refine ⟨okF, ?_⟩)
  (refine RD_callS rfl (hM2 _ _ _ _ memF memF) rfl rfl ?_; rintro _ _ _ ⟨rfl, rfl⟩; refine ⟨okF, ?_⟩)
  (refine RD_callS rfl (hA _ _ _ _ memF memF) rfl rfl ?_; rintro _ _ _ ⟨rfl, rfl⟩; refine ⟨okF, ?_⟩)
  (refine RD_callS rfl (hM3 _ _ _ _ memF memF) rfl rfl ?_; rintro _ _ _ ⟨rfl, rfl⟩; refine ⟨okF, ?_⟩)
  refine RD_monoI (k2 := k + m + 1) (List.Mem.head _) (by omega) ?_
  (refine RD_callS rfl (hR _ _ _ _ memF memF) rfl rfl ?_; rintro _ _ _ ⟨rfl, e, rfl, he, rfl⟩; refine ⟨okF, ?_⟩)
  repeat (refine wXf ?_)
  refine ND_retC (cs := eR e) (.inl rfl) rfl rfl memF rfl M0 (isR e (k + m + 1) :: I0) subF incF ⟨rfl, e, rfl, he, rfl⟩
set_option maxRecDepth 100000 in
theorem QSub_ok {a b : RE} {k m : Nat} (hk : k + m + 1 ≤ 500000000) (ha : Hv I0 (isR a k)) (hb : Hv I0 (isR b m)) :
    CD Tryz.prog 165 [rv a, rv b] X w0 M0 I0 (RQ (a.q - b.q) (k + m + 1) M0 I0) := by
  refine enterD2 Tryz.func165 rfl Tryz.ntmps165 rfl ?_
  refine TD_seq ?_
  refine TD_region ?_
  (refine RD_boxA rfl rfl rfl ?_; intro b1; refine ⟨okF, ?_⟩)
  (refine RD_boxA rfl rfl rfl ?_; intro b2; refine ⟨okF, ?_⟩)
  (refine RD_alloc rfl rfl ?_; intro b3; refine ⟨okF, ?_⟩)
  repeat (refine wXf ?_)
  (repeat refine TD_seq ?_); refine TD_drawnJ 1 [0, 1, 2, 3, 4] [1, 1, 0, 0, 0] mixed (by kernel_rfl) ?_
  repeat (refine wXf ?_)
  (refine RD_callS rfl (QNeg_ok (k := m) (by omega) hb) rfl rfl ?_; rintro _ _ _ ⟨rfl, y, rfl, hy, rfl⟩; refine ⟨okF, ?_⟩)
  rw [Rat.sub_eq_add_neg, ← hy]
  (refine RD_callS rfl (QAdd_ok hk ha.cons (Hv.mem (List.Mem.head _))) rfl rfl ?_; rintro _ _ _ ⟨rfl, e, rfl, he, rfl⟩; refine ⟨okF, ?_⟩)
  repeat (refine wXf ?_)
  refine ND_retC (cs := eR e) (.inl rfl) rfl rfl memF rfl M0 (isR e (k + m + 1) :: I0) subF incF ⟨rfl, e, rfl, he, rfl⟩
set_option maxRecDepth 100000 in
set_option maxHeartbeats 1000000 in
theorem QMul_ok {a b : RE} {k m : Nat} (hk : k + m ≤ 500000000) (ha : Hv I0 (isR a k)) (hb : Hv I0 (isR b m)) :
    CD Tryz.prog 139 [rv a, rv b] X w0 M0 I0 (RQ (a.q * b.q) (k + m) M0 I0) := by
  refine enterD2 Tryz.func139 rfl Tryz.ntmps139 rfl ?_
  refine TD_seq ?_
  refine TD_region ?_
  (refine RD_boxA rfl rfl rfl ?_; intro b1; refine ⟨okF, ?_⟩)
  (refine RD_boxA rfl rfl rfl ?_; intro b2; refine ⟨okF, ?_⟩)
  (refine RD_alloc rfl rfl ?_; intro b3; refine ⟨okF, ?_⟩)
  repeat (refine wXf ?_)
  (repeat refine TD_seq ?_); refine TD_drawnJ 2 [0, 2, 1, 3, 4, 5] [1, 2, 0, 0, 0, 0] mixed (by kernel_rfl) ?_
  repeat (refine wXf ?_)
  (refine RD_callS rfl (Value_ok (k := k) (by omega) ha) rfl rfl ?_; rintro _ _ _ ⟨rfl, x, rfl, hx, rfl⟩; refine ⟨okF, ?_⟩)
  repeat (refine wXf ?_)
  (refine RD_callS rfl (Value_ok (k := m) (by omega) hb.cons) rfl rfl ?_; rintro _ _ _ ⟨rfl, y, rfl, hy, rfl⟩; refine ⟨okF, ?_⟩)
  refine RD_openR (e := x) (k := k) (Hv.mem (List.Mem.tail _ (List.Mem.head _))) ?_
  refine RD_openR (e := y) (k := m) (Hv.mem (List.Mem.tail _ (List.Mem.tail _ (List.Mem.head _)))) ?_
  rw [← hx, ← hy]
  have hM1 := fun u v M0 I0 => Mul_ok (X := X) (w0 := w0) (M0 := M0) (I0 := I0) (u := u) (v := v) (y := x.q.num) (z := y.q.num) (k := k) (m := m) (by omega)
  have hM3 := fun u v M0 I0 => Mul_ok (X := X) (w0 := w0) (M0 := M0) (I0 := I0) (u := u) (v := v) (y := x.q.den) (z := y.q.den) (k := k) (m := m) (by omega)
  have hR := fun u v M0 I0 => reduced_ok (X := X) (w0 := w0) (M0 := M0) (I0 := I0) (u := u) (v := v) (n := x.q.num * y.q.num) (d := x.q.den * y.q.den) (k := k + m) (by omega) (den_mul_ne _ _)
  rw [← mul_divInt] at hR
  repeat (refine wXf ?_)
  (repeat refine TD_seq ?_); refine TD_drawnW (.blk b2 (eR y) 26 :: .blk b1 (eR x) 26 :: M0) (I0) [0, 1, 2, 3, 5, 6, 7, 8, 4, 9, 10, 11] [3, 2, 3, 2, 3, 2, 3, 2, 0, 0, 0, 0] subF incF mixed (by kernel_rfl) ?_
  repeat (refine wXf ?_)
  (refine RD_callS rfl (hM1 _ _ _ _ memF memF) rfl rfl ?_; rintro _ _ _ ⟨rfl, rfl⟩; refine ⟨okF, ?_⟩)
  (refine RD_callS rfl (hM3 _ _ _ _ memF memF) rfl rfl ?_; rintro _ _ _ ⟨rfl, rfl⟩; refine ⟨okF, ?_⟩)
  (refine RD_callS rfl (hR _ _ _ _ memF memF) rfl rfl ?_; rintro _ _ _ ⟨rfl, e, rfl, he, rfl⟩; refine ⟨okF, ?_⟩)
  repeat (refine wXf ?_)
  refine ND_retC (cs := eR e) (.inl rfl) rfl rfl memF rfl M0 (isR e (k + m) :: I0) subF incF ⟨rfl, e, rfl, he, rfl⟩
/-- zero, as with an error -/
abbrev zR : Value := .agg #[.bool false, .slice none 0 0, .bool false, .slice none 0 0]
set_option maxRecDepth 100000 in
set_option maxHeartbeats 1000000 in
theorem QDivide_ok {a b : RE} {k m : Nat} (hk : k + m ≤ 500000000) (hb0 : b.q ≠ 0) (ha : Hv I0 (isR a k)) (hb : Hv I0 (isR b m)) :
    CD Tryz.prog 105 [rv a, rv b] X w0 M0 I0 (RQc (a.q / b.q) (k + m) M0 I0) := by
  refine enterD2 Tryz.func105 rfl Tryz.ntmps105 rfl ?_
  refine TD_seq ?_
  refine TD_region ?_
  (refine RD_boxA rfl rfl rfl ?_; intro b1; refine ⟨okF, ?_⟩)
  (refine RD_boxA rfl rfl rfl ?_; intro b2; refine ⟨okF, ?_⟩)
  (refine RD_alloc rfl rfl ?_; intro b3; refine ⟨okF, ?_⟩)
  repeat (refine wXf ?_)
  (repeat refine TD_seq ?_); refine TD_drawnJ 2 [0, 2, 1, 3, 4, 5] [1, 2, 0, 0, 0, 0] mixed (by kernel_rfl) ?_
  repeat (refine wXf ?_)
  (refine RD_callS rfl (Value_ok (k := k) (by omega) ha) rfl rfl ?_; rintro _ _ _ ⟨rfl, x, rfl, hx, rfl⟩; refine ⟨okF, ?_⟩)
  repeat (refine wXf ?_)
  (refine RD_callS rfl (Value_ok (k := m) (by omega) hb.cons) rfl rfl ?_; rintro _ _ _ ⟨rfl, y, rfl, hy, rfl⟩; refine ⟨okF, ?_⟩)
  refine RD_openR (e := x) (k := k) (Hv.mem (List.Mem.tail _ (List.Mem.head _))) ?_
  refine RD_openR (e := y) (k := m) (Hv.mem (List.Mem.tail _ (List.Mem.tail _ (List.Mem.head _)))) ?_
  rw [← hx, ← hy]
  rw [← hy] at hb0
  have hs0 : ¬ y.q.num.sign = 0 := fun h => hb0 (Rat.num_eq_zero.1 (Int.sign_eq_zero_iff_zero.1 h))
  have hS := fun M0 I0 => Sign_ok (X := X) (w0 := w0) (M0 := M0) (I0 := I0) (u := vI y.p1 y.c1 y.q.num) (z := y.q.num) (k := m) (by omega)
  have hM1 := fun u v M0 I0 => Mul_ok (X := X) (w0 := w0) (M0 := M0) (I0 := I0) (u := u) (v := v) (y := x.q.num) (z := y.q.den) (k := k) (m := m) (by omega)
  have hM3 := fun u v M0 I0 => Mul_ok (X := X) (w0 := w0) (M0 := M0) (I0 := I0) (u := u) (v := v) (y := x.q.den) (z := y.q.num) (k := k) (m := m) (by omega)
  have hR := fun u v M0 I0 => reduced_ok (X := X) (w0 := w0) (M0 := M0) (I0 := I0) (u := u) (v := v) (n := x.q.num * y.q.den) (d := x.q.den * y.q.num) (k := k + m) (by omega) (den_num_ne hb0)
  rw [← div_divInt] at hR
  generalize y.q.num.sign = sy at *
  repeat (refine wXf ?_)
  (refine RD_callS rfl (hS _ _ memF) rfl rfl ?_; rintro _ _ _ ⟨rfl, rfl, rfl⟩; refine ⟨okF, ?_⟩)
  repeat (refine wXf ?_)
  (repeat refine TD_seq ?_); refine TD_drawnW (.blk b2 (eR y) 26 :: .blk b1 (eR x) 26 :: M0) (I0) [0, 1, 2, 3, 5, 6, 7, 8, 4, 9, 10, 11, 12] [3, 2, 3, 2, 3, 2, 3, 2, 0, 0, 0, 0, 0] subF incF mixed (by kernel_rfl) ?_
  repeat (refine wXf ?_)
  (refine RD_callS rfl (hM1 _ _ _ _ memF memF) rfl rfl ?_; rintro _ _ _ ⟨rfl, rfl⟩; refine ⟨okF, ?_⟩)
  (refine RD_callS rfl (hM3 _ _ _ _ memF memF) rfl rfl ?_; rintro _ _ _ ⟨rfl, rfl⟩; refine ⟨okF, ?_⟩)
  (refine RD_callS rfl (hR _ _ _ _ memF memF) rfl rfl ?_; rintro _ _ _ ⟨rfl, e, rfl, he, rfl⟩; refine ⟨okF, ?_⟩)
  repeat (refine wXf ?_)
  refine ND_retsC (rs := [.cell 4 26, .tmp 5]) (vs := [rv e, .int .i64 0]) (.inl rfl) rfl (.cellN (cs := eR e) inferInstance rfl memF rfl (.tmp rfl .nil)) rfl M0 (isR e (k + m) :: I0) subF incF ⟨rfl, e, rfl, he, rfl⟩
set_option maxRecDepth 100000 in
theorem QDivide0_ok {a b : RE} {k m : Nat} (hk : k + m ≤ 500000000) (hb0 : b.q = 0) (ha : Hv I0 (isR a k)) (hb : Hv I0 (isR b m)) :
    CD Tryz.prog 105 [rv a, rv b] X w0 M0 I0 (fun v M I => M0 = M ∧ I0 = I ∧ v = .tuple #[zR, .int .i64 14]) := by
  refine enterD2 Tryz.func105 rfl Tryz.ntmps105 rfl ?_
  refine TD_seq ?_
  refine TD_region ?_
  (refine RD_boxA rfl rfl rfl ?_; intro b1; refine ⟨okF, ?_⟩)
  (refine RD_boxA rfl rfl rfl ?_; intro b2; refine ⟨okF, ?_⟩)
  (refine RD_alloc rfl rfl ?_; intro b3; refine ⟨okF, ?_⟩)
  repeat (refine wXf ?_)
  (repeat refine TD_seq ?_); refine TD_drawnJ 2 [0, 2, 1, 3, 4, 5] [1, 2, 0, 0, 0, 0] mixed (by kernel_rfl) ?_
  repeat (refine wXf ?_)
  (refine RD_callS rfl (Value_ok (k := k) (by omega) ha) rfl rfl ?_; rintro _ _ _ ⟨rfl, x, rfl, hx, rfl⟩; refine ⟨okF, ?_⟩)
  repeat (refine wXf ?_)
  (refine RD_callS rfl (Value_ok (k := m) (by omega) hb.cons) rfl rfl ?_; rintro _ _ _ ⟨rfl, y, rfl, hy, rfl⟩; refine ⟨okF, ?_⟩)
  refine RD_openR (e := y) (k := m) (Hv.mem (List.Mem.head _)) ?_
  rw [← hy] at hb0
  have hs0 : y.q.num.sign = 0 := by rw [hb0]; rfl
  have hS := fun M0 I0 => Sign_ok (X := X) (w0 := w0) (M0 := M0) (I0 := I0) (u := vI y.p1 y.c1 y.q.num) (z := y.q.num) (k := m) (by omega)
  generalize y.q.num.sign = sy at *
  repeat (refine wXf ?_)
  (refine RD_callS rfl (hS _ _ memF) rfl rfl ?_; rintro _ _ _ ⟨rfl, rfl, rfl⟩; refine ⟨okF, ?_⟩)
  repeat (refine wXf ?_)
  (refine RD_c rfl (fun _ => Const_struct (pvs := ([]).zipIdx.map (fun p => (p.2, p.1))) (cells := [.bool false, .slice none 0 0, .bool false, .slice none 0 0]) rfl rfl) rfl rfl ?_)
  repeat (refine wXf ?_)
  refine ND_retsC (rs := [.cell 4 26, .tmp 5]) (vs := [zR, .int .i64 14]) (.inl rfl) rfl (.cellN (cs := [.bool false, .slice none 0 0, .bool false, .slice none 0 0]) inferInstance rfl memF rfl (.tmp rfl .nil)) rfl M0 I0 subF incF ⟨rfl, rfl, rfl⟩
/-- the order of fractions -/
def cmpR (p q : Rat) : Int := cmpV (p.num * q.den) (q.num * p.den)
theorem cmpR_lt {p q : Rat} : cmpR p q < 0 ↔ p < q := by
  unfold cmpR cmpV; rw [rat_lt]; split <;> (try split) <;> omega
theorem cmpR_gt {p q : Rat} : 0 < cmpR p q ↔ q < p := by
  unfold cmpR cmpV; rw [rat_lt]; split <;> (try split) <;> omega
theorem cmpR_eq {p q : Rat} : cmpR p q = 0 ↔ p = q := by
  unfold cmpR cmpV; rw [rat_eq]; split <;> (try split) <;> omega
theorem cmpR_le {p q : Rat} : cmpR p q ≤ 0 ↔ p ≤ q := by rw [← Rat.not_lt, ← cmpR_gt]; omega
set_option maxRecDepth 100000 in
set_option maxHeartbeats 1000000 in
theorem QCompare_ok {a b : RE} {k m : Nat} (hk : k + m ≤ 400000000) (ha : Hv I0 (isR a k)) (hb : Hv I0 (isR b m)) :
    CD Tryz.prog 233 [rv a, rv b] X w0 M0 I0 (fun v M I => M0 = M ∧ I0 = I ∧ v = .int .i64 (cmpR a.q b.q)) := by
  refine enterD2 Tryz.func233 rfl Tryz.ntmps233 rfl ?_
  refine TD_seq ?_
  refine TD_region ?_
  (refine RD_boxA rfl rfl rfl ?_; intro b1; refine ⟨okF, ?_⟩)
  (refine RD_boxA rfl rfl rfl ?_; intro b2; refine ⟨okF, ?_⟩)
  repeat (refine wXf ?_)
  (repeat refine TD_seq ?_); refine TD_drawnJ 2 [0, 2, 1, 3, 4, 5] [1, 2, 0, 0, 0, 0] mixed (by kernel_rfl) ?_
  repeat (refine wXf ?_)
  (refine RD_callS rfl (Value_ok (k := k) (by omega) ha) rfl rfl ?_; rintro _ _ _ ⟨rfl, x, rfl, hx, rfl⟩; refine ⟨okF, ?_⟩)
  repeat (refine wXf ?_)
  (refine RD_callS rfl (Value_ok (k := m) (by omega) hb.cons) rfl rfl ?_; rintro _ _ _ ⟨rfl, y, rfl, hy, rfl⟩; refine ⟨okF, ?_⟩)
  refine RD_openR (e := x) (k := k) (Hv.mem (List.Mem.tail _ (List.Mem.head _))) ?_
  refine RD_openR (e := y) (k := m) (Hv.mem (List.Mem.tail _ (List.Mem.tail _ (List.Mem.head _)))) ?_
  rw [← hx, ← hy]
  have hM1 := fun u v M0 I0 => Mul_ok (X := X) (w0 := w0) (M0 := M0) (I0 := I0) (u := u) (v := v) (y := x.q.num) (z := y.q.den) (k := k) (m := m) (by omega)
  have hM2 := fun u v M0 I0 => Mul_ok (X := X) (w0 := w0) (M0 := M0) (I0 := I0) (u := u) (v := v) (y := y.q.num) (z := x.q.den) (k := m) (m := k) (by omega)
  have hC := fun u v M0 I0 => Compare_ok (X := X) (w0 := w0) (M0 := M0) (I0 := I0) (u := u) (v := v) (y := x.q.num * y.q.den) (z := y.q.num * x.q.den) (k := k + m) (m := m + k) (by omega) (by omega)
  repeat (refine wXf ?_)
  (repeat refine TD_seq ?_); refine TD_drawnW (.blk b2 (eR y) 26 :: .blk b1 (eR x) 26 :: M0) (I0) [0, 1, 2, 3, 5, 6, 7, 8, 4, 9, 10, 11] [3, 2, 3, 2, 3, 2, 3, 2, 0, 0, 0, 0] subF incF mixed (by kernel_rfl) ?_
  repeat (refine wXf ?_)
  (refine RD_callS rfl (hM1 _ _ _ _ memF memF) rfl rfl ?_; rintro _ _ _ ⟨rfl, rfl⟩; refine ⟨okF, ?_⟩)
  (refine RD_callS rfl (hM2 _ _ _ _ memF memF) rfl rfl ?_; rintro _ _ _ ⟨rfl, rfl⟩; refine ⟨okF, ?_⟩)
  (refine RD_callS rfl (hC _ _ _ _ memF memF) rfl rfl ?_; rintro _ _ _ ⟨rfl, rfl, rfl⟩; refine ⟨okF, ?_⟩)
  repeat (refine wXf ?_)
  refine ND_ret1 (by first | exact .inl rfl | exact .inr rfl) rfl rfl _ _ subF incF (⟨rfl, rfl, rfl⟩)
end
end Go.Proofs.YtdmlebigkakplaaGreat
namespace Go.Proofs.YtdmlebigkakplaaGreat
open Go Go.Fx
section
variable {P : Program} {n : Nat} {G : Env}
theorem Const_slice0n {C : World → Prop} {ty t e : TypeId} {sz : Nat} {x y : Operand} {k : IntKind} {i : Int} {q : Option Addr} [ht : SliceTy P t e sz] (hx : ev G x = some (.slice q 0 0)) (hy : ev G y = some (.int k i)) (hi : i = 0) :
    Const P n G (.slice t x none (some y) none) ty C (.slice q 0 0) := by
  subst hi
  refine ⟨?_⟩
  intro st ha dst pos after guard w _
  cases q with
  | none => simp [execOp, Instr.sliceAt, Instr.slice, ha.ev hx, run_und ht.und, Fx.run_sizeOf ht.size, Instr.sliceBounds, Instr.sliceBound, asIntOf, ha.ev hy]
  | some ad => simp [execOp, Instr.sliceAt, Instr.slice, ha.ev hx, run_und ht.und, Fx.run_sizeOf ht.size, Instr.sliceBounds, Instr.sliceBound, asIntOf, ha.ev hy, Addr.add]
end
section
variable {X : List Nat} {w0 : World} {M0 : List Ent} {I0 : List Imm}
theorem group_ok {q : Option Addr} {l : List Int} {n c : Nat} {i : Int} (hn : n = l.length) (hi : 0 ≤ i) (hl : slI q (recs eG l) ∈ I0) (hd : Dig l) :
    CD Tryz.prog 263 [.slice q n c, .int .i64 i] X w0 M0 I0 (fun v M I => M0 = M ∧ I0 = I ∧ v = .int .u64 (gt l i)) := by
  subst hn
  have d := hd.gt i
  refine enterD Tryz.func263 rfl Tryz.ntmps263 rfl ?_
  repeat' (first | refine wXj ?_ | (refine TD_isCo ?_; first | refine TD_dec rfl (fun h => ?_) (fun h => ?_) | refine TD_cond rfl (fun h => ?_) (fun h => ?_)) | (refine RD_isGu ?_; first | refine RD_grd rfl rfl (fun h => ?_) (fun h => ?_) | (fail_if_success (refine RD_isW rfl ?_); refine RD_grdB rfl rfl (fun h => ?_) (fun h => ?_))))
  · refine ND_ret1 (by first | exact .inl rfl | exact .inr rfl) rfl rfl _ _ subP incL (⟨rfl, rfl, rfl⟩)
  · refine ND_ret1 (by first | exact .inl rfl | exact .inr rfl) rfl rfl _ _ subP incL (⟨rfl, rfl, by rw [gt_out0 (by omega)]⟩)
/-- the integer with a sign and groups -/
theorem rmade_raw {p : Prop} [Decidable p] {q : Option Addr} {l : List Int} {n c : Nat} (h63 : l.length ≤ 1000000000000) (hc : l.length ≤ c) (hok : Ok q ∨ (l.length = 0 ∧ c = 0)) (hd : Dig l) (hv : val l = n) (hl : slI q (recs eG l) ∈ I0) :
    CD Tryz.prog 221 [.bool (B p), .slice q l.length c] X w0 M0 I0 (fun v M I => M0 = M ∧ ∃ q' c', v = .agg #[.bool (B (p ∧ n ≠ 0)), .slice q' (gr n).length c'] ∧ OkC q' n c' ∧ I = slI q' (recs eG (gr n)) :: I0) := by
  have hg : trimL l = gr n := trim_gr' hd hv
  refine enterD Tryz.func221 rfl Tryz.ntmps221 rfl ?_
  refine TD_seq ?_
  refine TD_region ?_
  (refine RD_alloc rfl rfl ?_; intro b; refine ⟨okJ, ?_⟩)
  repeat (refine wXj ?_)
  refine TD_loop [0, 1, 4] rfl (fun k G M I => ∃ m : Nat, m ≤ l.length ∧ k = m ∧ trimL (l.take m) = trimL l ∧ ∃ x : Int, x = m ∧ G = [(5, .int .i64 x)] ∧ M = .blk b [.bool false, .slice none 0 0] 24 :: M0 ∧ I0 = I) (l.length) _ _ _ subG subP incL (⟨l.length, by omega, rfl, by rw [List.take_length], _, rfl, rfl, rfl, rfl⟩) ?_
  rintro k G M I ⟨m, hm, rfl, ht, x, hx, rfl, rfl, rfl⟩
  have hend : trimL l = l.take k → (n ≠ 0 ↔ 0 < k) ∧ (gr n).length = k := fun e => by
    have hl1 : (gr n).length = k := by rw [← hg, e, List.length_take]; omega
    refine ⟨⟨fun h => ?_, fun h h0 => ?_⟩, hl1⟩
    · rw [← hl1]; exact List.length_pos_iff.2 (fun e => h (gr_nil.1 e))
    · rw [h0, gr_zero] at hl1; simp at hl1; omega
  have hstep : ∀ j : Nat, j < l.length → l.take (j + 1) = l.take j ++ [gt l (j : Int)] := fun j hj => by rw [List.take_succ_eq_append_getElem hj, gt_get hj]
  repeat' (first | refine wXj ?_ | (refine TD_isCo ?_; first | refine TD_dec rfl (fun h => ?_) (fun h => ?_) | refine TD_cond rfl (fun h => ?_) (fun h => ?_)) | (refine RD_isGu ?_; first | refine RD_grd rfl rfl (fun h => ?_) (fun h => ?_) | (fail_if_success (refine RD_isW rfl ?_); refine RD_grdB rfl rfl (fun h => ?_) (fun h => ?_))))
  · have h1 := h
    refine ND_again (k - 1) _ _ _ (by first | omega | (simp only [List.length_append, List.length_cons, List.length_nil]; omega)) subG subP incL (⟨k - 1, by omega, rfl, ?_, _, by omega, rfl, rfl, rfl⟩)
    rw [← ht]
    obtain ⟨j, rfl⟩ : ∃ j, k = j + 1 := ⟨k - 1, by omega⟩
    have e : ((j + 1 : Nat) : Int) - 1 = j := by omega
    rw [hx, e] at h1
    rw [hstep j (by omega), h1, trim_snoc0]
    rfl
  all_goals
    have htk : trimL l = l.take k := by
      rw [← ht]
      refine trim_fix ?_
      rcases Nat.eq_zero_or_pos k with h0 | h0
      · subst h0; simp [Top]
      · obtain ⟨j, rfl⟩ : ∃ j, k = j + 1 := ⟨k - 1, by omega⟩
        have e : ((j + 1 : Nat) : Int) - 1 = j := by omega
        rw [hstep j (by omega), Top.snoc]
        first
          | (rw [← e, ← hx]; assumption)
          | (exfalso; omega)
    obtain ⟨hnz, hlk⟩ := hend htk
    have hgk : gr n = l.take k := by rw [← hg, htk]
  all_goals
    have hsl : slI q (recs eG (gr n)) ∈ slI q (recs eG (gr n)) :: I0 := List.Mem.head _
    refine RD_m (M' := .blk b [.bool false, .slice none 0 0] 24 :: M0) (I' := slI q (recs eG (gr n)) :: I0) (fun w hw => hw.takeI (cs := recs eG (gr n)) (tl := recs eG (l.drop k)) (by rw [hgk, ← recs_append, List.take_append_drop]; exact hl)) ?_
    subst hx
    (refine RD_vals (cs := recs eG []) ([]) rfl rfl (by intro v hv; repeat (first | exact absurd hv (List.not_mem_nil) | (rcases List.mem_cons.1 hv with rfl | hv; · rfl))) (by omega) rfl rfl rfl ?_; intro b1; refine ⟨okJ, ?_⟩)
    repeat (refine wXj ?_)
    have hbool : ∀ y : Bool, (y = true ↔ (p ∧ n ≠ 0)) → Value.bool y = .bool (B (p ∧ n ≠ 0)) := fun y hy => by
      refine congrArg Value.bool ?_
      by_cases hp : p ∧ n ≠ 0
      · rw [B_true hp]; exact hy.2 hp
      · rw [B_false hp]; cases y with
        | false => rfl
        | true => exact absurd (hy.1 rfl) hp
    rcases hok with hok | ⟨hl0, hc0⟩
    · obtain ⟨b9, o9, rfl⟩ := hok.cases
      refine RD_c rfl (fun _ => Const_slice0 k rfl rfl rfl (by omega)) rfl rfl ?_
      refine RD_toRow (b := b1) (mm := 0) 1 repE rfl (by omega) ?_
      refine RD_appR (xs := []) (ys := gr n) 0 rfl rfl rfl (Src.imm (List.Mem.head _) (.inl (Ok.mk _ _))) (by decide) hlk (by simp <;> omega) (by simp <;> omega) rfl rfl ?_
      intro a2 c2
      refine ⟨okJ, ?_⟩
      rw [List.nil_append]
      refine RD_fact (fun w hw => And.intro (hw.rowLe (List.Mem.head _)) ((hw.rowS (List.Mem.head _)).2.imp id And.right)) (fun ho3 => ?_)
      refine RD_freezeR remE ?_
      refine RD_c rfl (fun _ => Const_struct (pvs := [(0, _), (1, _)]) (cells := [_, .slice a2 (gr n).length c2]) rfl rfl) rfl rfl ?_
      repeat (refine wXj ?_)
      refine ND_retC (cs := [_, .slice a2 (gr n).length c2]) (.inl rfl) rfl rfl memL rfl M0 (slI a2 (recs eG (gr n)) :: I0) subP incL ⟨rfl, a2, c2, ?_, ho3, rfl⟩
      first
        | exact congrArg (fun x => Value.agg #[x, .slice a2 (gr n).length c2]) (hbool (B ((0 : Int) < ((k : Nat) : Int))) (by rw [B_eq, decide_eq_true_iff]; exact ⟨fun h => ⟨by assumption, hnz.2 (by omega)⟩, fun h => by have := hnz.1 h.2; omega⟩))
        | exact congrArg (fun x => Value.agg #[x, .slice a2 (gr n).length c2]) (hbool false ⟨fun h => (by cases h), fun h => absurd h.1 (by assumption)⟩)
    · subst hc0
      obtain rfl : k = 0 := by omega
      have hn0 : gr n = [] := by rw [hgk]; rfl
      obtain rfl : l = [] := List.eq_nil_of_length_eq_zero hl0
      refine RD_c rfl (fun _ => Const_slice0n rfl rfl rfl) rfl rfl ?_
      refine RD_toRow (b := b1) (mm := 0) 1 repE rfl (by omega) ?_
      refine RD_appR (xs := []) (ys := gr n) 0 rfl rfl rfl (Src.imm (List.Mem.head _) (.inr ⟨rfl, rfl⟩)) (by decide) hlk (by simp <;> omega) (by simp <;> omega) rfl rfl ?_
      intro a2 c2
      refine ⟨okJ, ?_⟩
      rw [List.nil_append]
      refine RD_fact (fun w hw => And.intro (hw.rowLe (List.Mem.head _)) ((hw.rowS (List.Mem.head _)).2.imp id And.right)) (fun ho3 => ?_)
      refine RD_freezeR remE ?_
      refine RD_c rfl (fun _ => Const_struct (pvs := [(0, _), (1, _)]) (cells := [_, .slice a2 (gr n).length c2]) rfl rfl) rfl rfl ?_
      repeat (refine wXj ?_)
      refine ND_retC (cs := [_, .slice a2 (gr n).length c2]) (.inl rfl) rfl rfl memL rfl M0 (slI a2 (recs eG (gr n)) :: I0) subP incL ⟨rfl, a2, c2, ?_, ho3, rfl⟩
      first
        | exact congrArg (fun x => Value.agg #[x, .slice a2 (gr n).length c2]) (hbool (B ((0 : Int) < ((0 : Nat) : Int))) (by rw [B_eq, decide_eq_true_iff]; exact ⟨fun h => ⟨by assumption, hnz.2 (by omega)⟩, fun h => by have := hnz.1 h.2; omega⟩))
        | exact congrArg (fun x => Value.agg #[x, .slice a2 (gr n).length c2]) (hbool false ⟨fun h => (by cases h), fun h => absurd h.1 (by assumption)⟩)
end
end Go.Proofs.YtdmlebigkakplaaGreat
