/- The law's arithmetic with numbers and vectors (chapter 30). -/
import Derived.Test.YteghpnkhlfkigaaGreatZrsbp
import Derived.Test.YteghpnkhlfkigaaGreatZrsbq
import Derived.Test.YteghpnkhlfkigaaGreatZrsbk
set_option linter.unusedSimpArgs false
set_option linter.unusedVariables false
namespace Go.Proofs.YteghpnkhlfkigaaGreat
open Go Go.Fx
section
variable {X : List Nat} {w0 : World} {M0 : List Ent} {I0 : List Imm}
set_option maxRecDepth 100000 in
theorem gRat_ok {x : Int} (hx : -9223372036854775808 ≤ x ∧ x ≤ 9223372036854775807) {k : Nat} (hk : x.natAbs ≤ 2 ^ k) :
    CD Tryz.prog 23 [.int .i64 x] X w0 M0 I0 (RQ (x : Rat) k M0 I0) := by
  refine enterD1 Tryz.func23 rfl Tryz.ntmps23 rfl ?_
  refine TD_seq ?_
  refine TD_region ?_
  (refine RD_alloc rfl rfl ?_; intro b2; refine ⟨okF, ?_⟩)
  repeat (first | (refine isR' ?_; refine whR ?_) | (refine isT' ?_; refine whT ?_) | (refine isN' ?_; refine whN ?_))
  (refine RD_callS rfl (rQWhole_ok hx hk) rfl rfl ?_; rintro _ _ _ ⟨rfl, e, rfl, he, rfl⟩; refine ⟨okF, ?_⟩)
  repeat (first | (refine isR' ?_; refine whR ?_) | (refine isT' ?_; refine whT ?_) | (refine isN' ?_; refine whN ?_))
  refine ND_retC (cs := eR e) (.inl rfl) rfl rfl memF rfl M0 (isR e k :: I0) subF incF ⟨rfl, e, rfl, he, rfl⟩
set_option maxRecDepth 100000 in
theorem gAdd_ok {a b : RE} {k m : Nat} (hk : k + m + 1 ≤ 100000000) (ha : Hv I0 (isR a k)) (hb : Hv I0 (isR b m)) :
    CD Tryz.prog 120 [rv a, rv b] X w0 M0 I0 (RQ (a.q + b.q) (k + m + 1) M0 I0) := by
  refine enterD2 Tryz.func120 rfl Tryz.ntmps120 rfl ?_
  refine TD_seq ?_
  refine TD_region ?_
  (refine RD_boxA rfl rfl rfl ?_; intro b1; refine ⟨okF, ?_⟩)
  (refine RD_boxA rfl rfl rfl ?_; intro b2; refine ⟨okF, ?_⟩)
  (refine RD_alloc rfl rfl ?_; intro b3; refine ⟨okF, ?_⟩)
  repeat (first | (refine isR' ?_; refine whR ?_) | (refine isT' ?_; refine whT ?_) | (refine isN' ?_; refine whN ?_))
  (refine RD_callS rfl (rQAdd_ok (k := k) (m := m) hk ha hb) rfl rfl ?_; rintro _ _ _ ⟨rfl, e, rfl, he, rfl⟩; refine ⟨okF, ?_⟩)
  repeat (first | (refine isR' ?_; refine whR ?_) | (refine isT' ?_; refine whT ?_) | (refine isN' ?_; refine whN ?_))
  refine ND_retC (cs := eR e) (.inl rfl) rfl rfl memF rfl M0 (isR e (k + m + 1) :: I0) subF incF ⟨rfl, e, rfl, he, rfl⟩
set_option maxRecDepth 100000 in
theorem gSub_ok {a b : RE} {k m : Nat} (hk : k + m + 1 ≤ 100000000) (ha : Hv I0 (isR a k)) (hb : Hv I0 (isR b m)) :
    CD Tryz.prog 121 [rv a, rv b] X w0 M0 I0 (RQ (a.q - b.q) (k + m + 1) M0 I0) := by
  refine enterD2 Tryz.func121 rfl Tryz.ntmps121 rfl ?_
  refine TD_seq ?_
  refine TD_region ?_
  (refine RD_boxA rfl rfl rfl ?_; intro b1; refine ⟨okF, ?_⟩)
  (refine RD_boxA rfl rfl rfl ?_; intro b2; refine ⟨okF, ?_⟩)
  (refine RD_alloc rfl rfl ?_; intro b3; refine ⟨okF, ?_⟩)
  repeat (first | (refine isR' ?_; refine whR ?_) | (refine isT' ?_; refine whT ?_) | (refine isN' ?_; refine whN ?_))
  (refine RD_callS rfl (rQSub_ok (k := k) (m := m) hk ha hb) rfl rfl ?_; rintro _ _ _ ⟨rfl, e, rfl, he, rfl⟩; refine ⟨okF, ?_⟩)
  repeat (first | (refine isR' ?_; refine whR ?_) | (refine isT' ?_; refine whT ?_) | (refine isN' ?_; refine whN ?_))
  refine ND_retC (cs := eR e) (.inl rfl) rfl rfl memF rfl M0 (isR e (k + m + 1) :: I0) subF incF ⟨rfl, e, rfl, he, rfl⟩
set_option maxRecDepth 100000 in
theorem gMul_ok {a b : RE} {k m : Nat} (hk : k + m ≤ 100000000) (ha : Hv I0 (isR a k)) (hb : Hv I0 (isR b m)) :
    CD Tryz.prog 22 [rv a, rv b] X w0 M0 I0 (RQ (a.q * b.q) (k + m) M0 I0) := by
  refine enterD2 Tryz.func22 rfl Tryz.ntmps22 rfl ?_
  refine TD_seq ?_
  refine TD_region ?_
  (refine RD_boxA rfl rfl rfl ?_; intro b1; refine ⟨okF, ?_⟩)
  (refine RD_boxA rfl rfl rfl ?_; intro b2; refine ⟨okF, ?_⟩)
  (refine RD_alloc rfl rfl ?_; intro b3; refine ⟨okF, ?_⟩)
  repeat (first | (refine isR' ?_; refine whR ?_) | (refine isT' ?_; refine whT ?_) | (refine isN' ?_; refine whN ?_))
  (refine RD_callS rfl (rQMul_ok (k := k) (m := m) hk ha hb) rfl rfl ?_; rintro _ _ _ ⟨rfl, e, rfl, he, rfl⟩; refine ⟨okF, ?_⟩)
  repeat (first | (refine isR' ?_; refine whR ?_) | (refine isT' ?_; refine whT ?_) | (refine isN' ?_; refine whN ?_))
  refine ND_retC (cs := eR e) (.inl rfl) rfl rfl memF rfl M0 (isR e (k + m) :: I0) subF incF ⟨rfl, e, rfl, he, rfl⟩
set_option maxRecDepth 100000 in
theorem gDiv_ok {a b : RE} {k m : Nat} (hk : k + m ≤ 100000000) (hb0 : b.q ≠ 0) (ha : Hv I0 (isR a k)) (hb : Hv I0 (isR b m)) :
    CD Tryz.prog 110 [rv a, rv b] X w0 M0 I0 (RQ (a.q / b.q) (k + m) M0 I0) := by
  refine enterD2 Tryz.func110 rfl Tryz.ntmps110 rfl ?_
  refine TD_seq ?_
  refine TD_region ?_
  (refine RD_boxA rfl rfl rfl ?_; intro b1; refine ⟨okF, ?_⟩)
  (refine RD_boxA rfl rfl rfl ?_; intro b2; refine ⟨okF, ?_⟩)
  (refine RD_alloc rfl rfl ?_; intro b3; refine ⟨okF, ?_⟩)
  repeat (first | (refine isR' ?_; refine whR ?_) | (refine isT' ?_; refine whT ?_) | (refine isN' ?_; refine whN ?_))
  (refine RD_callS rfl (rQDivide_ok hk hb0 ha hb) rfl rfl ?_; rintro _ _ _ ⟨rfl, e, rfl, he, rfl⟩; refine ⟨okF, ?_⟩)
  repeat (first | (refine isR' ?_; refine whR ?_) | (refine isT' ?_; refine whT ?_) | (refine isN' ?_; refine whN ?_))
  (refine RD_alloc rfl rfl ?_; intro b5; refine ⟨okF, ?_⟩)
  repeat (first | (refine isR' ?_; refine whR ?_) | (refine isT' ?_; refine whT ?_) | (refine isN' ?_; refine whN ?_))
  refine ND_retC (cs := eR e) (.inl rfl) rfl rfl memF rfl M0 (isR e (k + m) :: I0) subF incF ⟨rfl, e, rfl, he, rfl⟩
set_option maxRecDepth 100000 in
theorem gZero_ok {a : RE} {k : Nat} (hk : k ≤ 100000000) (ha : Hv I0 (isR a k)) :
    CD Tryz.prog 27 [rv a] X w0 M0 I0 (fun v M I => M0 = M ∧ I0 = I ∧ v = .bool (B (a.q = 0))) := by
  refine enterD1 Tryz.func27 rfl Tryz.ntmps27 rfl ?_
  refine TD_seq ?_
  refine TD_region ?_
  (refine RD_boxA rfl rfl rfl ?_; intro b1; refine ⟨okF, ?_⟩)
  repeat (first | (refine isR' ?_; refine whR ?_) | (refine isT' ?_; refine whT ?_) | (refine isN' ?_; refine whN ?_))
  (refine RD_callS rfl (rQSign_ok hk ha) rfl rfl ?_; rintro _ _ _ ⟨rfl, rfl, rfl⟩; refine ⟨okF, ?_⟩)
  repeat (first | (refine isR' ?_; refine whR ?_) | (refine isT' ?_; refine whT ?_) | (refine isN' ?_; refine whN ?_))
  refine ND_ret1 (by first | exact .inl rfl | exact .inr rfl) rfl rfl _ _ subF incF (⟨rfl, rfl, congrArg Value.bool (B_congr sgn0)⟩)
set_option maxRecDepth 100000 in
theorem gPlace_ok {x y : Int} (hx : -9223372036854775808 ≤ x ∧ x ≤ 9223372036854775807) (hy : -9223372036854775808 ≤ y ∧ y ≤ 9223372036854775807) {k : Nat} (hk : x.natAbs ≤ 2 ^ k) (hm : y.natAbs ≤ 2 ^ k) :
    CD Tryz.prog 99 [.int .i64 x, .int .i64 y] X w0 M0 I0 (PQ ⟨(x : Rat), (y : Rat)⟩ k M0 I0) := by
  refine enterD2 Tryz.func99 rfl Tryz.ntmps99 rfl ?_
  refine TD_seq ?_
  refine TD_region ?_
  (refine RD_alloc rfl rfl ?_; intro b3; refine ⟨okF, ?_⟩)
  repeat (first | (refine isR' ?_; refine whR ?_) | (refine isT' ?_; refine whT ?_) | (refine isN' ?_; refine whN ?_))
  (refine RD_callS rfl (gRat_ok hx hk) rfl rfl ?_; rintro _ _ _ ⟨rfl, e1, rfl, he1, rfl⟩; refine ⟨okF, ?_⟩)
  repeat (first | (refine isR' ?_; refine whR ?_) | (refine isT' ?_; refine whT ?_) | (refine isN' ?_; refine whN ?_))
  (refine RD_callS rfl (gRat_ok hy hm) rfl rfl ?_; rintro _ _ _ ⟨rfl, e2, rfl, he2, rfl⟩; refine ⟨okF, ?_⟩)
  (refine RD_c rfl (fun _ => Const_structC (vals := [rv e1, rv e2]) (cells := eP ⟨e1, e2⟩) rfl ?hpl rfl ?hz) rfl rfl ?_; (case hpl => repeat (first | exact True.intro | refine ⟨rfl, ?_⟩)); (case hz => rfl))
  repeat (first | (refine isR' ?_; refine whR ?_) | (refine isT' ?_; refine whT ?_) | (refine isN' ?_; refine whN ?_))
  refine ND_closeP (a := e1) (b := e2) (k := k) hvY hvY ?_
  refine ND_retC (cs := eP ⟨e1, e2⟩) (.inl rfl) rfl rfl memF rfl M0 (isP ⟨e1, e2⟩ k :: I0) subF incF ⟨rfl, ⟨e1, e2⟩, rfl, by simp only [PE.v, he1, he2], rfl⟩
set_option maxRecDepth 100000 in
set_option maxHeartbeats 1000000 in
theorem gMinus_ok {a b : PE} {k m : Nat} (hk : k + m + 1 ≤ 100000000) (ha : Hv I0 (isP a k)) (hb : Hv I0 (isP b m)) :
    CD Tryz.prog 108 [pv a, pv b] X w0 M0 I0 (PQ (a.v.sub b.v) (k + m + 1) M0 I0) := by
  have h1 := fun M0 I0 => gSub_ok (X := X) (w0 := w0) (M0 := M0) (I0 := I0) (a := a.x) (b := b.x) (k := k) (m := m) (by omega)
  have h2 := fun M0 I0 => gSub_ok (X := X) (w0 := w0) (M0 := M0) (I0 := I0) (a := a.y) (b := b.y) (k := k) (m := m) (by omega)
  refine enterD2 Tryz.func108 rfl Tryz.ntmps108 rfl ?_
  refine TD_seq ?_
  refine TD_region ?_
  (refine RD_boxA rfl rfl rfl ?_; intro b1; refine ⟨okF, ?_⟩)
  (refine RD_boxA rfl rfl rfl ?_; intro b2; refine ⟨okF, ?_⟩)
  (refine RD_alloc rfl rfl ?_; intro b3; refine ⟨okF, ?_⟩)
  repeat (first | (refine isR' ?_; refine whR ?_) | (refine isT' ?_; refine whT ?_) | (refine isN' ?_; refine whN ?_))
  (repeat refine TD_seq ?_); refine TD_drawnW (.blk b2 (eP b) 28 :: .blk b1 (eP a) 28 :: M0) (I0) [0, 1, 2, 3, 5, 6, 7, 8, 4, 9, 10, 11] [2, 1, 2, 1, 2, 1, 2, 1, 0, 0, 0, 0] subF incF mixed (by kernel_rfl) ?_
  repeat (first | (refine isR' ?_; refine whR ?_) | (refine isT' ?_; refine whT ?_) | (refine isN' ?_; refine whN ?_))
  (refine RD_callS rfl (h1 _ _ ha.pxH hb.pxH) rfl rfl ?_; rintro _ _ _ ⟨rfl, e1, rfl, he1, rfl⟩; refine ⟨okF, ?_⟩)
  repeat (first | (refine isR' ?_; refine whR ?_) | (refine isT' ?_; refine whT ?_) | (refine isN' ?_; refine whN ?_))
  (refine RD_callS rfl (h2 _ _ ha.pyH.cons hb.pyH.cons) rfl rfl ?_; rintro _ _ _ ⟨rfl, e2, rfl, he2, rfl⟩; refine ⟨okF, ?_⟩)
  repeat (first | (refine isR' ?_; refine whR ?_) | (refine isT' ?_; refine whT ?_) | (refine isN' ?_; refine whN ?_))
  (refine RD_c rfl (fun _ => Const_structC (vals := [rv e1, rv e2]) (cells := eP ⟨e1, e2⟩) rfl ?hpl rfl ?hz) rfl rfl ?_; (case hpl => repeat (first | exact True.intro | refine ⟨rfl, ?_⟩)); (case hz => rfl))
  repeat (first | (refine isR' ?_; refine whR ?_) | (refine isT' ?_; refine whT ?_) | (refine isN' ?_; refine whN ?_))
  refine ND_closeP (a := e1) (b := e2) (k := k + m + 1) hvY hvY ?_
  refine ND_retC (cs := eP ⟨e1, e2⟩) (.inl rfl) rfl rfl memF rfl M0 (isP ⟨e1, e2⟩ (k + m + 1) :: I0) subF incF ⟨rfl, ⟨e1, e2⟩, rfl, by simp only [PE.v, V2.sub, he1, he2], rfl⟩
set_option maxRecDepth 100000 in
set_option maxHeartbeats 1000000 in
theorem gDot_ok {a b : PE} {k m : Nat} (hk : (k + m) + (k + m) + 1 ≤ 100000000) (ha : Hv I0 (isP a k)) (hb : Hv I0 (isP b m)) :
    CD Tryz.prog 30 [pv a, pv b] X w0 M0 I0 (RQ (a.v.dot b.v) ((k + m) + (k + m) + 1) M0 I0) := by
  have h1 := fun M0 I0 => gMul_ok (X := X) (w0 := w0) (M0 := M0) (I0 := I0) (a := a.x) (b := b.x) (k := k) (m := m) (by omega)
  have h2 := fun M0 I0 => gMul_ok (X := X) (w0 := w0) (M0 := M0) (I0 := I0) (a := a.y) (b := b.y) (k := k) (m := m) (by omega)
  have h3 := fun e1 e2 M0 I0 => gAdd_ok (X := X) (w0 := w0) (M0 := M0) (I0 := I0) (a := e1) (b := e2) (k := k + m) (m := k + m) hk
  refine enterD2 Tryz.func30 rfl Tryz.ntmps30 rfl ?_
  refine TD_seq ?_
  refine TD_region ?_
  (refine RD_boxA rfl rfl rfl ?_; intro b1; refine ⟨okF, ?_⟩)
  (refine RD_boxA rfl rfl rfl ?_; intro b2; refine ⟨okF, ?_⟩)
  (refine RD_alloc rfl rfl ?_; intro b3; refine ⟨okF, ?_⟩)
  repeat (first | (refine isR' ?_; refine whR ?_) | (refine isT' ?_; refine whT ?_) | (refine isN' ?_; refine whN ?_))
  (repeat refine TD_seq ?_); refine TD_drawnW (.blk b2 (eP b) 28 :: .blk b1 (eP a) 28 :: M0) (I0) [0, 1, 2, 3, 5, 6, 7, 8, 4, 9, 10, 11] [3, 2, 3, 2, 3, 2, 3, 2, 0, 0, 0, 0] subF incF mixed (by kernel_rfl) ?_
  repeat (first | (refine isR' ?_; refine whR ?_) | (refine isT' ?_; refine whT ?_) | (refine isN' ?_; refine whN ?_))
  (refine RD_callS rfl (h1 _ _ ha.pxH hb.pxH) rfl rfl ?_; rintro _ _ _ ⟨rfl, e1, rfl, he1, rfl⟩; refine ⟨okF, ?_⟩)
  repeat (first | (refine isR' ?_; refine whR ?_) | (refine isT' ?_; refine whT ?_) | (refine isN' ?_; refine whN ?_))
  (refine RD_callS rfl (h2 _ _ ha.pyH.cons hb.pyH.cons) rfl rfl ?_; rintro _ _ _ ⟨rfl, e2, rfl, he2, rfl⟩; refine ⟨okF, ?_⟩)
  repeat (first | (refine isR' ?_; refine whR ?_) | (refine isT' ?_; refine whT ?_) | (refine isN' ?_; refine whN ?_))
  (refine RD_callS rfl (h3 e1 e2 _ _ hvY hvY) rfl rfl ?_; rintro _ _ _ ⟨rfl, e3, rfl, he3, rfl⟩; refine ⟨okF, ?_⟩)
  repeat (first | (refine isR' ?_; refine whR ?_) | (refine isT' ?_; refine whT ?_) | (refine isN' ?_; refine whN ?_))
  refine ND_retC (cs := eR e3) (.inl rfl) rfl rfl memF rfl M0 (isR e3 ((k + m) + (k + m) + 1) :: I0) subF incF ⟨rfl, e3, rfl, by simp only [PE.v, V2.dot, he1, he2, he3], rfl⟩
set_option maxRecDepth 100000 in
set_option maxHeartbeats 1000000 in
theorem gCross_ok {a b : PE} {k m : Nat} (hk : (k + m) + (k + m) + 1 ≤ 100000000) (ha : Hv I0 (isP a k)) (hb : Hv I0 (isP b m)) :
    CD Tryz.prog 28 [pv a, pv b] X w0 M0 I0 (RQ (a.v.crs b.v) ((k + m) + (k + m) + 1) M0 I0) := by
  have h1 := fun M0 I0 => gMul_ok (X := X) (w0 := w0) (M0 := M0) (I0 := I0) (a := a.x) (b := b.y) (k := k) (m := m) (by omega)
  have h2 := fun M0 I0 => gMul_ok (X := X) (w0 := w0) (M0 := M0) (I0 := I0) (a := a.y) (b := b.x) (k := k) (m := m) (by omega)
  have h3 := fun e1 e2 M0 I0 => gSub_ok (X := X) (w0 := w0) (M0 := M0) (I0 := I0) (a := e1) (b := e2) (k := k + m) (m := k + m) hk
  refine enterD2 Tryz.func28 rfl Tryz.ntmps28 rfl ?_
  refine TD_seq ?_
  refine TD_region ?_
  (refine RD_boxA rfl rfl rfl ?_; intro b1; refine ⟨okF, ?_⟩)
  (refine RD_boxA rfl rfl rfl ?_; intro b2; refine ⟨okF, ?_⟩)
  (refine RD_alloc rfl rfl ?_; intro b3; refine ⟨okF, ?_⟩)
  repeat (first | (refine isR' ?_; refine whR ?_) | (refine isT' ?_; refine whT ?_) | (refine isN' ?_; refine whN ?_))
  (repeat refine TD_seq ?_); refine TD_drawnW (.blk b2 (eP b) 28 :: .blk b1 (eP a) 28 :: M0) (I0) [0, 1, 2, 3, 5, 6, 7, 8, 4, 9, 10, 11] [3, 2, 3, 2, 3, 2, 3, 2, 0, 0, 0, 0] subF incF mixed (by kernel_rfl) ?_
  repeat (first | (refine isR' ?_; refine whR ?_) | (refine isT' ?_; refine whT ?_) | (refine isN' ?_; refine whN ?_))
  (refine RD_callS rfl (h1 _ _ ha.pxH hb.pyH) rfl rfl ?_; rintro _ _ _ ⟨rfl, e1, rfl, he1, rfl⟩; refine ⟨okF, ?_⟩)
  repeat (first | (refine isR' ?_; refine whR ?_) | (refine isT' ?_; refine whT ?_) | (refine isN' ?_; refine whN ?_))
  (refine RD_callS rfl (h2 _ _ ha.pyH.cons hb.pxH.cons) rfl rfl ?_; rintro _ _ _ ⟨rfl, e2, rfl, he2, rfl⟩; refine ⟨okF, ?_⟩)
  repeat (first | (refine isR' ?_; refine whR ?_) | (refine isT' ?_; refine whT ?_) | (refine isN' ?_; refine whN ?_))
  (refine RD_callS rfl (h3 e1 e2 _ _ hvY hvY) rfl rfl ?_; rintro _ _ _ ⟨rfl, e3, rfl, he3, rfl⟩; refine ⟨okF, ?_⟩)
  repeat (first | (refine isR' ?_; refine whR ?_) | (refine isT' ?_; refine whT ?_) | (refine isN' ?_; refine whN ?_))
  refine ND_retC (cs := eR e3) (.inl rfl) rfl rfl memF rfl M0 (isR e3 ((k + m) + (k + m) + 1) :: I0) subF incF ⟨rfl, e3, rfl, by simp only [PE.v, V2.crs, he1, he2, he3], rfl⟩
set_option maxRecDepth 100000 in
set_option maxHeartbeats 1000000 in
theorem gSame_ok {a b : PE} {k m : Nat} (hk : k + m + 1 ≤ 100000000) (ha : Hv I0 (isP a k)) (hb : Hv I0 (isP b m)) :
    CD Tryz.prog 26 [pv a, pv b] X w0 M0 I0 (fun v M I => M0 = M ∧ I0 = I ∧ v = .bool (B (a.v = b.v))) := by
  have h1 := fun M0 I0 => rQCompare_ok (X := X) (w0 := w0) (M0 := M0) (I0 := I0) (a := a.x) (b := b.x) (k := k) (m := m) (by omega)
  have h2 := fun M0 I0 => rQCompare_ok (X := X) (w0 := w0) (M0 := M0) (I0 := I0) (a := a.y) (b := b.y) (k := k) (m := m) (by omega)
  have e3 : a.v = b.v ↔ (cmpR a.x.q b.x.q = 0 ∧ cmpR a.y.q b.y.q = 0) := by rw [cmpR_eq, cmpR_eq]; simp [PE.v]
  rw [B_congr e3]
  generalize cmpR a.x.q b.x.q = s1 at *
  generalize cmpR a.y.q b.y.q = s2 at *
  refine enterD2 Tryz.func26 rfl Tryz.ntmps26 rfl ?_
  refine TD_seq ?_
  refine TD_region ?_
  (refine RD_boxA rfl rfl rfl ?_; intro b1; refine ⟨okF, ?_⟩)
  (refine RD_boxA rfl rfl rfl ?_; intro b2; refine ⟨okF, ?_⟩)
  repeat (first | (refine isR' ?_; refine whR ?_) | (refine isT' ?_; refine whT ?_) | (refine isN' ?_; refine whN ?_))
  (refine RD_callS rfl (h1 _ _ ha.pxH hb.pxH) rfl rfl ?_; rintro _ _ _ ⟨rfl, rfl, rfl⟩; refine ⟨okF, ?_⟩)
  repeat' (first | (refine isR' ?_; refine whR ?_) | (refine isT' ?_; refine whT ?_) | (refine isN' ?_; refine whN ?_) | (refine TD_isCo ?_; first | refine TD_dec rfl (fun h => ?_) (fun h => ?_) | refine TD_cond rfl (fun h => ?_) (fun h => ?_)) | (refine RD_isGu ?_; first | refine RD_grd rfl rfl (fun h => ?_) (fun h => ?_) | (fail_if_success (refine RD_isW rfl ?_); refine RD_grdB rfl rfl (fun h => ?_) (fun h => ?_))))
  · (refine RD_callS rfl (h2 _ _ ha.pyH hb.pyH) rfl rfl ?_; rintro _ _ _ ⟨rfl, rfl, rfl⟩; refine ⟨okF, ?_⟩)
    repeat (first | (refine isR' ?_; refine whR ?_) | (refine isT' ?_; refine whT ?_) | (refine isN' ?_; refine whN ?_))
    refine ND_ret1 (by first | exact .inl rfl | exact .inr rfl) rfl rfl _ _ subF incF (⟨rfl, rfl, congrArg Value.bool (B_congr ⟨fun h2 => ⟨by omega, h2⟩, fun h2 => h2.2⟩)⟩)
  · refine ND_ret1 (by first | exact .inl rfl | exact .inr rfl) rfl rfl _ _ subF incF (⟨rfl, rfl, congrArg Value.bool (B_false (fun h2 => by omega)).symm⟩)
set_option maxRecDepth 100000 in
theorem Zero_z : CD Tryz.prog 19 [zR] X w0 M0 I0 (fun v M I => M0 = M ∧ I0 = I ∧ v = .bool true) := by
  refine enterD1 Tryz.func19 rfl Tryz.ntmps19 rfl ?_
  refine TD_seq ?_
  refine TD_region ?_
  (refine RD_boxA rfl rfl rfl ?_; intro b1; refine ⟨okF, ?_⟩)
  repeat (first | (refine isR' ?_; refine whR ?_) | (refine isT' ?_; refine whT ?_) | (refine isN' ?_; refine whN ?_))
  refine ND_ret1 (by first | exact .inl rfl | exact .inr rfl) rfl rfl _ _ subF incF (⟨rfl, rfl, congrArg Value.bool (B_true (by decide))⟩)
set_option maxRecDepth 100000 in
theorem Digits_raw {r : RW} (h : r.reach) : CD Tryz.prog 100 [wv r] X w0 M0 I0 (fun v M I => M0 = M ∧ I0 = I ∧ v = .int .i64 (r.g1.length + r.g2.length)) := by
  obtain ⟨h1, h2⟩ := h
  refine enterD1 Tryz.func100 rfl Tryz.ntmps100 rfl ?_
  refine TD_seq ?_
  refine TD_region ?_
  (refine RD_boxA rfl rfl rfl ?_; intro b1; refine ⟨okF, ?_⟩)
  repeat (first | (refine isR' ?_; refine whR ?_) | (refine isT' ?_; refine whT ?_) | (refine isN' ?_; refine whN ?_))
  refine ND_ret1 (by first | exact .inl rfl | exact .inr rfl) rfl rfl _ _ subF incF (⟨rfl, rfl, rfl⟩)
end
end Go.Proofs.YteghpnkhlfkigaaGreat
