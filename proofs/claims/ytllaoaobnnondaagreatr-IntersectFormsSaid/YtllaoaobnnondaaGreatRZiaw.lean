/- fiducialref02: reduced, Valid, Value, Whole, Sign, Neg fiducialref02: Add, Sub, Mul, Divide, Compare, Same -/
import Derived.Test.YtllaoaobnnondaaGreatRZiaq
import Derived.Test.YtllaoaobnnondaaGreatRZiav
import Derived.Test.YtllaoaobnnondaaGreatRZiao
set_option linter.unusedSimpArgs false
set_option linter.unusedVariables false
namespace Go.Proofs.YtllaoaobnnondaaGreatR
open Go Go.Fx
section
variable {X : List Nat} {w0 : World} {M0 : List Ent} {I0 : List Imm}
set_option maxRecDepth 100000 in
set_option maxHeartbeats 1000000 in
theorem rreduced_ok {u v : Value} {n d : Int} {k : Nat} (hk : k ≤ 500000000) (hd0 : d ≠ 0) (hu : isI u n k ∈ I0) (hv : isI v d k ∈ I0) :
    CD Tryz.prog 111 [u, v] X w0 M0 I0 (RQ (Rat.divInt n d) k M0 I0) := by
  have hS := fun M0 I0 => rSign_ok (X := X) (w0 := w0) (M0 := M0) (I0 := I0) (u := v) (z := d) (k := k) (by omega)
  refine CD_openI hu (fun q cq e hc hy => ?_)
  subst e
  refine CD_openI (List.Mem.tail _ hv) (fun q' cq' e hc' hz => ?_)
  subst e
  obtain ⟨r, hr⟩ : ∃ r, r = Rat.divInt n d := ⟨_, rfl⟩
  obtain ⟨g0, hg0⟩ : ∃ g : Int, g = (Int.gcd n d : Int) := ⟨_, rfl⟩
  obtain ⟨g, hg⟩ : ∃ g : Int, g = if d < 0 then -g0 else g0 := ⟨_, rfl⟩
  obtain ⟨e1, e2, e3⟩ := red_num (n := n) (d := d) (g := g) hd0 (by rw [hg, hg0])
  rw [← hr] at e1 e2 ⊢
  have hD1 := fun u v M0 I0 h1 h2 => rDivide_ok (X := X) (w0 := w0) (M0 := M0) (I0 := I0) (u := u) (v := v) (y := n) (z := g) (k := k) (m := k + k) (by omega) (by omega) e3 h1 h2
  have hD2 := fun u v M0 I0 h1 h2 => rDivide_ok (X := X) (w0 := w0) (M0 := M0) (I0 := I0) (u := u) (v := v) (y := d) (z := g) (k := k) (m := k + k) (by omega) (by omega) e3 h1 h2
  rw [e1] at hD1
  rw [e2] at hD2
  obtain ⟨f1, hf1⟩ : ∃ f : Int, f = n.fmod g := ⟨_, rfl⟩
  obtain ⟨f2, hf2⟩ : ∃ f : Int, f = d.fmod g := ⟨_, rfl⟩
  rw [← hf1] at hD1
  rw [← hf2] at hD2
  have hN := fun u M0 I0 => rNeg_ok (X := X) (w0 := w0) (M0 := M0) (I0 := I0) (u := u) (z := g0) (k := k + k) (by omega)
  have hG := fun u v M0 I0 => rGcd_ok (X := X) (w0 := w0) (M0 := M0) (I0 := I0) (u := u) (v := v) (y := n) (z := d) (k0 := k) (m := k) (by omega) (by omega)
  rw [← hg0] at hG
  clear e1 e2 hf1 hf2 hg0 hr
  by_cases hneg : d < 0
  · have hs : d.sign = -1 := Int.sign_eq_neg_one_of_neg hneg
    rw [hs] at hS
    rw [if_pos hneg] at hg
    rw [← hg] at hN
    clear hg hneg
    unfold iv at *
    refine enterD2 Tryz.func111 rfl Tryz.ntmps111 rfl ?_
    refine TD_seq ?_
    refine TD_region ?_
    (refine RD_boxA rfl rfl rfl ?_; intro b; refine ⟨okF, ?_⟩)
    (refine RD_boxA rfl rfl rfl ?_; intro b2; refine ⟨okF, ?_⟩)
    (refine RD_alloc rfl rfl ?_; intro b4; refine ⟨okF, ?_⟩)
    repeat (refine wXf ?_)
    (refine RD_callS rfl (hG _ _ _ _ memF memF) rfl rfl ?_; rintro _ _ _ ⟨rfl, rfl⟩; refine ⟨okF, ?_⟩; refine RD_openI (List.Mem.head _) (fun q3 c3 e__ hc3 hz3 => ?_); subst e__)
    unfold iv
    repeat (refine wXf ?_)
    (refine RD_alloc rfl rfl ?_; intro b5; refine ⟨okF, ?_⟩)
    repeat (refine wXf ?_)
    (refine RD_callS rfl (hS _ _ memF) rfl rfl ?_; rintro _ _ _ ⟨rfl, rfl, rfl⟩; refine ⟨okF, ?_⟩)
    repeat (refine wXf ?_)
    (refine RD_callS rfl (hN _ _ _ memF) rfl rfl ?_; rintro _ _ _ ⟨rfl, rfl⟩; refine ⟨okF, ?_⟩; refine RD_openI (List.Mem.head _) (fun q6 c6 e__ hc6 hz6 => ?_); subst e__)
    unfold iv
    repeat (refine wXf ?_)
    (refine RD_callS rfl (hD1 _ _ _ _ memF memF) rfl rfl ?_; rintro _ _ _ ⟨rfl, v1, v2, rfl, rfl⟩; refine ⟨okF, ?_⟩)
    refine RD_openI (u := v1) memF (fun q7 c7 e7 hc7 hz7 => ?_)
    subst e7
    refine RD_openI (u := v2) memF (fun q8 c8 e8 hc8 hz8 => ?_)
    subst e8
    unfold iv
    repeat (refine wXf ?_)
    (refine RD_alloc rfl rfl ?_; intro b6; refine ⟨okF, ?_⟩)
    (refine RD_alloc rfl rfl ?_; intro b7; refine ⟨okF, ?_⟩)
    repeat (refine wXf ?_)
    (refine RD_callS rfl (hD2 _ _ _ _ memF memF) rfl rfl ?_; rintro _ _ _ ⟨rfl, v3, v4, rfl, rfl⟩; refine ⟨okF, ?_⟩)
    refine RD_openI (u := v3) memF (fun q9 c9 e9 hc9 hz9 => ?_)
    subst e9
    refine RD_openI (u := v4) memF (fun q10 c10 e10 hc10 hz10 => ?_)
    subst e10
    unfold iv
    repeat (refine wXf ?_)
    (refine RD_alloc rfl rfl ?_; intro b8; refine ⟨okF, ?_⟩)
    (refine RD_alloc rfl rfl ?_; intro b9; refine ⟨okF, ?_⟩)
    repeat (refine wXf ?_)
    (refine RD_c rfl (fun _ => Const_struct (pvs := ([vI q7 c7 r.num, vI q9 c9 r.den]).zipIdx.map (fun p => (p.2, p.1))) (cells := eR ⟨r, q7, c7, q9, c9⟩) rfl rfl) rfl rfl ?_)
    repeat (refine wXf ?_)
    refine ND_closeR (q := r) (k := k) (p1 := q7) (c1 := c7) (p2 := q9) (c2 := c9) memF memF (Nat.le_refl _) (Nat.le_refl _) ?_
    refine ND_retC (cs := eR ⟨r, q7, c7, q9, c9⟩) (.inl rfl) rfl rfl memF rfl M0 (isR ⟨r, q7, c7, q9, c9⟩ k :: I0) subF incF ⟨rfl, ⟨r, q7, c7, q9, c9⟩, rfl, rfl, rfl⟩
  · have hs : d.sign = 1 := Int.sign_eq_one_of_pos (by omega)
    rw [hs] at hS
    rw [if_neg hneg] at hg
    rw [← hg] at hG
    clear hg hneg hN
    unfold iv at *
    refine enterD2 Tryz.func111 rfl Tryz.ntmps111 rfl ?_
    refine TD_seq ?_
    refine TD_region ?_
    (refine RD_boxA rfl rfl rfl ?_; intro b; refine ⟨okF, ?_⟩)
    (refine RD_boxA rfl rfl rfl ?_; intro b2; refine ⟨okF, ?_⟩)
    (refine RD_alloc rfl rfl ?_; intro b4; refine ⟨okF, ?_⟩)
    repeat (refine wXf ?_)
    (refine RD_callS rfl (hG _ _ _ _ memF memF) rfl rfl ?_; rintro _ _ _ ⟨rfl, rfl⟩; refine ⟨okF, ?_⟩; refine RD_openI (List.Mem.head _) (fun q3 c3 e__ hc3 hz3 => ?_); subst e__)
    unfold iv
    repeat (refine wXf ?_)
    (refine RD_alloc rfl rfl ?_; intro b5; refine ⟨okF, ?_⟩)
    repeat (refine wXf ?_)
    (refine RD_callS rfl (hS _ _ memF) rfl rfl ?_; rintro _ _ _ ⟨rfl, rfl, rfl⟩; refine ⟨okF, ?_⟩)
    repeat (refine wXf ?_)
    (refine RD_callS rfl (hD1 _ _ _ _ memF memF) rfl rfl ?_; rintro _ _ _ ⟨rfl, v1, v2, rfl, rfl⟩; refine ⟨okF, ?_⟩)
    refine RD_openI (u := v1) memF (fun q7 c7 e7 hc7 hz7 => ?_)
    subst e7
    refine RD_openI (u := v2) memF (fun q8 c8 e8 hc8 hz8 => ?_)
    subst e8
    unfold iv
    repeat (refine wXf ?_)
    (refine RD_alloc rfl rfl ?_; intro b6; refine ⟨okF, ?_⟩)
    (refine RD_alloc rfl rfl ?_; intro b7; refine ⟨okF, ?_⟩)
    repeat (refine wXf ?_)
    (refine RD_callS rfl (hD2 _ _ _ _ memF memF) rfl rfl ?_; rintro _ _ _ ⟨rfl, v3, v4, rfl, rfl⟩; refine ⟨okF, ?_⟩)
    refine RD_openI (u := v3) memF (fun q9 c9 e9 hc9 hz9 => ?_)
    subst e9
    refine RD_openI (u := v4) memF (fun q10 c10 e10 hc10 hz10 => ?_)
    subst e10
    unfold iv
    repeat (refine wXf ?_)
    (refine RD_alloc rfl rfl ?_; intro b8; refine ⟨okF, ?_⟩)
    (refine RD_alloc rfl rfl ?_; intro b9; refine ⟨okF, ?_⟩)
    repeat (refine wXf ?_)
    (refine RD_c rfl (fun _ => Const_struct (pvs := ([vI q7 c7 r.num, vI q9 c9 r.den]).zipIdx.map (fun p => (p.2, p.1))) (cells := eR ⟨r, q7, c7, q9, c9⟩) rfl rfl) rfl rfl ?_)
    repeat (refine wXf ?_)
    refine ND_closeR (q := r) (k := k) (p1 := q7) (c1 := c7) (p2 := q9) (c2 := c9) memF memF (Nat.le_refl _) (Nat.le_refl _) ?_
    refine ND_retC (cs := eR ⟨r, q7, c7, q9, c9⟩) (.inl rfl) rfl rfl memF rfl M0 (isR ⟨r, q7, c7, q9, c9⟩ k :: I0) subF incF ⟨rfl, ⟨r, q7, c7, q9, c9⟩, rfl, rfl, rfl⟩
theorem rwhole_ok {x : Int} (hx : -9223372036854775808 ≤ x ∧ x ≤ 9223372036854775807) : CD Tryz.prog 104 [.int .i64 x] X w0 M0 I0 (fun v M I => M0 = M ∧ I = isI v x 63 :: I0) := by
  refine enterD1 Tryz.func104 rfl Tryz.ntmps104 rfl ?_
  refine TD_seq ?_
  refine TD_region ?_
  (refine RD_alloc rfl rfl ?_; intro b2; refine ⟨okF, ?_⟩)
  repeat (refine wXf ?_)
  (refine RD_callS rfl (rOf_ok hx) rfl rfl ?_; rintro _ _ _ ⟨rfl, rfl⟩; refine ⟨okF, ?_⟩; refine RD_openI (List.Mem.head _) (fun q3 c3 e__ hc3 hz3 => ?_); subst e__)
  unfold iv
  repeat (refine wXf ?_)
  refine ND_retC (cs := [.bool (B (x < 0)), .slice q3 (gr x.natAbs).length c3]) (.inl rfl) rfl rfl memF rfl _ _ subF incF ⟨rfl, rfl⟩
set_option maxRecDepth 100000 in
theorem rVal_okI {u : Value} {z : Int} {k : Nat} (hk : k ≤ 1000000000000) (hu : isI u z k ∈ I0) :
    CD Tryz.prog 100 [u] X w0 M0 I0 (fun v M I => M0 = M ∧ I0 = I ∧ v = .bool true) := by
  refine CD.post (K := fun v M I => M0 = M ∧ (∃ q, slI q (recs eG (gr z.natAbs)) :: I0 = I) ∧ v = .bool true) (CD_openI hu (fun q c e hc hz => ?_)) (fun v M I w h hw => ?_)
  case refine_2 =>
    obtain ⟨e1, ⟨q, e2⟩, e3⟩ := h
    subst e1; subst e2
    exact ⟨_, _, ⟨rfl, rfl, e3⟩, hw.inc (Inc.wk Inc.refl)⟩
  subst e
  have hl := len_pow hz hk
  refine (rValid_ok (neg := B (z < 0)) (gs := gr z.natAbs) (by omega) (List.Mem.head _)).mono (fun v M I h => ⟨h.1, ⟨q, h.2.1⟩, ?_⟩)
  rw [h.2.2]
  exact congrArg Value.bool (B_true (can_of z))
set_option maxRecDepth 100000 in
theorem rValid_okR {e : RE} {k : Nat} (hk : k ≤ 100000000) (he : Hv I0 (isR e k)) :
    CD Tryz.prog 22 [rv e] X w0 M0 I0 (fun v M I => M0 = M ∧ I0 = I ∧ v = .bool true) := by
  refine CD.post (K := fun v M I => M0 = M ∧ isI (vI e.p1 e.c1 e.q.num) e.q.num k :: isI (vI e.p2 e.c2 e.q.den) e.q.den k :: I0 = I ∧ v = .bool true) (CD_openR he ?_) (fun v M I w h hw => ?_)
  case refine_2 =>
    obtain ⟨e1, e2, e3⟩ := h
    subst e1; subst e2
    exact ⟨_, _, ⟨rfl, rfl, e3⟩, hw.inc (Inc.wk (Inc.wk Inc.refl))⟩
  have hV1 := fun M0 I0 h => rVal_okI (X := X) (w0 := w0) (M0 := M0) (I0 := I0) (u := vI e.p1 e.c1 e.q.num) (z := e.q.num) (k := k) (by omega) h
  have hV2 := fun M0 I0 h => rVal_okI (X := X) (w0 := w0) (M0 := M0) (I0 := I0) (u := vI e.p2 e.c2 e.q.den) (z := e.q.den) (k := k) (by omega) h
  have hS := fun M0 I0 => rSign_ok (X := X) (w0 := w0) (M0 := M0) (I0 := I0) (u := vI e.p2 e.c2 e.q.den) (z := e.q.den) (k := k) (by omega)
  have hs : ((e.q.den : Int)).sign = 1 := Int.sign_eq_one_of_pos (by have := e.q.den_nz; omega)
  rw [hs] at hS
  have hG := fun M0 I0 => rGcd_ok (X := X) (w0 := w0) (M0 := M0) (I0 := I0) (u := vI e.p1 e.c1 e.q.num) (v := vI e.p2 e.c2 e.q.den) (y := e.q.num) (z := e.q.den) (k0 := k) (m := k) (by omega) (by omega)
  rw [rat_gcd] at hG
  have hC := fun u v M0 I0 => rCompare_ok (X := X) (w0 := w0) (M0 := M0) (I0 := I0) (u := u) (v := v) (y := 1) (z := 1) (k := k + k) (m := 63) (by omega) (by omega)
  have hc : cmpV 1 1 = 0 := by decide
  rw [hc] at hC
  refine enterD1 Tryz.func22 rfl Tryz.ntmps22 rfl ?_
  refine TD_seq ?_
  refine TD_region ?_
  (refine RD_boxA rfl rfl rfl ?_; intro b; refine ⟨okF, ?_⟩)
  repeat (refine wXf ?_)
  (refine RD_callS rfl (hV1 _ _ memF) rfl rfl ?_; rintro _ _ _ ⟨rfl, rfl, rfl⟩; refine ⟨okF, ?_⟩)
  repeat (refine wXf ?_)
  (refine RD_callS rfl (hV2 _ _ memF) rfl rfl ?_; rintro _ _ _ ⟨rfl, rfl, rfl⟩; refine ⟨okF, ?_⟩)
  repeat (refine wXf ?_)
  (refine RD_callS rfl (hS _ _ memF) rfl rfl ?_; rintro _ _ _ ⟨rfl, rfl, rfl⟩; refine ⟨okF, ?_⟩)
  repeat (refine wXf ?_)
  (refine RD_callS rfl (hG _ _ memF memF) rfl rfl ?_; rintro _ _ _ ⟨rfl, rfl⟩; refine ⟨okF, ?_⟩)
  repeat (refine wXf ?_)
  (refine RD_callS rfl (rwhole_ok (x := 1) (by decide)) rfl rfl ?_; rintro _ _ _ ⟨rfl, rfl⟩; refine ⟨okF, ?_⟩)
  (refine RD_callS rfl (hC _ _ _ _ memF memF) rfl rfl ?_; rintro _ _ _ ⟨rfl, rfl, rfl⟩; refine ⟨okF, ?_⟩)
  repeat (refine wXf ?_)
  refine ND_ret1 (by first | exact .inl rfl | exact .inr rfl) rfl rfl _ _ subF incF (⟨rfl, rfl, congrArg Value.bool (B_true (by decide))⟩)
set_option maxRecDepth 100000 in
theorem rQValue_ok {e : RE} {k : Nat} (hk : k ≤ 100000000) (he : Hv I0 (isR e k)) :
    CD Tryz.prog 106 [rv e] X w0 M0 I0 (fun v M I => M0 = M ∧ I0 = I ∧ v = rv e) := by
  refine enterD1 Tryz.func106 rfl Tryz.ntmps106 rfl ?_
  refine TD_seq ?_
  refine TD_region ?_
  (refine RD_boxA rfl rfl rfl ?_; intro b; refine ⟨okF, ?_⟩)
  (refine RD_alloc rfl rfl ?_; intro b2; refine ⟨okF, ?_⟩)
  repeat (refine wXf ?_)
  (refine RD_callS rfl (rValid_okR hk he) rfl rfl ?_; rintro _ _ _ ⟨rfl, rfl, rfl⟩; refine ⟨okF, ?_⟩)
  repeat (refine wXf ?_)
  refine ND_retC (cs := eR e) (.inl rfl) rfl rfl memF rfl M0 I0 subF incF ⟨rfl, rfl, rfl⟩
set_option maxRecDepth 100000 in
theorem rQWhole_ok {x : Int} (hx : -9223372036854775808 ≤ x ∧ x ≤ 9223372036854775807) {k : Nat} (hk : x.natAbs ≤ 2 ^ k) :
    CD Tryz.prog 32 [.int .i64 x] X w0 M0 I0 (RQ (x : Rat) k M0 I0) := by
  have hn : ((x : Rat)).num = x := Rat.num_intCast x
  have hd : (((x : Rat)).den : Int) = 1 := by rw [Rat.den_intCast]; rfl
  have h1 : (1 : Int).natAbs ≤ 2 ^ k := Nat.one_le_two_pow
  obtain ⟨q, hq⟩ : ∃ q : Rat, q = (x : Rat) := ⟨_, rfl⟩
  rw [← hq] at hn hd ⊢
  refine enterD1 Tryz.func32 rfl Tryz.ntmps32 rfl ?_
  refine TD_seq ?_
  refine TD_region ?_
  (refine RD_alloc rfl rfl ?_; intro b2; refine ⟨okF, ?_⟩)
  repeat (refine wXf ?_)
  (refine RD_callS rfl (rwhole_ok hx) rfl rfl ?_; rintro _ _ _ ⟨rfl, rfl⟩; refine ⟨okF, ?_⟩; refine RD_openI (List.Mem.head _) (fun q3 c3 e__ hc3 hz3 => ?_); subst e__)
  unfold iv
  refine RD_tightI (k2 := k) (z := x) (List.Mem.tail _ (List.Mem.head _)) hk ?_
  (refine RD_callS rfl (rwhole_ok (x := 1) (by decide)) rfl rfl ?_; rintro _ _ _ ⟨rfl, rfl⟩; refine ⟨okF, ?_⟩; refine RD_openI (List.Mem.head _) (fun q4 c4 e__ hc4 hz4 => ?_); subst e__)
  unfold iv
  refine RD_tightI (k2 := k) (z := 1) (List.Mem.tail _ (List.Mem.head _)) h1 ?_
  rw [← hn, ← hd]
  (refine RD_c rfl (fun _ => Const_struct (pvs := ([vI q3 c3 q.num, vI q4 c4 q.den]).zipIdx.map (fun p => (p.2, p.1))) (cells := eR ⟨q, q3, c3, q4, c4⟩) rfl rfl) rfl rfl ?_)
  repeat (refine wXf ?_)
  refine ND_closeR (q := q) (k := k) (p1 := q3) (c1 := c3) (p2 := q4) (c2 := c4) memF memF (Nat.le_refl _) (Nat.le_refl _) ?_
  refine ND_retC (cs := eR ⟨q, q3, c3, q4, c4⟩) (.inl rfl) rfl rfl memF rfl M0 (isR ⟨q, q3, c3, q4, c4⟩ k :: I0) subF incF ⟨rfl, ⟨q, q3, c3, q4, c4⟩, rfl, rfl, rfl⟩
set_option maxRecDepth 100000 in
theorem rQSign_ok {e : RE} {k : Nat} (hk : k ≤ 100000000) (he : Hv I0 (isR e k)) :
    CD Tryz.prog 25 [rv e] X w0 M0 I0 (fun v M I => M0 = M ∧ I0 = I ∧ v = .int .i64 e.q.num.sign) := by
  refine enterD1 Tryz.func25 rfl Tryz.ntmps25 rfl ?_
  refine TD_seq ?_
  refine TD_region ?_
  (refine RD_boxA rfl rfl rfl ?_; intro b; refine ⟨okF, ?_⟩)
  repeat (refine wXf ?_)
  (refine RD_callS rfl (rQValue_ok hk he) rfl rfl ?_; rintro _ _ _ ⟨rfl, rfl, rfl⟩; refine ⟨okF, ?_⟩)
  refine RD_c rfl (fun _ => Const_fieldN rfl) rfl rfl ?_
  refine RD_openR (e := e) (k := k) he ?_
  (refine RD_callS rfl (rSign_ok (z := e.q.num) (k := k) (by omega) memF) rfl rfl ?_; rintro _ _ _ ⟨rfl, rfl, rfl⟩; refine ⟨okF, ?_⟩)
  repeat (refine wXf ?_)
  refine ND_ret1 (by first | exact .inl rfl | exact .inr rfl) rfl rfl _ _ subF incF (⟨rfl, rfl, rfl⟩)
set_option maxRecDepth 100000 in
theorem rQNeg_ok {e : RE} {k : Nat} (hk : k ≤ 100000000) (he : Hv I0 (isR e k)) :
    CD Tryz.prog 132 [rv e] X w0 M0 I0 (RQ (-e.q) k M0 I0) := by
  have hN := fun M0 I0 => rNeg_ok (X := X) (w0 := w0) (M0 := M0) (I0 := I0) (u := vI e.p1 e.c1 e.q.num) (z := e.q.num) (k := k) (by omega)
  rw [← Rat.neg_num] at hN
  have hd : ((e.q.den : Int)) = ((-e.q).den : Int) := by rw [Rat.neg_den]
  refine enterD1 Tryz.func132 rfl Tryz.ntmps132 rfl ?_
  refine TD_seq ?_
  refine TD_region ?_
  (refine RD_boxA rfl rfl rfl ?_; intro b; refine ⟨okF, ?_⟩)
  (refine RD_alloc rfl rfl ?_; intro b2; refine ⟨okF, ?_⟩)
  repeat (refine wXf ?_)
  (refine RD_callS rfl (rQValue_ok hk he) rfl rfl ?_; rintro _ _ _ ⟨rfl, rfl, rfl⟩; refine ⟨okF, ?_⟩)
  refine RD_openR (e := e) (k := k) he ?_
  (refine RD_alloc rfl rfl ?_; intro b3; refine ⟨okF, ?_⟩)
  repeat (refine wXf ?_)
  (repeat refine TD_seq ?_); refine TD_drawnJ 1 [0, 1, 3, 4, 2, 5, 6] [1, 0, 1, 1, 0, 0, 0] mixed (by kernel_rfl) ?_
  repeat (refine wXf ?_)
  (refine RD_callS rfl (hN _ _ memF) rfl rfl ?_; rintro _ _ _ ⟨rfl, rfl⟩; refine ⟨okF, ?_⟩; refine RD_openI (List.Mem.head _) (fun q3 c3 e__ hc3 hz3 => ?_); subst e__)
  unfold iv
  rw [hd]
  (refine RD_c rfl (fun _ => Const_struct (pvs := ([vI q3 c3 (-e.q).num, vI e.p2 e.c2 (-e.q).den]).zipIdx.map (fun p => (p.2, p.1))) (cells := eR ⟨-e.q, q3, c3, e.p2, e.c2⟩) rfl rfl) rfl rfl ?_)
  repeat (refine wXf ?_)
  refine ND_closeR (q := -e.q) (k := k) (p1 := q3) (c1 := c3) (p2 := e.p2) (c2 := e.c2) memF memF (Nat.le_refl _) (Nat.le_refl _) ?_
  refine ND_retC (cs := eR ⟨-e.q, q3, c3, e.p2, e.c2⟩) (.inl rfl) rfl rfl memF rfl M0 (isR ⟨-e.q, q3, c3, e.p2, e.c2⟩ k :: I0) subF incF ⟨rfl, ⟨-e.q, q3, c3, e.p2, e.c2⟩, rfl, rfl, rfl⟩
end
end Go.Proofs.YtllaoaobnnondaaGreatR
namespace Go.Proofs.YtllaoaobnnondaaGreatR
open Go Go.Fx
theorem divInt_sign {n d : Int} (hd : 0 < d) : (Rat.divInt n d).num.sign = n.sign := by
  obtain ⟨m, hm, h1, h2, h3, h4⟩ := divInt_factor (n := n) (d := d) (by omega)
  have hm0 : 0 < m := by
    rcases Int.lt_trichotomy m 0 with h | h | h
    · have := h4.1 h; omega
    · exact absurd h hm
    · exact h
  have : n.sign = ((Rat.divInt n d).num * m).sign := congrArg Int.sign h1
  rw [this, Int.sign_mul, Int.sign_eq_one_of_pos hm0, Int.mul_one]
theorem sub_sign (p q : Rat) : (p - q).num.sign = cmpR p q := by
  rw [Rat.sub_eq_add_neg, add_divInt, divInt_sign (by rw [Rat.neg_den]; exact Int.mul_pos (den_pos p) (den_pos q)), Rat.neg_num, Rat.neg_den, Int.neg_mul, ← Int.sub_eq_add_neg, cmp_sub]
  rfl
section
variable {X : List Nat} {w0 : World} {M0 : List Ent} {I0 : List Imm}
set_option maxRecDepth 100000 in
set_option maxHeartbeats 1000000 in
theorem rQAdd_ok {a b : RE} {k m : Nat} (hk : k + m + 1 ≤ 100000000) (ha : Hv I0 (isR a k)) (hb : Hv I0 (isR b m)) :
    CD Tryz.prog 105 [rv a, rv b] X w0 M0 I0 (RQ (a.q + b.q) (k + m + 1) M0 I0) := by
  have hM1 := fun u v M0 I0 => rMul_ok (X := X) (w0 := w0) (M0 := M0) (I0 := I0) (u := u) (v := v) (y := a.q.num) (z := b.q.den) (k0 := k) (m0 := m) (by omega)
  have hM2 := fun u v M0 I0 => rMul_ok (X := X) (w0 := w0) (M0 := M0) (I0 := I0) (u := u) (v := v) (y := b.q.num) (z := a.q.den) (k0 := m) (m0 := k) (by omega)
  have hM3 := fun u v M0 I0 => rMul_ok (X := X) (w0 := w0) (M0 := M0) (I0 := I0) (u := u) (v := v) (y := a.q.den) (z := b.q.den) (k0 := k) (m0 := m) (by omega)
  have hA := fun u v M0 I0 => rAdd_ok (X := X) (w0 := w0) (M0 := M0) (I0 := I0) (u := u) (v := v) (y := a.q.num * b.q.den) (z := b.q.num * a.q.den) (k := k + m) (m := m + k) (c := k + m + 1) (by omega) (by omega) (by omega) (pow_dbl k m)
  have hR := fun u v M0 I0 => rreduced_ok (X := X) (w0 := w0) (M0 := M0) (I0 := I0) (u := u) (v := v) (n := a.q.num * b.q.den + b.q.num * a.q.den) (d := a.q.den * b.q.den) (k := k + m + 1) (by omega) (den_mul_ne _ _)
  rw [← add_divInt] at hR
  refine enterD2 Tryz.func105 rfl Tryz.ntmps105 rfl ?_
  refine TD_seq ?_
  refine TD_region ?_
  (refine RD_boxA rfl rfl rfl ?_; intro b1; refine ⟨okF, ?_⟩)
  (refine RD_boxA rfl rfl rfl ?_; intro b2; refine ⟨okF, ?_⟩)
  (refine RD_alloc rfl rfl ?_; intro b3; refine ⟨okF, ?_⟩)
  repeat (refine wXf ?_)
  (refine RD_callS rfl (rQValue_ok (k := k) (by omega) ha) rfl rfl ?_; rintro _ _ _ ⟨rfl, rfl, rfl⟩; refine ⟨okF, ?_⟩)
  (refine RD_alloc rfl rfl ?_; intro b4; refine ⟨okF, ?_⟩)
  repeat (refine wXf ?_)
  (refine RD_callS rfl (rQValue_ok (k := m) (by omega) hb) rfl rfl ?_; rintro _ _ _ ⟨rfl, rfl, rfl⟩; refine ⟨okF, ?_⟩)
  (refine RD_alloc rfl rfl ?_; intro b5; refine ⟨okF, ?_⟩)
  refine RD_openR (e := a) (k := k) ha ?_
  refine RD_openR (e := b) (k := m) hb.cons.cons ?_
  repeat (refine wXf ?_)
  (repeat refine TD_seq ?_); refine TD_drawnW (.blk b5 (eR b) 26 :: .blk b4 (eR a) 26 :: M0) (I0) [0, 1, 2, 3, 5, 6, 7, 8, 11, 12, 13, 14, 4, 9, 10, 15, 16, 17] [5, 4, 5, 4, 5, 4, 5, 4, 5, 4, 5, 4, 0, 0, 0, 0, 0, 0] subF incF mixed (by kernel_rfl) ?_
  repeat (refine wXf ?_)
  (refine RD_callS rfl (hM1 _ _ _ _ memF memF) rfl rfl ?_; rintro _ _ _ ⟨rfl, rfl⟩; refine ⟨okF, ?_⟩)
  (refine RD_callS rfl (hM2 _ _ _ _ memF memF) rfl rfl ?_; rintro _ _ _ ⟨rfl, rfl⟩; refine ⟨okF, ?_⟩)
  (refine RD_callS rfl (hA _ _ _ _ memF memF) rfl rfl ?_; rintro _ _ _ ⟨rfl, rfl⟩; refine ⟨okF, ?_⟩)
  (refine RD_callS rfl (hM3 _ _ _ _ memF memF) rfl rfl ?_; rintro _ _ _ ⟨rfl, rfl⟩; refine ⟨okF, ?_⟩)
  refine RD_monoI (k2 := k + m + 1) (List.Mem.head _) (by omega) ?_
  (refine RD_callS rfl (hR _ _ _ _ memF memF) rfl rfl ?_; rintro _ _ _ ⟨rfl, e, rfl, he, rfl⟩; refine ⟨okF, ?_⟩)
  repeat (refine wXf ?_)
  refine ND_retC (cs := eR e) (.inl rfl) rfl rfl memF rfl M0 (isR e (k + m + 1) :: I0) subF incF ⟨rfl, e, rfl, he, rfl⟩
set_option maxRecDepth 100000 in
set_option maxHeartbeats 1000000 in
theorem rQMul_ok {a b : RE} {k m : Nat} (hk : k + m ≤ 100000000) (ha : Hv I0 (isR a k)) (hb : Hv I0 (isR b m)) :
    CD Tryz.prog 30 [rv a, rv b] X w0 M0 I0 (RQ (a.q * b.q) (k + m) M0 I0) := by
  have hM1 := fun u v M0 I0 => rMul_ok (X := X) (w0 := w0) (M0 := M0) (I0 := I0) (u := u) (v := v) (y := a.q.num) (z := b.q.num) (k0 := k) (m0 := m) (by omega)
  have hM3 := fun u v M0 I0 => rMul_ok (X := X) (w0 := w0) (M0 := M0) (I0 := I0) (u := u) (v := v) (y := a.q.den) (z := b.q.den) (k0 := k) (m0 := m) (by omega)
  have hR := fun u v M0 I0 => rreduced_ok (X := X) (w0 := w0) (M0 := M0) (I0 := I0) (u := u) (v := v) (n := a.q.num * b.q.num) (d := a.q.den * b.q.den) (k := k + m) (by omega) (den_mul_ne _ _)
  rw [← mul_divInt] at hR
  refine enterD2 Tryz.func30 rfl Tryz.ntmps30 rfl ?_
  refine TD_seq ?_
  refine TD_region ?_
  (refine RD_boxA rfl rfl rfl ?_; intro b1; refine ⟨okF, ?_⟩)
  (refine RD_boxA rfl rfl rfl ?_; intro b2; refine ⟨okF, ?_⟩)
  (refine RD_alloc rfl rfl ?_; intro b3; refine ⟨okF, ?_⟩)
  repeat (refine wXf ?_)
  (refine RD_callS rfl (rQValue_ok (k := k) (by omega) ha) rfl rfl ?_; rintro _ _ _ ⟨rfl, rfl, rfl⟩; refine ⟨okF, ?_⟩)
  (refine RD_alloc rfl rfl ?_; intro b4; refine ⟨okF, ?_⟩)
  repeat (refine wXf ?_)
  (refine RD_callS rfl (rQValue_ok (k := m) (by omega) hb) rfl rfl ?_; rintro _ _ _ ⟨rfl, rfl, rfl⟩; refine ⟨okF, ?_⟩)
  (refine RD_alloc rfl rfl ?_; intro b5; refine ⟨okF, ?_⟩)
  refine RD_openR (e := a) (k := k) ha ?_
  refine RD_openR (e := b) (k := m) hb.cons.cons ?_
  repeat (refine wXf ?_)
  (repeat refine TD_seq ?_); refine TD_drawnW (.blk b5 (eR b) 26 :: .blk b4 (eR a) 26 :: M0) (I0) [0, 1, 2, 3, 5, 6, 7, 8, 4, 9, 10, 11] [3, 2, 3, 2, 3, 2, 3, 2, 0, 0, 0, 0] subF incF mixed (by kernel_rfl) ?_
  repeat (refine wXf ?_)
  (refine RD_callS rfl (hM1 _ _ _ _ memF memF) rfl rfl ?_; rintro _ _ _ ⟨rfl, rfl⟩; refine ⟨okF, ?_⟩)
  (refine RD_callS rfl (hM3 _ _ _ _ memF memF) rfl rfl ?_; rintro _ _ _ ⟨rfl, rfl⟩; refine ⟨okF, ?_⟩)
  (refine RD_callS rfl (hR _ _ _ _ memF memF) rfl rfl ?_; rintro _ _ _ ⟨rfl, e, rfl, he, rfl⟩; refine ⟨okF, ?_⟩)
  repeat (refine wXf ?_)
  refine ND_retC (cs := eR e) (.inl rfl) rfl rfl memF rfl M0 (isR e (k + m) :: I0) subF incF ⟨rfl, e, rfl, he, rfl⟩
set_option maxRecDepth 100000 in
theorem rQSub_ok {a b : RE} {k m : Nat} (hk : k + m + 1 ≤ 100000000) (ha : Hv I0 (isR a k)) (hb : Hv I0 (isR b m)) :
    CD Tryz.prog 110 [rv a, rv b] X w0 M0 I0 (RQ (a.q - b.q) (k + m + 1) M0 I0) := by
  refine enterD2 Tryz.func110 rfl Tryz.ntmps110 rfl ?_
  refine TD_seq ?_
  refine TD_region ?_
  (refine RD_boxA rfl rfl rfl ?_; intro b1; refine ⟨okF, ?_⟩)
  (refine RD_boxA rfl rfl rfl ?_; intro b2; refine ⟨okF, ?_⟩)
  (refine RD_alloc rfl rfl ?_; intro b3; refine ⟨okF, ?_⟩)
  repeat (refine wXf ?_)
  (repeat refine TD_seq ?_); refine TD_drawnJ 1 [0, 1, 2, 3, 4] [1, 1, 0, 0, 0] mixed (by kernel_rfl) ?_
  repeat (refine wXf ?_)
  (refine RD_callS rfl (rQNeg_ok (k := m) (by omega) hb) rfl rfl ?_; rintro _ _ _ ⟨rfl, y, rfl, hy, rfl⟩; refine ⟨okF, ?_⟩)
  rw [Rat.sub_eq_add_neg, ← hy]
  (refine RD_callS rfl (rQAdd_ok hk ha.cons (Hv.mem (List.Mem.head _))) rfl rfl ?_; rintro _ _ _ ⟨rfl, e, rfl, he, rfl⟩; refine ⟨okF, ?_⟩)
  repeat (refine wXf ?_)
  refine ND_retC (cs := eR e) (.inl rfl) rfl rfl memF rfl M0 (isR e (k + m + 1) :: I0) subF incF ⟨rfl, e, rfl, he, rfl⟩
set_option maxRecDepth 100000 in
theorem rNew_ok {u v : Value} {n d : Int} {k : Nat} (hk : k ≤ 500000000) (hd0 : d ≠ 0) (hu : isI u n k ∈ I0) (hv : isI v d k ∈ I0) :
    CD Tryz.prog 188 [u, v] X w0 M0 I0 (RQc (Rat.divInt n d) k M0 I0) := by
  have hs0 : ¬ d.sign = 0 := fun h => hd0 (Int.sign_eq_zero_iff_zero.1 h)
  have hS := fun M0 I0 => rSign_ok (X := X) (w0 := w0) (M0 := M0) (I0 := I0) (u := v) (z := d) (k := k) (by omega)
  have hR := fun M0 I0 => rreduced_ok (X := X) (w0 := w0) (M0 := M0) (I0 := I0) (u := u) (v := v) (n := n) (d := d) (k := k) (by omega) hd0
  generalize d.sign = sd at *
  refine CD.post (K := fun v M I => ∃ q q', RQc (Rat.divInt n d) k M0 (slI q' (recs eG (gr d.natAbs)) :: slI q (recs eG (gr n.natAbs)) :: I0) v M I) (CD_openI hu (fun q cq e hc hy => ?_)) (fun v M I w h hw => ?_)
  case refine_2 =>
    obtain ⟨q, q', e1, e2, h2, h3, h4⟩ := h
    subst e1; subst h4
    exact ⟨_, _, ⟨rfl, e2, h2, h3, rfl⟩, hw.inc (Inc.cons (List.Mem.head _) (Inc.wk (Inc.wk (Inc.wk Inc.refl))))⟩
  subst e
  refine CD_openI (List.Mem.tail _ hv) (fun q' cq' e hc' hz => ?_)
  subst e
  unfold iv at *
  refine enterD2 Tryz.func188 rfl Tryz.ntmps188 rfl ?_
  refine TD_seq ?_
  refine TD_region ?_
  (refine RD_boxA rfl rfl rfl ?_; intro b1; refine ⟨okF, ?_⟩)
  (refine RD_boxA rfl rfl rfl ?_; intro b2; refine ⟨okF, ?_⟩)
  (refine RD_alloc rfl rfl ?_; intro b3; refine ⟨okF, ?_⟩)
  repeat (refine wXf ?_)
  (refine RD_callS rfl (hS _ _ memF) rfl rfl ?_; rintro _ _ _ ⟨rfl, rfl, rfl⟩; refine ⟨okF, ?_⟩)
  repeat (refine wXf ?_)
  (refine RD_callS rfl (hR _ _ memF memF) rfl rfl ?_; rintro _ _ _ ⟨rfl, e, rfl, he, rfl⟩; refine ⟨okF, ?_⟩)
  repeat (refine wXf ?_)
  refine ND_retsC (rs := [.cell 4 26, .tmp 5]) (vs := [rv e, .int .i64 0]) (.inl rfl) rfl (.cellN (cs := eR e) inferInstance rfl memF rfl (.tmp rfl .nil)) rfl M0 (isR e k :: slI q' (recs eG (gr d.natAbs)) :: slI q (recs eG (gr n.natAbs)) :: I0) subF incF ⟨q, q', rfl, e, rfl, he, rfl⟩
set_option maxRecDepth 100000 in
set_option maxHeartbeats 1000000 in
theorem rQDivide_ok {a b : RE} {k m : Nat} (hk : k + m ≤ 100000000) (hb0 : b.q ≠ 0) (ha : Hv I0 (isR a k)) (hb : Hv I0 (isR b m)) :
    CD Tryz.prog 109 [rv a, rv b] X w0 M0 I0 (RQc (a.q / b.q) (k + m) M0 I0) := by
  have hM1 := fun u v M0 I0 => rMul_ok (X := X) (w0 := w0) (M0 := M0) (I0 := I0) (u := u) (v := v) (y := a.q.num) (z := b.q.den) (k0 := k) (m0 := m) (by omega)
  have hM3 := fun u v M0 I0 => rMul_ok (X := X) (w0 := w0) (M0 := M0) (I0 := I0) (u := u) (v := v) (y := a.q.den) (z := b.q.num) (k0 := k) (m0 := m) (by omega)
  have hR := fun u v M0 I0 => rNew_ok (X := X) (w0 := w0) (M0 := M0) (I0 := I0) (u := u) (v := v) (n := a.q.num * b.q.den) (d := a.q.den * b.q.num) (k := k + m) (by omega) (den_num_ne hb0)
  rw [← div_divInt] at hR
  refine enterD2 Tryz.func109 rfl Tryz.ntmps109 rfl ?_
  refine TD_seq ?_
  refine TD_region ?_
  (refine RD_boxA rfl rfl rfl ?_; intro b1; refine ⟨okF, ?_⟩)
  (refine RD_boxA rfl rfl rfl ?_; intro b2; refine ⟨okF, ?_⟩)
  (refine RD_alloc rfl rfl ?_; intro b3; refine ⟨okF, ?_⟩)
  repeat (refine wXf ?_)
  (refine RD_callS rfl (rQValue_ok (k := k) (by omega) ha) rfl rfl ?_; rintro _ _ _ ⟨rfl, rfl, rfl⟩; refine ⟨okF, ?_⟩)
  (refine RD_alloc rfl rfl ?_; intro b4; refine ⟨okF, ?_⟩)
  repeat (refine wXf ?_)
  (refine RD_callS rfl (rQValue_ok (k := m) (by omega) hb) rfl rfl ?_; rintro _ _ _ ⟨rfl, rfl, rfl⟩; refine ⟨okF, ?_⟩)
  (refine RD_alloc rfl rfl ?_; intro b5; refine ⟨okF, ?_⟩)
  refine RD_openR (e := a) (k := k) ha ?_
  refine RD_openR (e := b) (k := m) hb.cons.cons ?_
  repeat (refine wXf ?_)
  (repeat refine TD_seq ?_); refine TD_drawnW (.blk b5 (eR b) 26 :: .blk b4 (eR a) 26 :: M0) (I0) [0, 1, 2, 3, 5, 6, 7, 8, 4, 9, 10, 11, 12, 13, 14] [3, 2, 3, 2, 3, 2, 3, 2, 0, 0, 0, 0, 0, 0, 0] subF incF mixed (by kernel_rfl) ?_
  repeat (refine wXf ?_)
  (refine RD_callS rfl (hM1 _ _ _ _ memF memF) rfl rfl ?_; rintro _ _ _ ⟨rfl, rfl⟩; refine ⟨okF, ?_⟩)
  (refine RD_callS rfl (hM3 _ _ _ _ memF memF) rfl rfl ?_; rintro _ _ _ ⟨rfl, rfl⟩; refine ⟨okF, ?_⟩)
  (refine RD_callS rfl (hR _ _ _ _ memF memF) rfl rfl ?_; rintro _ _ _ ⟨rfl, e, rfl, he, rfl⟩; refine ⟨okF, ?_⟩)
  repeat (refine wXf ?_)
  refine ND_retsC (rs := [.cell 4 26, .tmp 5]) (vs := [rv e, .int .i64 0]) (.inl rfl) rfl (.cellN (cs := eR e) inferInstance rfl memF rfl (.tmp rfl .nil)) rfl M0 (isR e (k + m) :: I0) subF incF ⟨rfl, e, rfl, he, rfl⟩
set_option maxRecDepth 100000 in
theorem rQCompare_ok {a b : RE} {k m : Nat} (hk : k + m + 1 ≤ 100000000) (ha : Hv I0 (isR a k)) (hb : Hv I0 (isR b m)) :
    CD Tryz.prog 31 [rv a, rv b] X w0 M0 I0 (fun v M I => M0 = M ∧ I0 = I ∧ v = .int .i64 (cmpR a.q b.q)) := by
  refine enterD2 Tryz.func31 rfl Tryz.ntmps31 rfl ?_
  refine TD_seq ?_
  refine TD_region ?_
  (refine RD_boxA rfl rfl rfl ?_; intro b1; refine ⟨okF, ?_⟩)
  (refine RD_boxA rfl rfl rfl ?_; intro b2; refine ⟨okF, ?_⟩)
  repeat (refine wXf ?_)
  (refine RD_callS rfl (rQSub_ok hk ha hb) rfl rfl ?_; rintro _ _ _ ⟨rfl, e, rfl, he, rfl⟩; refine ⟨okF, ?_⟩)
  (refine RD_callS rfl (rQSign_ok (k := k + m + 1) (by omega) (Hv.mem (List.Mem.head _))) rfl rfl ?_; rintro _ _ _ ⟨rfl, rfl, rfl⟩; refine ⟨okF, ?_⟩)
  repeat (refine wXf ?_)
  refine ND_ret1 (by first | exact .inl rfl | exact .inr rfl) rfl rfl _ _ subF incF (⟨rfl, rfl, by rw [he, sub_sign]⟩)
set_option maxRecDepth 100000 in
theorem rSame_ok {a b : RE} {k m : Nat} (hk : k + m + 1 ≤ 100000000) (ha : Hv I0 (isR a k)) (hb : Hv I0 (isR b m)) :
    CD Tryz.prog 20 [rv a, rv b] X w0 M0 I0 (fun v M I => M0 = M ∧ I0 = I ∧ v = .bool (B (a.q = b.q))) := by
  refine enterD2 Tryz.func20 rfl Tryz.ntmps20 rfl ?_
  refine TD_seq ?_
  refine TD_region ?_
  (refine RD_boxA rfl rfl rfl ?_; intro b1; refine ⟨okF, ?_⟩)
  (refine RD_boxA rfl rfl rfl ?_; intro b2; refine ⟨okF, ?_⟩)
  repeat (refine wXf ?_)
  (refine RD_callS rfl (rValid_okR (k := k) (by omega) ha) rfl rfl ?_; rintro _ _ _ ⟨rfl, rfl, rfl⟩; refine ⟨okF, ?_⟩)
  repeat (refine wXf ?_)
  (refine RD_callS rfl (rValid_okR (k := m) (by omega) hb) rfl rfl ?_; rintro _ _ _ ⟨rfl, rfl, rfl⟩; refine ⟨okF, ?_⟩)
  repeat (refine wXf ?_)
  (refine RD_callS rfl (rQCompare_ok hk ha hb) rfl rfl ?_; rintro _ _ _ ⟨rfl, rfl, rfl⟩; refine ⟨okF, ?_⟩)
  repeat (refine wXf ?_)
  refine ND_ret1 (by first | exact .inl rfl | exact .inr rfl) rfl rfl _ _ subF incF (⟨rfl, rfl, congrArg Value.bool (B_congr cmpR_eq)⟩)
end
end Go.Proofs.YtllaoaobnnondaaGreatR
