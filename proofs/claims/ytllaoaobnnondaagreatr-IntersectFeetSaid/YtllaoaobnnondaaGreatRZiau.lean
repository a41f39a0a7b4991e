/- fiducialref01: Add, Sub, Mul, Of, Compare fiducialref01: Sub, Compare, Mul, Of fiducialref01: Of, pair, Gcd, Divide -/
import Derived.Test.YtllaoaobnnondaaGreatRZiat
import Derived.Test.YtllaoaobnnondaaGreatRZian
import Derived.Test.YtllaoaobnnondaaGreatRZiap
import Derived.Test.YtllaoaobnnondaaGreatRZiao
set_option linter.unusedSimpArgs false
set_option linter.unusedVariables false
namespace Go.Proofs.YtllaoaobnnondaaGreatR
open Go Go.Fx
section
variable {X : List Nat} {w0 : World} {M0 : List Ent} {I0 : List Imm}
set_option maxRecDepth 100000 in
theorem rAdd_ok {u v : Value} {y z : Int} {k m c : Nat} (hk : k ≤ 1000000000000) (hm : m ≤ 1000000000000) (hc0 : c ≤ 1000000000000) (hs : 2 ^ k + 2 ^ m ≤ 2 ^ c) (hu : isI u y k ∈ I0) (hv : isI v z m ∈ I0) : CD Tryz.prog 187 [u, v] X w0 M0 I0 (fun v M I => M0 = M ∧ I = isI v (y + z) c :: I0) := by
  refine CD_openI hu (fun q cq e hc hy => ?_)
  subst e
  refine CD_openI (List.Mem.tail _ hv) (fun q' cq' e hc' hz => ?_)
  subst e
  have hl := len_pow hy (by omega)
  have hl' := len_pow hz (by omega)
  have hyz : y.natAbs + z.natAbs ≤ 2 ^ c := Nat.le_trans (Nat.add_le_add hy hz) hs
  unfold iv
  have hP := fun p1 c1 p2 c2 M0 I0 => rplus_ok (X := X) (w0 := w0) (M0 := M0) (I0 := I0) (p := p1) (q := p2) (m := y.natAbs) (n := z.natAbs) (cp := c1) (cq := c2) (by omega) (by omega)
  have hC := fun p1 c1 p2 c2 M0 I0 => rsize_ok (X := X) (w0 := w0) (M0 := M0) (I0 := I0) (p := p1) (q := p2) (m := y.natAbs) (n := z.natAbs) (cp := c1) (cq := c2) (by omega) (by omega)
  have hMi := fun (hle : z.natAbs ≤ y.natAbs) p1 c1 p2 c2 M0 I0 => rminus_ok (X := X) (w0 := w0) (M0 := M0) (I0 := I0) (p := p1) (q := p2) (m := y.natAbs) (n := z.natAbs) (cp := c1) (cq := c2) (by omega) hle
  have hMi2 := fun (hle : y.natAbs ≤ z.natAbs) p1 c1 p2 c2 M0 I0 => rminus_ok (X := X) (w0 := w0) (M0 := M0) (I0 := I0) (p := p1) (q := p2) (m := z.natAbs) (n := y.natAbs) (cp := c1) (cq := c2) (by omega) hle
  have hMd := fun (p : Prop) [Decidable p] (n : Nat) (q : Option Addr) (c2 : Nat) (h1 : OkC q n c2) (h2 : n ≤ 2 ^ c) M0 I0 => rmade_ok (X := X) (w0 := w0) (M0 := M0) (I0 := I0) (p := p) (n := n) (q := q) (l := gr n) (c := c2) (k := c) (by have := len_pow h2 hc0; omega) h1.1 h1.2 (gr_dig _) (gr_val _) h2
  refine enterD2 Tryz.func187 rfl Tryz.ntmps187 rfl ?_
  refine TD_seq ?_
  refine TD_region ?_
  (refine RD_boxA rfl rfl rfl ?_; intro b; refine ⟨okF, ?_⟩)
  (refine RD_boxA rfl rfl rfl ?_; intro b2; refine ⟨okF, ?_⟩)
  (refine RD_alloc rfl rfl ?_; intro b3; refine ⟨okF, ?_⟩)
  repeat (refine wXf ?_)
  (repeat refine TD_seq ?_); refine TD_drawnJ 2 [0, 2, 1, 3, 4, 5] [1, 2, 0, 0, 0, 0] mixed (by kernel_rfl) ?_
  repeat (refine wXf ?_)
  (refine RD_callS rfl (rValue_ok hy hk hc memF) rfl rfl ?_; rintro _ _ _ ⟨rfl, q3, c3, rfl, hc3, rfl⟩; refine ⟨okF, ?_⟩)
  repeat (refine wXf ?_)
  (refine RD_callS rfl (rValue_ok hz hm hc' memF) rfl rfl ?_; rintro _ _ _ ⟨rfl, q4, c4, rfl, hc4, rfl⟩; refine ⟨okF, ?_⟩)
  by_cases hpq : (y < 0 ↔ z < 0)
  · have hM1 := fun q2 c2 (h : OkC q2 (y.natAbs + z.natAbs) c2) M0 I0 => hMd (y < 0) (y.natAbs + z.natAbs) q2 c2 h hyz M0 I0
    rw [sg_sum1 hpq, sg_self, sg_self] at hM1
    repeat (refine wXf ?_)
    (repeat refine TD_seq ?_); refine TD_drawnW (.blk b2 [.bool (B (z < 0)), .slice q4 (gr z.natAbs).length c4] 24 :: .blk b [.bool (B (y < 0)), .slice q3 (gr y.natAbs).length c3] 24 :: M0) (I0) [0, 1, 2, 3, 4, 5, 6, 7, 8] [2, 1, 2, 1, 2, 1, 0, 0, 0] subF incF mixed (by kernel_rfl) ?_
    repeat (refine wXf ?_)
    (refine RD_callS rfl (hP q3 c3 q4 c4 _ _ memF memF) rfl rfl ?_; rintro _ _ _ ⟨rfl, q5, c5, rfl, hc5, rfl⟩; refine ⟨okF, ?_⟩)
    (refine RD_callS rfl (hM1 q5 c5 hc5 _ _ memF) rfl rfl ?_; rintro _ _ _ ⟨rfl, rfl⟩; refine ⟨okF, ?_⟩; refine RD_openI (List.Mem.head _) (fun q6 c6 e__ hc6 hz6 => ?_); subst e__)
    unfold iv
    repeat (refine wXf ?_)
    refine ND_retC (cs := [.bool (B (y + z < 0)), .slice q6 (gr (y + z).natAbs).length c6]) (.inl rfl) rfl rfl memF rfl _ _ subF incF ⟨rfl, rfl⟩
  · by_cases hge : z.natAbs ≤ y.natAbs
    · have hM1 := fun q2 c2 (h : OkC q2 (y.natAbs - z.natAbs) c2) M0 I0 => hMd (y < 0) (y.natAbs - z.natAbs) q2 c2 h (by omega) M0 I0
      rw [sg_sum2 hpq hge, sg_self, sg_self] at hM1
      have hcv := cmpV_ge (x := (y.natAbs : Int)) (y := (z.natAbs : Int)) (by omega)
      generalize cmpV (y.natAbs : Int) (z.natAbs : Int) = cv at *
      have hMi := hMi hge
      clear hl hl' hyz hMi2
      repeat (refine wXf ?_)
      (refine RD_callS rfl (hC q3 c3 q4 c4 _ _ memF memF) rfl rfl ?_; rintro _ _ _ ⟨rfl, rfl, rfl⟩; refine ⟨okF, ?_⟩)
      repeat (refine wXf ?_)
      (repeat refine TD_seq ?_); refine TD_drawnW (.blk b2 [.bool (B (z < 0)), .slice q4 (gr z.natAbs).length c4] 24 :: .blk b [.bool (B (y < 0)), .slice q3 (gr y.natAbs).length c3] 24 :: M0) (I0) [0, 1, 2, 3, 4, 5, 6, 7, 8] [2, 1, 2, 1, 2, 1, 0, 0, 0] subF incF mixed (by kernel_rfl) ?_
      repeat (refine wXf ?_)
      (refine RD_callS rfl (hMi q3 c3 q4 c4 _ _ memF memF) rfl rfl ?_; rintro _ _ _ ⟨rfl, q5, c5, rfl, hc5, rfl⟩; refine ⟨okF, ?_⟩)
      (refine RD_callS rfl (hM1 q5 c5 hc5 _ _ memF) rfl rfl ?_; rintro _ _ _ ⟨rfl, rfl⟩; refine ⟨okF, ?_⟩; refine RD_openI (List.Mem.head _) (fun q6 c6 e__ hc6 hz6 => ?_); subst e__)
      unfold iv
      repeat (refine wXf ?_)
      refine ND_retC (cs := [.bool (B (y + z < 0)), .slice q6 (gr (y + z).natAbs).length c6]) (.inl rfl) rfl rfl memF rfl _ _ subF incF ⟨rfl, rfl⟩
    · have hM1 := fun q2 c2 (h : OkC q2 (z.natAbs - y.natAbs) c2) M0 I0 => hMd (z < 0) (z.natAbs - y.natAbs) q2 c2 h (by omega) M0 I0
      rw [sg_sum2 (fun h => hpq h.symm) (by omega), sg_self, sg_self, Int.add_comm] at hM1
      have hcv := cmpV_lt (x := (y.natAbs : Int)) (y := (z.natAbs : Int)) (by omega)
      generalize cmpV (y.natAbs : Int) (z.natAbs : Int) = cv at *
      subst hcv
      have hMi := hMi2 (by omega)
      clear hl hl' hyz hMi2
      repeat (refine wXf ?_)
      (refine RD_callS rfl (hC q3 c3 q4 c4 _ _ memF memF) rfl rfl ?_; rintro _ _ _ ⟨rfl, rfl, rfl⟩; refine ⟨okF, ?_⟩)
      repeat (refine wXf ?_)
      (repeat refine TD_seq ?_); refine TD_drawnW (.blk b2 [.bool (B (z < 0)), .slice q4 (gr z.natAbs).length c4] 24 :: .blk b [.bool (B (y < 0)), .slice q3 (gr y.natAbs).length c3] 24 :: M0) (I0) [0, 1, 2, 3, 4, 5, 6, 7, 8] [2, 1, 2, 1, 2, 1, 0, 0, 0] subF incF mixed (by kernel_rfl) ?_
      repeat (refine wXf ?_)
      (refine RD_callS rfl (hMi q4 c4 q3 c3 _ _ memF memF) rfl rfl ?_; rintro _ _ _ ⟨rfl, q5, c5, rfl, hc5, rfl⟩; refine ⟨okF, ?_⟩)
      (refine RD_callS rfl (hM1 q5 c5 hc5 _ _ memF) rfl rfl ?_; rintro _ _ _ ⟨rfl, rfl⟩; refine ⟨okF, ?_⟩; refine RD_openI (List.Mem.head _) (fun q6 c6 e__ hc6 hz6 => ?_); subst e__)
      unfold iv
      repeat (refine wXf ?_)
      refine ND_retC (cs := [.bool (B (y + z < 0)), .slice q6 (gr (y + z).natAbs).length c6]) (.inl rfl) rfl rfl memF rfl _ _ subF incF ⟨rfl, rfl⟩
end
end Go.Proofs.YtllaoaobnnondaaGreatR
namespace Go.Proofs.YtllaoaobnnondaaGreatR
open Go Go.Fx
theorem pow_sum (k m : Nat) : 2 ^ k + 2 ^ m ≤ 2 ^ (k + m + 1) := by
  have h1 : 2 ^ k ≤ 2 ^ (k + m) := Nat.pow_le_pow_right (by decide) (by omega)
  have h2 : 2 ^ m ≤ 2 ^ (k + m) := Nat.pow_le_pow_right (by decide) (by omega)
  rw [Nat.pow_succ]; omega
theorem cmp_sub (y z : Int) : (y - z).sign = cmpV y z := by
  unfold cmpV
  by_cases h1 : y < z
  · rw [if_pos h1]; exact Int.sign_eq_neg_one_of_neg (by omega)
  · rw [if_neg h1]
    by_cases h2 : z < y
    · rw [if_pos h2]; exact Int.sign_eq_one_of_pos (by omega)
    · rw [if_neg h2, show y - z = 0 by omega]; rfl
theorem sg_mul (y z : Int) : sg (¬ (y < 0 ↔ z < 0)) (y.natAbs * z.natAbs) = y * z := by
  unfold sg
  rw [Int.natCast_mul]
  by_cases h1 : y < 0 <;> by_cases h2 : z < 0 <;> simp only [h1, h2, not_true_eq_false, not_false_eq_true, iff_true, iff_false, if_true, if_false]
  · rw [show (y.natAbs : Int) = -y by omega, show (z.natAbs : Int) = -z by omega, Int.neg_mul_neg]
  · rw [show (y.natAbs : Int) = -y by omega, show (z.natAbs : Int) = z by omega, Int.neg_mul, Int.neg_neg]
  · rw [show (y.natAbs : Int) = y by omega, show (z.natAbs : Int) = -z by omega, Int.mul_neg, Int.neg_neg]
  · rw [show (y.natAbs : Int) = y by omega, show (z.natAbs : Int) = z by omega]
section
variable {X : List Nat} {w0 : World} {M0 : List Ent} {I0 : List Imm}
set_option maxRecDepth 100000 in
theorem rSub_ok {u v : Value} {y z : Int} {k m c : Nat} (hk : k ≤ 1000000000000) (hm : m ≤ 1000000000000) (hc0 : c ≤ 1000000000000) (hs : 2 ^ k + 2 ^ m ≤ 2 ^ c) (hu : isI u y k ∈ I0) (hv : isI v z m ∈ I0) : CD Tryz.prog 182 [u, v] X w0 M0 I0 (fun v M I => M0 = M ∧ I = isI v (y - z) c :: I0) := by
  refine CD_openI hu (fun q cq e hc hy => ?_)
  subst e
  refine CD_openI (List.Mem.tail _ hv) (fun q' cq' e hc' hz => ?_)
  subst e
  have hA := fun v M0 I0 => rAdd_ok (X := X) (w0 := w0) (M0 := M0) (I0 := I0) (u := iv q cq y) (v := v) (y := y) (z := -z) (k := k) (m := m) (c := c) hk hm hc0 hs
  rw [← Int.sub_eq_add_neg] at hA
  unfold iv at *
  refine enterD2 Tryz.func182 rfl Tryz.ntmps182 rfl ?_
  refine TD_seq ?_
  refine TD_region ?_
  (refine RD_boxA rfl rfl rfl ?_; intro b; refine ⟨okF, ?_⟩)
  (refine RD_boxA rfl rfl rfl ?_; intro b2; refine ⟨okF, ?_⟩)
  (refine RD_alloc rfl rfl ?_; intro b3; refine ⟨okF, ?_⟩)
  repeat (refine wXf ?_)
  (repeat refine TD_seq ?_); refine TD_drawnJ 2 [0, 1, 2, 3, 4] [1, 1, 0, 0, 0] mixed (by kernel_rfl) ?_
  repeat (refine wXf ?_)
  (refine RD_callS rfl (rNeg_ok hm memF) rfl rfl ?_; rintro _ _ _ ⟨rfl, rfl⟩; refine ⟨okF, ?_⟩)
  (refine RD_callS rfl (hA _ _ _ memF memF) rfl rfl ?_; rintro _ _ _ ⟨rfl, rfl⟩; refine ⟨okF, ?_⟩; refine RD_openI (List.Mem.head _) (fun q6 c6 e__ hc6 hz6 => ?_); subst e__)
  unfold iv
  repeat (refine wXf ?_)
  refine ND_retC (cs := [.bool (B (y - z < 0)), .slice q6 (gr (y - z).natAbs).length c6]) (.inl rfl) rfl rfl memF rfl _ _ subF incF ⟨rfl, rfl⟩
set_option maxRecDepth 100000 in
theorem rCompare_ok {u v : Value} {y z : Int} {k m : Nat} (hk : k ≤ 400000000000) (hm : m ≤ 400000000000) (hu : isI u y k ∈ I0) (hv : isI v z m ∈ I0) : CD Tryz.prog 102 [u, v] X w0 M0 I0 (fun v M I => M0 = M ∧ I0 = I ∧ v = .int .i64 (cmpV y z)) := by
  refine CD_openI hu (fun q cq e hc hy => ?_)
  subst e
  refine CD_openI (List.Mem.tail _ hv) (fun q' cq' e hc' hz => ?_)
  subst e
  have hS := fun M0 I0 => rSub_ok (X := X) (w0 := w0) (M0 := M0) (I0 := I0) (u := iv q cq y) (v := iv q' cq' z) (k := k) (m := m) (c := k + m + 1) (y := y) (z := z) (by omega) (by omega) (by omega) (pow_sum k m)
  rw [← cmp_sub]
  unfold iv at *
  refine enterD2 Tryz.func102 rfl Tryz.ntmps102 rfl ?_
  refine TD_seq ?_
  refine TD_region ?_
  (refine RD_boxA rfl rfl rfl ?_; intro b; refine ⟨okF, ?_⟩)
  (refine RD_boxA rfl rfl rfl ?_; intro b2; refine ⟨okF, ?_⟩)
  repeat (refine wXf ?_)
  (refine RD_callS rfl (hS _ _ memF memF) rfl rfl ?_; rintro _ _ _ ⟨rfl, rfl⟩; refine ⟨okF, ?_⟩)
  (refine RD_callS rfl (rSign_ok (k := k + m + 1) (by omega) memF) rfl rfl ?_; rintro _ _ _ ⟨rfl, rfl, rfl⟩; refine ⟨okF, ?_⟩)
  repeat (refine wXf ?_)
  refine ND_ret1 (by first | exact .inl rfl | exact .inr rfl) rfl rfl _ _ subF incF (⟨rfl, rfl, rfl⟩)
set_option maxRecDepth 100000 in
set_option maxHeartbeats 1000000 in
theorem rMul_ok {u v : Value} {y z : Int} {k0 m0 : Nat} (hk : k0 + m0 ≤ 1000000000000) (hu : isI u y k0 ∈ I0) (hv : isI v z m0 ∈ I0) : CD Tryz.prog 112 [u, v] X w0 M0 I0 (fun v M I => M0 = M ∧ I = isI v (y * z) (k0 + m0) :: I0) := by
  refine CD_openI hu (fun q cq e hc hy => ?_)
  subst e
  refine CD_openI (List.Mem.tail _ hv) (fun q' cq' e hc' hz => ?_)
  subst e
  have hl := len_pow hy (by omega)
  have hl' := len_pow hz (by omega)
  have hyz : y.natAbs * z.natAbs ≤ 2 ^ (k0 + m0) := nat_mul_pow hy hz
  have hl3 := len_pow hyz (by omega)
  unfold iv
  have hMd := fun (q : Option Addr) (l : List Int) (h0 : l.length ≤ 1000000000000) (c2 : Nat) (h1 : l.length ≤ c2) (h2 : Ok q) (h3 : Dig l) (h4 : val l = ((y.natAbs * z.natAbs : Nat) : Int)) M0 I0 => rmade_ok (X := X) (w0 := w0) (M0 := M0) (I0 := I0) (p := ¬ (y < 0 ↔ z < 0)) (n := y.natAbs * z.natAbs) (q := q) (l := l) (c := c2) (k := k0 + m0) h0 h1 (.inl h2) h3 h4 hyz
  rw [sg_mul] at hMd
  refine enterD2 Tryz.func112 rfl Tryz.ntmps112 rfl ?_
  refine TD_seq ?_
  refine TD_region ?_
  (refine RD_boxA rfl rfl rfl ?_; intro bx; refine ⟨okF, ?_⟩)
  (refine RD_boxA rfl rfl rfl ?_; intro bz; refine ⟨okF, ?_⟩)
  (refine RD_alloc rfl rfl ?_; intro b3; refine ⟨okF, ?_⟩)
  repeat (refine wXf ?_)
  (repeat refine TD_seq ?_); refine TD_drawnJ 2 [0, 2, 1, 3, 4, 5] [1, 2, 0, 0, 0, 0] mixed (by kernel_rfl) ?_
  repeat (refine wXf ?_)
  (refine RD_callS rfl (rValue_ok hy (by omega) hc memF) rfl rfl ?_; rintro _ _ _ ⟨rfl, q3, c3, rfl, hc3, rfl⟩; refine ⟨okF, ?_⟩)
  repeat (refine wXf ?_)
  (refine RD_callS rfl (rValue_ok hz (by omega) hc' memF) rfl rfl ?_; rintro _ _ _ ⟨rfl, q4, c4, rfl, hc4, rfl⟩; refine ⟨okF, ?_⟩)
  have da := gr_dig y.natAbs
  have db := gr_dig z.natAbs
  have va := gr_val y.natAbs
  have vb := gr_val z.natAbs
  clear hl3 hyz hc hc' hc3 hc4
  generalize ha : gr y.natAbs = a at *
  generalize hb : gr z.natAbs = b at *
  repeat (refine wXf ?_)
  (refine RD_makeX (a.length + b.length) rfl rfl (by omega) (by omega) (by omega) (by omega) (made_int _ _) rfl rfl ?_; intro bo; refine ⟨okF, ?_⟩)
  repeat (refine wXf ?_)
  refine TD_loop [2, 3, 4, 5] rfl (fun k G M I => ∃ (i : Nat) (o : List Int), i ≤ a.length ∧ k = a.length - i ∧ o.length = a.length + b.length ∧ Dig o ∧ val o = val (a.take i) * val b ∧ (∀ j : Nat, i + b.length ≤ j → o.getD j 0 = 0) ∧ G = [(6, .int .i64 i)] ∧ M = .blk bo (recs eG o) 166 :: .blk b3 [.bool false, .slice none 0 0] 24 :: .blk bz [.bool (B (z < 0)), .slice q4 b.length c4] 24 :: .blk bx [.bool (B (y < 0)), .slice q3 a.length c3] 24 :: M0 ∧ I = slI q4 (recs eG b) :: slI q3 (recs eG a) :: I0) (a.length) _ _ _ subG subF incF (⟨0, _, by omega, by omega, by simp, Dig.zeros _, by rw [val_zeros]; simp [val], fun j _ => by simp [List.getD, List.getElem?_replicate]; split <;> rfl, rfl, rfl, rfl⟩) ?_
  rintro k G M I ⟨i, o, hi, rfl, ho, hd, hv, hz, rfl, rfl, rfl⟩
  by_cases hia : i < a.length
  · have d1 := da.gt i
    repeat (refine wXf ?_)
    refine TD_loop [2, 3, 4, 5, 6] rfl (fun k G M I => ∃ (j : Nat) (u : List Int) (c : Int), j ≤ b.length ∧ k = b.length - j ∧ u.length = a.length + b.length ∧ Dig u ∧ (0 ≤ c ∧ c < 1000000000) ∧ val u + 1000000000 ^ (i + j) * c = val (a.take i) * val b + 1000000000 ^ i * (gt a i * val (b.take j)) ∧ (∀ j : Nat, i + b.length ≤ j → u.getD j 0 = 0) ∧ G = [(7, .int .u64 c), (8, .int .i64 j)] ∧ M = .blk bo (recs eG u) 166 :: .blk b3 [.bool false, .slice none 0 0] 24 :: .blk bz [.bool (B (z < 0)), .slice q4 b.length c4] 24 :: .blk bx [.bool (B (y < 0)), .slice q3 a.length c3] 24 :: M0 ∧ I = slI q4 (recs eG b) :: slI q3 (recs eG a) :: I0) (b.length) _ _ _ subG subF incF (⟨0, o, 0, by omega, by omega, ho, hd, by omega, by simp [val, hv], hz, rfl, rfl, rfl⟩) ?_
    rintro k G M I ⟨j, u, c, hj, rfl, hu, hdu, hc, hvu, hzu, rfl, rfl, rfl⟩
    by_cases hjb : j < b.length
    · have d2 := db.gt j
      have d3 := hdu.gt ((i : Int) + j)
      obtain ⟨d4, d5, d6⟩ := mul_small d1 d2 d3 hc
      have d7 : 0 ≤ gt a (i : Int) * gt b (j : Int) ∧ gt a (i : Int) * gt b (j : Int) ≤ 18446744073709551615 := by omega
      have e1 := tmod9 d5.1
      have e2 := tdiv9 d5.1
      have hst := mul_in (o := u) (b := b) (j := j) hvu (by omega)
      rw [← gtD, ← gtD] at hst
      rw [show (((i + j : Nat) : Int)) = (i : Int) + (j : Int) by omega] at hst
      obtain ⟨p, hp⟩ : ∃ p, p = gt a (i : Int) * gt b (j : Int) := ⟨_, rfl⟩
      obtain ⟨s, hs⟩ : ∃ s, s = (gt u ((i : Int) + (j : Int)) + gt a (i : Int) * gt b (j : Int) + c) % 1000000000 := ⟨_, rfl⟩
      obtain ⟨t, ht⟩ : ∃ t, t = (gt u ((i : Int) + (j : Int)) + gt a (i : Int) * gt b (j : Int) + c) / 1000000000 := ⟨_, rfl⟩
      rw [← hs] at e1 hst
      rw [← ht] at e2 hst d6
      have hs2 : 0 ≤ s ∧ s < 1000000000 := by omega
      clear hs ht hp
      repeat (refine wXf ?_)
      (repeat refine TD_seq ?_); refine TD_drawn [0, 1, 2, 3, 4, 5, 6, 7, 8, 9, 10, 11, 12, 13, 14, 15, 16, 17, 18, 19, 20, 21, 22, 23] [0, 0, 0, 0, 0, 0, 0, 0, 0, 0, 0, 0, 0, 0, 0, 0, 0, 0, 0, 0, 0, 0, 0, 0] mixed (by kernel_rfl) ?_
      repeat (refine wXf ?_)
      rw [e1]
      repeat (refine wXf ?_)
      rw [e2]
      refine ND_again (b.length - (j + 1)) _ _ _ (by first | omega | (simp only [List.length_append, List.length_cons, List.length_nil]; omega)) subG subF incF (⟨j + 1, _, t, by omega, rfl, by rw [st_len]; exact hu, ?_, d6, ?_, ?_, rfl, rfl, rfl⟩)
      · rw [st_add]; exact hdu.set _ hs2
      · rw [st_add]; exact hst
      · intro t ht
        rw [st_add, getD_set_ne' _ (by omega)]
        exact hzu t ht
    · have hjb : j = b.length := by omega
      subst hjb
      have hst := mul_out (o := u) (b := b) hvu (by omega) (hzu _ (Nat.le_refl _))
      repeat (refine wXf ?_)
      refine ND_again (a.length - (i + 1)) _ _ _ (by first | omega | (simp only [List.length_append, List.length_cons, List.length_nil]; omega)) subG subF incF (⟨i + 1, _, by omega, rfl, by rw [st_len]; exact hu, ?_, ?_, ?_, rfl, rfl, rfl⟩)
      · rw [st_add]; exact hdu.set _ hc
      · rw [st_add, hst, val_take_succ, gtD]
        rw [Int.add_mul, Int.mul_assoc]
      · intro t ht
        rw [st_add, getD_set_ne' _ (by omega)]
        exact hzu t (by omega)
  · have hiN : i = a.length := by omega
    subst hiN
    rw [List.take_length, va, vb] at hv
    have hM := fun M0 I0 => hMd (some ⟨bo, 0, none⟩) o (by omega) (a.length + b.length) (by omega) (Ok.mk _ _) hd (by rw [hv, Int.natCast_mul]) M0 I0
    rw [ho] at hM
    repeat (refine wXf ?_)
    refine RD_freezeB (b := bo) remF ?_
    (refine RD_callS rfl (hM _ _ memF) rfl rfl ?_; rintro _ _ _ ⟨rfl, rfl⟩; refine ⟨okF, ?_⟩; refine RD_openI (List.Mem.head _) (fun q6 c6 e__ hc6 hz6 => ?_); subst e__)
    unfold iv
    repeat (refine wXf ?_)
    refine ND_retC (cs := [.bool (B (y * z < 0)), .slice q6 (gr (y * z).natAbs).length c6]) (.inl rfl) rfl rfl memF rfl _ _ subF incF ⟨rfl, rfl⟩
end
end Go.Proofs.YtllaoaobnnondaaGreatR
namespace Go.Proofs.YtllaoaobnnondaaGreatR
open Go Go.Fx
section
variable {X : List Nat} {w0 : World} {M0 : List Ent} {I0 : List Imm}
set_option maxRecDepth 100000 in
theorem rOf_ok {x : Int} (hx : -9223372036854775808 ≤ x ∧ x ≤ 9223372036854775807) : CD Tryz.prog 186 [.int .i64 x] X w0 M0 I0 (fun v M I => M0 = M ∧ I = isI v x 63 :: I0) := by
  have hn : x.natAbs ≤ 2 ^ 63 := by omega
  have hMd := fun (q : Option Addr) (l : List Int) (h0 : l.length ≤ 1000000000000) (c2 : Nat) (h1 : l.length ≤ c2) (h2 : Ok q ∨ (l.length = 0 ∧ c2 = 0)) (h3 : Dig l) (h4 : val l = ((x.natAbs : Nat) : Int)) M0 I0 => rmade_ok (X := X) (w0 := w0) (M0 := M0) (I0 := I0) (p := x < 0) (n := x.natAbs) (q := q) (l := l) (c := c2) (k := 63) h0 h1 h2 h3 h4 hn
  rw [sg_self] at hMd
  have dA := gr_dig x.natAbs
  have vA := gr_val x.natAbs
  have hlA : (gr x.natAbs).length ≤ 3 := gr_len_le (by omega)
  have hgr : ∀ m : Nat, m ≠ 0 → gr m = ((m % 1000000000 : Nat) : Int) :: gr (m / 1000000000) := fun m h => gr_pos h
  refine enterD1 Tryz.func186 rfl Tryz.ntmps186 rfl ?_
  refine TD_seq ?_
  refine TD_region ?_
  (refine RD_alloc rfl rfl ?_; intro b; refine ⟨okF, ?_⟩)
  by_cases hx0 : x < 0
  · repeat (refine wXf ?_)
    refine RD_c rfl (fun _ => Const_conv rfl (wrap_neg (by omega))) rfl rfl ?_
    repeat (refine wXf ?_)
    all_goals
      (refine RD_vals (cs := recs eG []) ([]) rfl rfl (by intro v hv; repeat (first | exact absurd hv (List.not_mem_nil) | (rcases List.mem_cons.1 hv with rfl | hv; · rfl))) (by omega) rfl rfl rfl ?_; intro b1; refine ⟨okF, ?_⟩)
      repeat (refine wXf ?_)
      refine TD_toRow (b := b1) (mm := 0) 1 repF rfl (by omega) ?_
      refine TD_loop [0, 2] rfl (fun k G M I => ∃ (m : Nat) (ui : Int) (xs : List Int) (a : Option Addr) (c' : Nat), k = m ∧ ui = m ∧ m ≤ x.natAbs ∧ xs ++ gr m = gr x.natAbs ∧ G = [(3, .int .u64 ui), (4, .slice a xs.length c')] ∧ M = .row a xs.length c' (recs eG xs) 166 1 :: .blk b [.bool false, .slice none 0 0] 24 :: M0 ∧ I0 = I) (x.natAbs) _ _ _ subG subF incF (⟨x.natAbs, _, [], _, _, rfl, by omega, by omega, rfl, rfl, rfl, rfl⟩) ?_
      rintro k G M I ⟨m, ui, xs, a, c', rfl, hui, hm, hxs, rfl, rfl, rfl⟩
      have hlx : xs.length + (gr k).length ≤ 3 := by rw [← hxs] at hlA; simpa using hlA
      by_cases hk0 : k = 0
      · subst hk0
        rw [gr_zero, List.append_nil] at hxs
        subst hxs
        refine TD_fact (fun w hw => And.intro (hw.rowLe (List.Mem.head _)) ((hw.rowS (List.Mem.head _)).2.imp id And.right)) (fun ho3 => ?_)
        have hM := hMd a (gr x.natAbs) (by omega) c' ho3.1 ho3.2 dA vA
        repeat (refine wXf ?_)
        refine RD_freezeR remF ?_
        (refine RD_callS rfl (hM _ _ memF) rfl rfl ?_; rintro _ _ _ ⟨rfl, rfl⟩; refine ⟨okF, ?_⟩; refine RD_openI (List.Mem.head _) (fun q6 c6 e__ hc6 hz6 => ?_); subst e__)
        unfold iv
        repeat (refine wXf ?_)
        refine ND_retC (cs := [.bool (B (x < 0)), .slice q6 (gr x.natAbs).length c6]) (.inl rfl) rfl rfl memF rfl _ _ subF incF ⟨rfl, rfl⟩
      · have hgk := hgr k hk0
        have e1 := tmod9 (s := ui) (by omega)
        have e2 := tdiv9 (s := ui) (by omega)
        obtain ⟨s, hs⟩ : ∃ s, s = ui % 1000000000 := ⟨_, rfl⟩
        obtain ⟨t, ht⟩ : ∃ t, t = ui / 1000000000 := ⟨_, rfl⟩
        have hs1 : ((k % 1000000000 : Nat) : Int) = s := by omega
        have ht1 : ((k / 1000000000 : Nat) : Int) = t := by omega
        rw [hs1] at hgk
        rw [← hs] at e1
        rw [← ht] at e2
        have hs2 : 0 ≤ s ∧ s < 1000000000 := by omega
        have hl9 : (gr k).length = (gr (k / 1000000000)).length + 1 := by rw [hgk]; simp
        repeat (refine wXf ?_)
        rw [e1]
        repeat (refine wXf ?_)
        (refine RD_vals (cs := recs eG [s]) ([.int .u32 s]) rfl rfl (by intro v hv; repeat (first | exact absurd hv (List.not_mem_nil) | (rcases List.mem_cons.1 hv with rfl | hv; · rfl))) (by omega) rfl rfl rfl ?_; intro b2; refine ⟨okF, ?_⟩)
        (refine RD_appR (ys := [s]) 1 rfl rfl rfl ?_ (by decide) rfl (by omega) (by omega) rfl rfl ?_; (· first | exact Src.blk memF | exact Src.row memF | exact Src.imm memF (by first | assumption | exact .inl (Ok.mk _ _))); intro a2 c2; refine ⟨okF, ?_⟩)
        repeat (refine wXf ?_)
        rw [e2]
        refine ND_again (k / 1000000000) _ _ _ (by first | omega | (simp only [List.length_append, List.length_cons, List.length_nil]; omega)) subG subF incF (⟨k / 1000000000, t, xs ++ [s], a2, c2, rfl, ht1.symm, by omega, by rw [List.append_assoc]; rw [hgk] at hxs; exact hxs, rfl, rfl, rfl⟩)
  · repeat (refine wXf ?_)
    all_goals
      (refine RD_vals (cs := recs eG []) ([]) rfl rfl (by intro v hv; repeat (first | exact absurd hv (List.not_mem_nil) | (rcases List.mem_cons.1 hv with rfl | hv; · rfl))) (by omega) rfl rfl rfl ?_; intro b1; refine ⟨okF, ?_⟩)
      repeat (refine wXf ?_)
      refine TD_toRow (b := b1) (mm := 0) 1 repF rfl (by omega) ?_
      refine TD_loop [0, 2] rfl (fun k G M I => ∃ (m : Nat) (ui : Int) (xs : List Int) (a : Option Addr) (c' : Nat), k = m ∧ ui = m ∧ m ≤ x.natAbs ∧ xs ++ gr m = gr x.natAbs ∧ G = [(3, .int .u64 ui), (4, .slice a xs.length c')] ∧ M = .row a xs.length c' (recs eG xs) 166 1 :: .blk b [.bool false, .slice none 0 0] 24 :: M0 ∧ I0 = I) (x.natAbs) _ _ _ subG subF incF (⟨x.natAbs, _, [], _, _, rfl, by omega, by omega, rfl, rfl, rfl, rfl⟩) ?_
      rintro k G M I ⟨m, ui, xs, a, c', rfl, hui, hm, hxs, rfl, rfl, rfl⟩
      have hlx : xs.length + (gr k).length ≤ 3 := by rw [← hxs] at hlA; simpa using hlA
      by_cases hk0 : k = 0
      · subst hk0
        rw [gr_zero, List.append_nil] at hxs
        subst hxs
        refine TD_fact (fun w hw => And.intro (hw.rowLe (List.Mem.head _)) ((hw.rowS (List.Mem.head _)).2.imp id And.right)) (fun ho3 => ?_)
        have hM := hMd a (gr x.natAbs) (by omega) c' ho3.1 ho3.2 dA vA
        repeat (refine wXf ?_)
        refine RD_freezeR remF ?_
        (refine RD_callS rfl (hM _ _ memF) rfl rfl ?_; rintro _ _ _ ⟨rfl, rfl⟩; refine ⟨okF, ?_⟩; refine RD_openI (List.Mem.head _) (fun q6 c6 e__ hc6 hz6 => ?_); subst e__)
        unfold iv
        repeat (refine wXf ?_)
        refine ND_retC (cs := [.bool (B (x < 0)), .slice q6 (gr x.natAbs).length c6]) (.inl rfl) rfl rfl memF rfl _ _ subF incF ⟨rfl, rfl⟩
      · have hgk := hgr k hk0
        have e1 := tmod9 (s := ui) (by omega)
        have e2 := tdiv9 (s := ui) (by omega)
        obtain ⟨s, hs⟩ : ∃ s, s = ui % 1000000000 := ⟨_, rfl⟩
        obtain ⟨t, ht⟩ : ∃ t, t = ui / 1000000000 := ⟨_, rfl⟩
        have hs1 : ((k % 1000000000 : Nat) : Int) = s := by omega
        have ht1 : ((k / 1000000000 : Nat) : Int) = t := by omega
        rw [hs1] at hgk
        rw [← hs] at e1
        rw [← ht] at e2
        have hs2 : 0 ≤ s ∧ s < 1000000000 := by omega
        have hl9 : (gr k).length = (gr (k / 1000000000)).length + 1 := by rw [hgk]; simp
        repeat (refine wXf ?_)
        rw [e1]
        repeat (refine wXf ?_)
        (refine RD_vals (cs := recs eG [s]) ([.int .u32 s]) rfl rfl (by intro v hv; repeat (first | exact absurd hv (List.not_mem_nil) | (rcases List.mem_cons.1 hv with rfl | hv; · rfl))) (by omega) rfl rfl rfl ?_; intro b2; refine ⟨okF, ?_⟩)
        (refine RD_appR (ys := [s]) 1 rfl rfl rfl ?_ (by decide) rfl (by omega) (by omega) rfl rfl ?_; (· first | exact Src.blk memF | exact Src.row memF | exact Src.imm memF (by first | assumption | exact .inl (Ok.mk _ _))); intro a2 c2; refine ⟨okF, ?_⟩)
        repeat (refine wXf ?_)
        rw [e2]
        refine ND_again (k / 1000000000) _ _ _ (by first | omega | (simp only [List.length_append, List.length_cons, List.length_nil]; omega)) subG subF incF (⟨k / 1000000000, t, xs ++ [s], a2, c2, rfl, ht1.symm, by omega, by rw [List.append_assoc]; rw [hgk] at hxs; exact hxs, rfl, rfl, rfl⟩)
end
end Go.Proofs.YtllaoaobnnondaaGreatR
