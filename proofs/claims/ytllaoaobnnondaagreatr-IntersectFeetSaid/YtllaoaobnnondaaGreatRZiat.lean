/- fiducialref01: short, parts fiducialref01: parts fiducialref01: the numbers: Valid, Value, Neg, Sign, Add, Sub, Mul, Compare -/
import Derived.Test.YtllaoaobnnondaaGreatRZias
import Derived.Test.YtllaoaobnnondaaGreatRZiam
import Derived.Test.YtllaoaobnnondaaGreatRZiao
import Derived.Test.YtllaoaobnnondaaGreatRZial
set_option linter.unusedSimpArgs false
set_option linter.unusedVariables false
namespace Go.Proofs.YtllaoaobnnondaaGreatR
open Go Go.Fx
theorem gr_digit {n i : Nat} : 0 ≤ gt (gr n) (i : Int) ∧ gt (gr n) (i : Int) < 1000000000 := (gr_dig n).gt i
theorem Ok_cut {a : Option Addr} {c l sz : Nat} (h : Ok a) : Ok (cutA a c l sz) := by
  obtain ⟨b, o, rfl⟩ := h.cases
  unfold cutA
  split
  · exact Ok.mk _ _
  · simp only [Option.map_some, add_lit]; exact Ok.mk _ _
/-- the guess from below -/
theorem parts_guess {R N t : Nat} (hN : (gr N).length = t + 1) (hR : R < N * 1000000000) :
    ∃ g : Nat, (gt (gr R) (((t + 1 : Nat) : Int)) * 1000000000 + gt (gr R) (t : Int)).tdiv (gt (gr N) (t : Int) + 1) = (g : Int) ∧ g * N ≤ R ∧ g < 1000000000 := by
  have dR := gr_dig R
  have dN := gr_dig N
  have vR := gr_val R
  have vN := gr_val N
  have hNl := val_lt dN
  rw [hN, vN] at hNl
  have hPp := pow_pos9 t
  have e1 : (1000000000 : Int) ^ (t + 1) = 1000000000 ^ t * 1000000000 := Int.pow_succ _ _
  have hR2 : val (gr R) < 1000000000 ^ (t + 1 + 1) := by
    rw [vR, Int.pow_succ, e1]
    rw [e1] at hNl
    have : ((R : Nat) : Int) < (N : Int) * 1000000000 := by omega
    omega
  have hT := val_top1 dR hR2
  have hT2 := val_take_succ (gr R) t
  have hM := val_top1 dN (k := t) (by rw [vN]; exact hNl)
  rw [← gtD] at hT hT2 hM
  rw [vR] at hT
  rw [vN] at hM
  have l1 := val_take_le dR t
  have l2 := val_nonneg (dR.take t)
  have l3 := val_take_le dN t
  have l4 := val_nonneg (dN.take t)
  have g1 := dR.gt ((t + 1 : Nat) : Int)
  have g2 := dR.gt (t : Int)
  have g3 := dN.gt (t : Int)
  rw [hT2, e1] at hT
  generalize val ((gr R).take t) = low at *
  generalize val ((gr N).take t) = bl at *
  generalize gt (gr R) (t : Int) = d0 at *
  generalize gt (gr R) ((t + 1 : Nat) : Int) = d1 at *
  generalize gt (gr N) (t : Int) = b1 at *
  obtain ⟨P, hP⟩ : ∃ P : Nat, (1000000000 : Int) ^ t = (P : Int) := ⟨1000000000 ^ t, by rw [Int.natCast_pow]; rfl⟩
  rw [hP] at hT hM l1 l3 hPp
  clear hNl hR2 hT2 e1
  obtain ⟨top, htop⟩ : ∃ top : Nat, d1 * 1000000000 + d0 = (top : Int) := ⟨(d1 * 1000000000 + d0).toNat, by omega⟩
  obtain ⟨b1n, rfl⟩ : ∃ b : Nat, b1 = (b : Int) := ⟨b1.toNat, by omega⟩
  obtain ⟨lown, rfl⟩ : ∃ b : Nat, low = (b : Int) := ⟨low.toNat, by omega⟩
  obtain ⟨bln, rfl⟩ : ∃ b : Nat, bl = (b : Int) := ⟨bl.toNat, by omega⟩
  have hR3 : R = top * P + lown := by
    have : (R : Int) = (top : Int) * (P : Int) + (lown : Int) := by rw [← htop, hT]; grind
    exact_mod_cast this
  have hN3 : N = b1n * P + bln := by
    have : (N : Int) = (b1n : Int) * (P : Int) + (bln : Int) := by rw [hM]; grind
    exact_mod_cast this
  have hg := guess_low hR3 hN3 (by omega) (by omega) rfl
  refine ⟨top / (b1n + 1), ?_, hg, ?_⟩
  · rw [htop, Int.tdiv_eq_ediv_of_nonneg (by omega), Int.natCast_ediv]; rfl
  · have h1 : top / (b1n + 1) * N < 1000000000 * N := by omega
    exact Nat.lt_of_mul_lt_mul_right h1
theorem scale_top {n f bt : Nat} (hn : 1 ≤ (gr n).length) (hbt : gt (gr n) (((gr n).length : Int) - 1) = (bt : Int)) (h1 : 0 < f) (hf : f * (bt + 1) ≤ 1000000000) : (gr (n * f)).length = (gr n).length := by
  refine Nat.le_antisymm (gr_len_le ?_) (gr_len_mono (Nat.le_mul_of_pos_right _ h1))
  obtain ⟨t, ht⟩ : ∃ t, (gr n).length = t + 1 := ⟨(gr n).length - 1, by omega⟩
  have dN := gr_dig n
  have vN := gr_val n
  have hNl := val_lt dN
  rw [ht] at hNl
  have hM := val_top1 dN (k := t) hNl
  have l3 := val_take_le dN t
  rw [← gtD] at hM
  rw [ht] at hbt ⊢
  rw [show (((t + 1 : Nat) : Int) - 1) = (t : Int) by omega] at hbt
  rw [hbt, vN] at hM
  have hlt : (n : Int) < 1000000000 ^ t * ((bt : Int) + 1) := by rw [Int.mul_add]; omega
  have h2 : ((n * f : Nat) : Int) < (1000000000 ^ t * ((bt : Int) + 1)) * f := by rw [Int.natCast_mul]; exact Int.mul_lt_mul_of_pos_right hlt (by omega)
  have h3 : (1000000000 : Int) ^ t * ((bt : Int) + 1) * f ≤ 1000000000 ^ (t + 1) := by
    rw [Int.pow_succ, Int.mul_assoc]
    refine Int.mul_le_mul_of_nonneg_left ?_ (Int.le_of_lt (pow_pos9 t))
    have : ((f * (bt + 1) : Nat) : Int) ≤ 1000000000 := by omega
    rw [Int.natCast_mul, Int.mul_comm] at this
    exact this
  have h4 : ((n * f : Nat) : Int) < ((1000000000 ^ (t + 1) : Nat) : Int) := by rw [Int.natCast_pow]; exact Int.lt_of_lt_of_le h2 h3
  omega
section
variable {X : List Nat} {w0 : World} {M0 : List Ent} {I0 : List Imm}
set_option maxRecDepth 100000 in
theorem rshort_ok {q : Option Addr} {n c d : Nat} (hn : (gr n).length ≤ 100000000000) (hd : 0 < d ∧ d < 1000000000) (hq : slI q (recs eG (gr n)) ∈ I0) :
    CD Tryz.prog 228 [.slice q (gr n).length c, .int .u64 (d : Int)] X w0 M0 I0 (fun v M I => M0 = M ∧ ∃ p1 c1, OkC p1 (n / d) c1 ∧ v = .tuple #[.slice p1 (gr (n / d)).length c1, .int .u64 ((n % d : Nat) : Int)] ∧ I = slI p1 (recs eG (gr (n / d))) :: I0) := by
  have da := gr_dig n
  have va := gr_val n
  generalize ha : gr n = a at *
  refine enterD2 Tryz.func228 rfl Tryz.ntmps228 rfl ?_
  repeat (refine wXf ?_)
  (refine RD_makeX (a.length) rfl rfl (by omega) (by omega) (by omega) (by omega) (made_int _ _) rfl rfl ?_; intro bo; refine ⟨okF, ?_⟩)
  repeat (refine wXf ?_)
  refine TD_loop [0, 1, 6] rfl (fun k G M I => ∃ (i : Nat) (o : List Int) (r x : Int), i ≤ a.length ∧ k = i ∧ x = (i : Int) - 1 ∧ o.length = a.length ∧ Dig o ∧ (0 ≤ r ∧ r < d) ∧ val (a.drop i) = (d : Int) * val (o.drop i) + r ∧ G = [(7, .int .u64 r), (8, .int .i64 x)] ∧ M = .blk bo (recs eG o) 166 :: M0 ∧ I0 = I) (a.length) _ _ _ subG subF incF (⟨a.length, _, 0, _, by omega, rfl, rfl, by simp, Dig.zeros _, by omega, by rw [List.drop_of_length_le (by omega), List.drop_of_length_le (by simp)]; simp [val], rfl, rfl, rfl⟩) ?_
  rintro k G M I ⟨i, o, r, x, hi, rfl, hx, ho, hdo, hr, hv, rfl, rfl, rfl⟩
  by_cases h0 : k = 0
  · subst h0
    rw [List.drop_zero, List.drop_zero, va] at hv
    have hq1 : val o = ((n / d : Nat) : Int) := by
      have := (Int.ediv_emod_unique (a := (n : Int)) (b := (d : Int)) (r := r) (q := val o) (by omega)).2 ⟨by omega, hr.1, hr.2⟩
      rw [← this.1]; rfl
    have hr1 : r = ((n % d : Nat) : Int) := by
      have := (Int.ediv_emod_unique (a := (n : Int)) (b := (d : Int)) (r := r) (q := val o) (by omega)).2 ⟨by omega, hr.1, hr.2⟩
      rw [← this.2]; rfl
    subst hr1
    repeat (refine wXf ?_)
    refine RD_freezeB (b := bo) remF ?_
    have hM := rmadeF_ok (X := X) (w0 := w0) (M0 := M0) (I0 := slI (some ⟨bo, 0, none⟩) (recs eG o) :: I0) (q := some ⟨bo, 0, none⟩) (c := a.length) (by omega) (by omega) (.inl (Ok.mk _ _)) hdo hq1 (by simp)
    rw [ho] at hM
    (refine RD_callS rfl (hM) rfl rfl ?_; rintro _ _ _ ⟨rfl, q', c', rfl, hc', rfl⟩; refine ⟨okF, ?_⟩)
    repeat (refine wXf ?_)
    refine ND_rets [4, 5] (by first | exact .inl rfl | exact .inr rfl) rfl rfl rfl _ _ subF incF (⟨rfl, q', c', hc', rfl, rfl⟩)
  · obtain ⟨j, rfl⟩ : ∃ j, k = j + 1 := ⟨k - 1, by omega⟩
    obtain rfl : x = (j : Int) := by omega
    have d1 := da.gt j
    obtain ⟨d2, d3, d4⟩ := div_small (r := r) (g := gt a (j : Int)) (d := (d : Int)) (by omega) (by omega) hr d1
    have hst := div_step (a := a) (q := o) (i := j) (d := d) (r := r) (by omega) (by omega) hv
    rw [← gtD] at hst
    have hnn : 0 ≤ r * 1000000000 + gt a (j : Int) := by omega
    have e1 : (r * 1000000000 + gt a (j : Int)).tmod (d : Int) = (r * 1000000000 + gt a (j : Int)) % (d : Int) := Int.tmod_eq_emod_of_nonneg hnn
    have e2 : (r * 1000000000 + gt a (j : Int)).tdiv (d : Int) = (r * 1000000000 + gt a (j : Int)) / (d : Int) := Int.tdiv_eq_ediv_of_nonneg hnn
    obtain ⟨s, hs⟩ : ∃ s, s = (r * 1000000000 + gt a (j : Int)) % (d : Int) := ⟨_, rfl⟩
    obtain ⟨t, ht⟩ : ∃ t, t = (r * 1000000000 + gt a (j : Int)) / (d : Int) := ⟨_, rfl⟩
    rw [← hs] at e1 d4 hst
    rw [← ht] at e2 d3 hst
    obtain ⟨u, hu⟩ : ∃ u, u = r * 1000000000 := ⟨_, rfl⟩
    repeat (refine wXf ?_)
    rw [e2]
    repeat (refine wXf ?_)
    rw [e1]
    repeat (refine wXf ?_)
    refine ND_again (j) _ _ _ (by first | omega | (simp only [List.length_append, List.length_cons, List.length_nil]; omega)) subG subF incF (⟨j, _, s, (j : Int) - 1, by omega, rfl, by omega, by rw [st_len]; exact ho, by rw [st_nat]; exact hdo.set _ d3, d4, by rw [st_nat]; exact hst, rfl, rfl, rfl⟩)
end
end Go.Proofs.YtllaoaobnnondaaGreatR
namespace Go.Proofs.YtllaoaobnnondaaGreatR
open Go Go.Fx
theorem parts_next {a' qs : List Int} {j R R1 R2 g Bn : Nat} (hj : j < a'.length) (hjq : j < qs.length) (hv : val (a'.drop (j + 1)) = (Bn : Int) * val (qs.drop (j + 1)) + R) {d : Nat} (hd : gt a' (j : Int) = (d : Int)) (h1 : R1 = R * 1000000000 + d) (h2 : R1 = g * Bn + R2) :
    val (a'.drop j) = (Bn : Int) * val ((st qs (j : Int) (g : Int)).drop j) + R2 := by
  rw [st_nat, val_drop a' j hj, drop_set qs j _ hjq, ← gtD, hd, hv]
  simp only [val]
  have h3 : ((g * Bn + R2 : Nat) : Int) = ((R * 1000000000 + d : Nat) : Int) := by rw [← h2, h1]
  simp only [Int.natCast_add, Int.natCast_mul] at h3
  grind
theorem parts_end {a' qs : List Int} {m n f R : Nat} (hf : 0 < f) (hn : 0 < n) (va : val a' = ((m * f : Nat) : Int)) (hv : val a' = ((n * f : Nat) : Int) * val qs + R) (hR : R < n * f) (hq : Dig qs) : val qs = ((m / n : Nat) : Int) ∧ R = (m % n) * f := by
  obtain ⟨Q, hQ⟩ : ∃ Q : Nat, val qs = (Q : Int) := ⟨(val qs).toNat, by have := val_nonneg hq; omega⟩
  rw [hQ, va] at hv
  have e : m * f = n * f * Q + R := by exact_mod_cast hv
  have e1 : m * f / (n * f) = Q := by rw [e, Nat.mul_add_div (by exact Nat.mul_pos hn hf), Nat.div_eq_of_lt hR, Nat.add_zero]
  have e2 : m * f % (n * f) = R := by rw [e, Nat.mul_add_mod, Nat.mod_eq_of_lt hR]
  rw [Nat.mul_div_mul_right _ _ hf] at e1
  rw [Nat.mul_mod_mul_right] at e2
  exact ⟨by rw [hQ, e1], e2.symm⟩
section
variable {X : List Nat} {w0 : World} {M0 : List Ent} {I0 : List Imm}
set_option maxRecDepth 100000 in
theorem parts1_ok {p q : Option Addr} {m n cp cq : Nat} (hm : (gr m).length ≤ 100000000) (hn1 : (gr n).length = 1) (hp : slI p (recs eG (gr m)) ∈ I0) (hq : slI q (recs eG (gr n)) ∈ I0) :
    CD Tryz.prog 183 [.slice p (gr m).length cp, .slice q (gr n).length cq] X w0 M0 I0 (QrP (m / n) (m % n) M0 I0) := by
  have hn0 : 0 < n := by
    rcases Nat.eq_zero_or_pos n with h | h
    · rw [h, gr_zero] at hn1; simp at hn1
    · exact h
  have hnb : n < 1000000000 := by
    have := val_lt (gr_dig n)
    rw [gr_val, hn1] at this
    omega
  have hgt : gt (gr n) 0 = (n : Int) := by rw [gr_one hn0 hnb]; rfl
  have hS := fun M0 I0 => rshort_ok (X := X) (w0 := w0) (M0 := M0) (I0 := I0) (q := p) (n := m) (c := cp) (d := n) (by omega) ⟨hn0, hnb⟩
  have hr := Nat.mod_lt m hn0
  have hvr : val [((m % n : Nat) : Int)] = ((m % n : Nat) : Int) := by simp [val]
  have hdr : Dig [((m % n : Nat) : Int)] := by rw [Dig.cons]; exact ⟨by omega, Dig.nil⟩
  refine enterD2 Tryz.func183 rfl Tryz.ntmps183 rfl ?_
  repeat (refine wXf ?_)
  rw [hgt]
  repeat (refine wXf ?_)
  (refine RD_callS rfl (hS _ _ memF) rfl rfl ?_; rintro _ _ _ ⟨rfl, p1, c1, hc1, rfl, rfl⟩; refine ⟨okF, ?_⟩)
  repeat (refine wXf ?_)
  (refine RD_vals (cs := recs eG [((m % n : Nat) : Int)]) ([.int .u32 ((m % n : Nat) : Int)]) rfl rfl (by intro v hv; repeat (first | exact absurd hv (List.not_mem_nil) | (rcases List.mem_cons.1 hv with rfl | hv; · rfl))) (by omega) rfl rfl rfl ?_; intro b1; refine ⟨okF, ?_⟩)
  refine RD_freezeB remF ?_
  (refine RD_callS rfl (rmadeF_ok (l := [((m % n : Nat) : Int)]) (by simp) (Nat.le_refl 1) (.inl (Ok.mk _ _)) hdr hvr memF) rfl rfl ?_; rintro _ _ _ ⟨rfl, p2, c2, rfl, hc2, rfl⟩; refine ⟨okF, ?_⟩)
  repeat (refine wXf ?_)
  refine ND_rets [4, 5] (by first | exact .inl rfl | exact .inr rfl) rfl rfl rfl _ _ subF incF (⟨rfl, p1, c1, p2, c2, hc1, hc2, rfl, rfl⟩)
set_option maxRecDepth 100000 in
theorem partsL_ok {p q : Option Addr} {m n cp cq : Nat} (hm : (gr m).length ≤ 100000000) (hn : (gr n).length ≤ 100000000) (hn1 : ¬ (gr n).length = 1) (hlt : m < n) (hcp : OkC p m cp) (hp : slI p (recs eG (gr m)) ∈ I0) (hq : slI q (recs eG (gr n)) ∈ I0) :
    CD Tryz.prog 183 [.slice p (gr m).length cp, .slice q (gr n).length cq] X w0 M0 I0 (QrP (m / n) (m % n) M0 I0) := by
  have e1 : m / n = 0 := Nat.div_eq_of_lt hlt
  have e2 : m % n = m := Nat.mod_eq_of_lt hlt
  rw [e1, e2]
  unfold QrP
  simp only [gr_zero]
  have hC := fun M0 I0 => rsize_ok (X := X) (w0 := w0) (M0 := M0) (I0 := I0) (p := p) (q := q) (m := m) (n := n) (cp := cp) (cq := cq) (by omega) (by omega)
  rw [cmpV_lt (by omega)] at hC
  refine enterD2 Tryz.func183 rfl Tryz.ntmps183 rfl ?_
  repeat (refine wXf ?_)
  (refine RD_callS rfl (hC _ _ memF memF) rfl rfl ?_; rintro _ _ _ ⟨rfl, rfl, rfl⟩; refine ⟨okF, ?_⟩)
  repeat (refine wXf ?_)
  (refine RD_vals (cs := recs eG []) ([]) rfl rfl (by intro v hv; repeat (first | exact absurd hv (List.not_mem_nil) | (rcases List.mem_cons.1 hv with rfl | hv; · rfl))) (by omega) rfl rfl rfl ?_; intro b1; refine ⟨okF, ?_⟩)
  refine RD_freezeB remF ?_
  repeat (refine wXf ?_)
  refine ND_rets [4, 5] (by first | exact .inl rfl | exact .inr rfl) rfl rfl rfl _ _ subF incF (⟨rfl, some ⟨b1, 0, none⟩, 0, p, cp, ⟨by rw [gr_zero]; simp, .inl (Ok.mk _ _)⟩, hcp, rfl, rfl⟩)
set_option maxRecDepth 100000 in
set_option maxHeartbeats 1000000 in
theorem partsG_ok {p q : Option Addr} {m n cp cq t : Nat} (hm : (gr m).length ≤ 100000000) (ht : (gr n).length = t + 1) (ht1 : ¬ (gr n).length = 1) (hle : ¬ m < n) (hp : slI p (recs eG (gr m)) ∈ I0) (hq : slI q (recs eG (gr n)) ∈ I0) :
    CD Tryz.prog 183 [.slice p (gr m).length cp, .slice q (gr n).length cq] X w0 M0 I0 (QrP (m / n) (m % n) M0 I0) := by
  have hn0 : 0 < n := by
    rcases Nat.eq_zero_or_pos n with h | h
    · rw [h, gr_zero] at ht; simp at ht
    · exact h
  have hlmn : (gr n).length ≤ (gr m).length := gr_len_mono (by omega)
  obtain ⟨bt, hbt, hbt1, hbt2⟩ := top_ex (n := n) (by omega)
  obtain ⟨f, hf1, hf2, ef⟩ := scale_ex (bt := bt) ⟨hbt1, hbt2⟩
  have hf3 : f * (bt + 1) ≤ 1000000000 := by
    have e : f = 1000000000 / (bt + 1) := by
      rw [Int.tdiv_eq_ediv_of_nonneg (by decide)] at ef
      have : ((1000000000 / (bt + 1) : Nat) : Int) = (f : Int) := by rw [← ef, Int.natCast_ediv]; rfl
      omega
    rw [e]; exact Nat.div_mul_le_self _ _
  have hlb := scale_top (n := n) (by omega) hbt hf1 hf3
  have hla := scale_len (m := m) hf1 hf2
  have hlab : (gr (n * f)).length ≤ (gr (m * f)).length := gr_len_mono (Nat.mul_le_mul_right _ (by omega))
  have hC := fun M0 I0 => rsize_ok (X := X) (w0 := w0) (M0 := M0) (I0 := I0) (p := p) (q := q) (m := m) (n := n) (cp := cp) (cq := cq) (by omega) (by omega)
  have hcv := cmpV_ge (x := (m : Int)) (y := (n : Int)) (by omega)
  generalize cmpV (m : Int) (n : Int) = cv at *
  have hS1 := fun M0 I0 => rscaled_ok (X := X) (w0 := w0) (M0 := M0) (I0 := I0) (p := p) (m := m) (d := f) (cp := cp) (by omega) hf2
  have hS2 := fun M0 I0 => rscaled_ok (X := X) (w0 := w0) (M0 := M0) (I0 := I0) (p := q) (m := n) (d := f) (cp := cq) (by omega) hf2
  refine enterD2 Tryz.func183 rfl Tryz.ntmps183 rfl ?_
  repeat (refine wXf ?_)
  (refine RD_callS rfl (hC _ _ memF memF) rfl rfl ?_; rintro _ _ _ ⟨rfl, rfl, rfl⟩; refine ⟨okF, ?_⟩)
  repeat (refine wXf ?_)
  rw [hbt]
  repeat (refine wXf ?_)
  rw [ef]
  repeat (refine wXf ?_)
  (refine RD_callS rfl (hS1 _ _ memF) rfl rfl ?_; rintro _ _ _ ⟨rfl, pa, ca, rfl, hca, rfl⟩; refine ⟨okF, ?_⟩)
  repeat (refine wXf ?_)
  (refine RD_callS rfl (hS2 _ _ memF) rfl rfl ?_; rintro _ _ _ ⟨rfl, pb, cb, rfl, hcb, rfl⟩; refine ⟨okF, ?_⟩)
  repeat (refine wXf ?_)
  rw [ht] at hlb hlmn
  clear hS1 hS2 hC hp hq ef hf3 hbt
  have vA := gr_val (m * f)
  have dA := gr_dig (m * f)
  have hla3 : (gr (m * f)).length ≤ 100000001 := by omega
  clear hla
  have hmf0 : 0 < n * f := Nat.mul_pos hn0 hf1
  obtain ⟨An, hAn⟩ : ∃ A, m * f = A := ⟨_, rfl⟩
  obtain ⟨Bn, hBn⟩ : ∃ A, n * f = A := ⟨_, rfl⟩
  rw [hAn] at vA dA hca hlab hla3 ⊢
  rw [hBn] at hcb hlb hlab hmf0 ⊢
  obtain ⟨hca1, hca2⟩ := hca
  have hokA : Ok pa := hca2.resolve_right (fun h => by omega)
  obtain ⟨La, hLa⟩ : ∃ L, (gr An).length = L := ⟨_, rfl⟩
  obtain ⟨A', hA'⟩ : ∃ A, gr An = A := ⟨_, rfl⟩
  rw [ht, hLa]
  rw [hLa] at hlab hla3 hca1
  rw [hlb] at hlab
  rw [hA'] at vA dA hLa ⊢
  have hdl : (A'.drop (La - t)).length = t := by rw [List.length_drop]; omega
  have hd0 := dA.drop (La - t)
  obtain ⟨R0, hR0⟩ : ∃ R : Nat, val (A'.drop (La - t)) = (R : Int) := ⟨(val (A'.drop (La - t))).toNat, by have := val_nonneg hd0; omega⟩
  have hR0l : R0 < Bn := by
    have h1 := val_lt hd0
    rw [hdl, hR0] at h1
    have h2 := val_ge (gr_can Bn) (by omega)
    rw [hlb, gr_val, Nat.add_sub_cancel] at h2
    omega
  refine RD_cutI (a := pa) (ms := A') ca (La - t) La memF (by omega) ?_
  rw [List.take_of_length_le (show A'.length ≤ La by omega)]
  refine RD_c rfl (fun _ => Const_cut (e := 166) (sz := 1) (La - t) La t rfl (.inr ⟨_, _, _, rfl, rfl, by omega⟩) (.inl ⟨rfl, rfl⟩) (by omega) (by omega) (by omega)) rfl rfl ?_
  have hM := fun M0 I0 => rmadeF_ok (X := X) (w0 := w0) (M0 := M0) (I0 := I0) (q := cutA pa ca (La - t) 1) (l := A'.drop (La - t)) (c := ca - (La - t)) (by omega) (by omega) (.inl (Ok_cut hokA)) hd0 hR0
  rw [hdl] at hM
  (refine RD_callS rfl (hM _ _ memF) rfl rfl ?_; rintro _ _ _ ⟨rfl, pr0, cr0, rfl, hcr0, rfl⟩; refine ⟨okF, ?_⟩)
  repeat (refine wXf ?_)
  (refine RD_makeX (La - t) rfl rfl (by omega) (by omega) (by omega) (by omega) (made_int _ _) rfl rfl ?_; intro bq; refine ⟨okF, ?_⟩)
  repeat (refine wXf ?_)
  obtain ⟨gB, hgB⟩ : ∃ L, gr Bn = L := ⟨_, rfl⟩
  have hz0 : (List.replicate (La - t) (0 : Int)).drop (La - t) = [] := List.drop_of_length_le (by simp)
  have hlgB : gB.length = t + 1 := by rw [← hgB]; exact hlb
  refine TD_loop [0, 1, 6, 9, 11] rfl (fun k G M I => ∃ (i : Nat) (x : Int) (R : Nat) (qs : List Int) (pr : Option Addr) (cr : Nat), i ≤ La - t ∧ k = i ∧ x = (i : Int) - 1 ∧ qs.length = La - t ∧ Dig qs ∧ R < Bn ∧ OkC pr R cr ∧ val (A'.drop i) = (Bn : Int) * val (qs.drop i) + R ∧ G = [(10, .slice pr (gr R).length cr), (12, .int .i64 x)] ∧ M = .blk bq (recs eG qs) 166 :: M0 ∧ I = slI pr (recs eG (gr R)) :: slI pb (recs eG (gr Bn)) :: slI pa (recs eG A') :: I0) (La - t) _ _ _ subG subF incF (⟨La - t, _, R0, _, pr0, cr0, by omega, rfl, by omega, by simp, Dig.zeros _, hR0l, hcr0, by rw [hR0, hz0]; simp [val], rfl, rfl, rfl⟩) ?_
  rintro k G M I ⟨i, x, R, qs, pr, cr, hi, rfl, hx, hql, hdq, hRl, hcr, hv, rfl, rfl, rfl⟩
  have hlR : (gr R).length ≤ t + 1 := by rw [← hlb]; exact gr_len_mono (by omega)
  by_cases h0 : k = 0
  · subst h0
    rw [List.drop_zero, List.drop_zero] at hv
    rw [← hBn] at hv hRl
    obtain ⟨hq1, hr1⟩ := parts_end hf1 hn0 (by rw [vA, hAn]) hv hRl hdq
    have hS := fun M0 I0 => rshort_ok (X := X) (w0 := w0) (M0 := M0) (I0 := I0) (q := pr) (n := R) (c := cr) (d := f) (by omega) ⟨hf1, hf2⟩
    have e1 : R / f = m % n := by rw [hr1, Nat.mul_div_cancel _ hf1]
    rw [e1] at hS
    have hM2 := fun M0 I0 => rmadeF_ok (X := X) (w0 := w0) (M0 := M0) (I0 := I0) (q := some ⟨bq, 0, none⟩) (c := La - t) (by omega) (by omega) (.inl (Ok.mk _ _)) hdq hq1
    rw [hql] at hM2
    repeat (refine wXf ?_)
    (refine RD_callS rfl (hS _ _ memF) rfl rfl ?_; rintro _ _ _ ⟨rfl, p2, c2, hc2, rfl, rfl⟩; refine ⟨okF, ?_⟩)
    repeat (refine wXf ?_)
    refine RD_freezeB (b := bq) remF ?_
    (refine RD_callS rfl (hM2 _ _ memF) rfl rfl ?_; rintro _ _ _ ⟨rfl, p1, c1, rfl, hc1, rfl⟩; refine ⟨okF, ?_⟩)
    repeat (refine wXf ?_)
    refine ND_rets [4, 5] (by first | exact .inl rfl | exact .inr rfl) rfl rfl rfl _ _ subF incF (⟨rfl, p1, c1, p2, c2, hc1, hc2, rfl, rfl⟩)
  · obtain ⟨j, rfl⟩ : ∃ j, k = j + 1 := ⟨k - 1, by omega⟩
    obtain rfl : x = (j : Int) := by omega
    have d1 := dA.gt j
    obtain ⟨d, hd⟩ : ∃ d : Nat, gt A' (j : Int) = (d : Int) := ⟨(gt A' (j : Int)).toNat, by omega⟩
    rw [hd] at d1
    have hSh := fun M0 I0 => rshifted_ok (X := X) (w0 := w0) (M0 := M0) (I0 := I0) (p := pr) (m := R) (d := d) (cp := cr) (by omega) (by omega) hcr
    obtain ⟨R1, hR1⟩ : ∃ R1, R1 = R * 1000000000 + d := ⟨_, rfl⟩
    rw [← hR1] at hSh
    have hR1l : R1 < Bn * 1000000000 := by
      have : (R + 1) * 1000000000 ≤ Bn * 1000000000 := Nat.mul_le_mul_right _ hRl
      omega
    obtain ⟨g, hg1, hg2, hg3⟩ := parts_guess hlb hR1l
    have q1 := gr_digit (n := R1) (i := t + 1)
    have q2 := gr_digit (n := R1) (i := t)
    have q3 := gr_digit (n := Bn) (i := t)
    have hG1 := fun (pp : Option Addr) (cc : Nat) M0 I0 => group_ok (X := X) (w0 := w0) (M0 := M0) (I0 := I0) (q := pp) (l := gr R1) (n := (gr R1).length) (c := cc) (i := ((t + 1 : Nat) : Int)) rfl (by omega)
    have hG2 := fun (pp : Option Addr) (cc : Nat) M0 I0 => group_ok (X := X) (w0 := w0) (M0 := M0) (I0 := I0) (q := pp) (l := gr R1) (n := (gr R1).length) (c := cc) (i := (t : Int)) rfl (by omega)
    have hSc := fun M0 I0 => rscaled_ok (X := X) (w0 := w0) (M0 := M0) (I0 := I0) (p := pb) (m := Bn) (d := g) (cp := cb) (by omega) hg3
    have hlR1 : (gr R1).length ≤ t + 2 := by
      have h1 := (scale_len (m := Bn) (f := 999999999) (by omega) (by omega)).2
      refine gr_len_le ?_
      have h2 := val_lt (gr_dig Bn)
      rw [gr_val, hlb] at h2
      have h3 : (R1 : Int) < ((1000000000 ^ (t + 2) : Nat) : Int) := by
        rw [Int.natCast_pow, show t + 2 = (t + 1) + 1 from rfl, Int.pow_succ]
        have : ((R1 : Nat) : Int) < (Bn : Int) * 1000000000 := by omega
        have h5 : (Bn : Int) * 1000000000 ≤ 1000000000 ^ (t + 1) * 1000000000 := by omega
        exact Int.lt_of_lt_of_le this h5
      omega
    have hMi := fun (pp pp' : Option Addr) (cc cc' : Nat) M0 I0 => rminus_ok (X := X) (w0 := w0) (M0 := M0) (I0 := I0) (p := pp) (q := pp') (m := R1) (n := Bn * g) (cp := cc) (cq := cc') (by omega) (by rw [Nat.mul_comm]; exact hg2)
    obtain ⟨Rg, hRg⟩ : ∃ x, x = R1 - Bn * g := ⟨_, rfl⟩
    rw [← hRg] at hMi
    have hRg2 : R1 = g * Bn + Rg := by rw [hRg, Nat.mul_comm Bn g]; omega
    have et : ((t + 1 : Nat) : Int) - 1 = (t : Int) := by omega
    have q4 : 0 ≤ gt (gr Bn) (((t + 1 : Nat) : Int) - 1) ∧ gt (gr Bn) (((t + 1 : Nat) : Int) - 1) < 1000000000 := by rw [et]; exact q3
    repeat (refine wXf ?_)
    rw [hd]
    (refine RD_callS rfl (hSh _ _ memF) rfl rfl ?_; rintro _ _ _ ⟨rfl, p3, c3, rfl, hc3, rfl⟩; refine ⟨okF, ?_⟩)
    repeat (refine wXf ?_)
    (repeat refine TD_seq ?_); refine TD_drawn [0, 1, 4, 5, 6, 9, 10, 11, 12, 13, 14, 15, 2, 3, 7, 8, 16, 17] [1, 1, 1, 2, 1, 2, 2, 2, 2, 2, 2, 2, 0, 1, 0, 0, 0, 0] mixed (by kernel_rfl) ?_
    repeat (refine wXf ?_)
    rw [et]
    (refine RD_callS rfl (hG1 p3 c3 _ _ memF (gr_dig R1)) rfl rfl ?_; rintro _ _ _ ⟨rfl, rfl, rfl⟩; refine ⟨okF, ?_⟩)
    repeat (refine wXf ?_)
    (refine RD_callS rfl (hG2 p3 c3 _ _ memF (gr_dig R1)) rfl rfl ?_; rintro _ _ _ ⟨rfl, rfl, rfl⟩; refine ⟨okF, ?_⟩)
    repeat (refine wXf ?_)
    rw [hg1]
    repeat (refine wXf ?_)
    (refine RD_callS rfl (hSc _ _ memF) rfl rfl ?_; rintro _ _ _ ⟨rfl, p4, c4, rfl, hc4, rfl⟩; refine ⟨okF, ?_⟩)
    (refine RD_callS rfl (hMi p3 p4 c3 c4 _ _ memF memF) rfl rfl ?_; rintro _ _ _ ⟨rfl, p5, c5, rfl, hc5, rfl⟩; refine ⟨okF, ?_⟩)
    repeat (refine wXf ?_)
    clear hSh hSc hMi hG1 hG2
    refine TD_loop [0, 1, 6, 9, 11, 12] rfl (fun k G M I => ∃ (R2 g2 : Nat) (gi : Int) (p6 : Option Addr) (c6 : Nat), k = R2 ∧ R1 = g2 * Bn + R2 ∧ gi = g2 ∧ OkC p6 R2 c6 ∧ G = [(10, .slice p6 (gr R2).length c6), (13, .int .u64 gi)] ∧ M = .blk bq (recs eG qs) 166 :: M0 ∧ I = slI p6 (recs eG (gr R2)) :: slI pb (recs eG (gr Bn)) :: slI pa (recs eG A') :: I0) (Rg) _ _ _ subG subF incF (⟨Rg, g, _, p5, c5, rfl, hRg2, rfl, hc5, rfl, rfl, rfl⟩) ?_
    rintro k G M I ⟨R2, g2, gi, p6, c6, rfl, hR2, hgi, hc6, rfl, rfl, rfl⟩
    have hg9 : g2 < 1000000000 := by
      have h1 : g2 * Bn < 1000000000 * Bn := by omega
      exact Nat.lt_of_mul_lt_mul_right h1
    have hl2 : (gr k).length ≤ t + 2 := Nat.le_trans (gr_len_mono (by omega)) hlR1
    have hSz := fun M0 I0 => rsize_ok (X := X) (w0 := w0) (M0 := M0) (I0 := I0) (p := p6) (q := pb) (m := k) (n := Bn) (cp := c6) (cq := cb) (by omega) (by omega)
    by_cases hlt : k < Bn
    · rw [cmpV_lt (by omega)] at hSz
      repeat (refine wXf ?_)
      (refine RD_callS rfl (hSz _ _ memF memF) rfl rfl ?_; rintro _ _ _ ⟨rfl, rfl, rfl⟩; refine ⟨okF, ?_⟩)
      repeat (refine wXf ?_)
      refine ND_again (j) _ _ _ (by first | omega | (simp only [List.length_append, List.length_cons, List.length_nil]; omega)) subG subF incF (⟨j, (j : Int) - 1, k, _, p6, c6, by omega, rfl, by omega, by rw [st_len]; exact hql, by rw [st_nat]; exact hdq.set _ (by omega), hlt, hc6, by rw [hgi]; exact parts_next (by omega) (by omega) hv hd hR1 hR2, rfl, rfl, rfl⟩)
    · have hcv2 := cmpV_ge (x := (k : Int)) (y := (Bn : Int)) (by omega)
      generalize cmpV (k : Int) (Bn : Int) = cv2 at *
      have hMi2 := fun M0 I0 => rminus_ok (X := X) (w0 := w0) (M0 := M0) (I0 := I0) (p := p6) (q := pb) (m := k) (n := Bn) (cp := c6) (cq := cb) (by omega) (by omega)
      obtain ⟨R4, hR4⟩ : ∃ x, x = k - Bn := ⟨_, rfl⟩
      rw [← hR4] at hMi2
      have hR3 : R1 = (g2 + 1) * Bn + R4 := by rw [Nat.add_mul]; omega
      repeat (refine wXf ?_)
      (refine RD_callS rfl (hSz _ _ memF memF) rfl rfl ?_; rintro _ _ _ ⟨rfl, rfl, rfl⟩; refine ⟨okF, ?_⟩)
      repeat (refine wXf ?_)
      (refine RD_callS rfl (hMi2 _ _ memF memF) rfl rfl ?_; rintro _ _ _ ⟨rfl, p7, c7, rfl, hc7, rfl⟩; refine ⟨okF, ?_⟩)
      repeat (refine wXf ?_)
      refine ND_again (R4) _ _ _ (by first | omega | (simp only [List.length_append, List.length_cons, List.length_nil]; omega)) subG subF incF (⟨R4, g2 + 1, gi + 1, p7, c7, rfl, hR3, by omega, hc7, rfl, rfl, rfl⟩)
theorem parts_ok {p q : Option Addr} {m n cp cq : Nat} (hm : (gr m).length ≤ 100000000) (hn0 : (gr n).length ≤ 100000000) (hn : 0 < n) (hcp : OkC p m cp) (hp : slI p (recs eG (gr m)) ∈ I0) (hq : slI q (recs eG (gr n)) ∈ I0) :
    CD Tryz.prog 183 [.slice p (gr m).length cp, .slice q (gr n).length cq] X w0 M0 I0 (QrP (m / n) (m % n) M0 I0) := by
  have h1 : 0 < (gr n).length := List.length_pos_iff.2 (fun e => by have := gr_nil.1 e; omega)
  by_cases hn1 : (gr n).length = 1
  · exact parts1_ok hm hn1 hp hq
  · by_cases hlt : m < n
    · exact partsL_ok hm hn0 hn1 hlt hcp hp hq
    · exact partsG_ok (t := (gr n).length - 1) hm (by omega) hn1 hlt hp hq
end
end Go.Proofs.YtllaoaobnnondaaGreatR
namespace Go.Proofs.YtllaoaobnnondaaGreatR
open Go Go.Fx
section
variable {X : List Nat} {w0 : World} {M0 : List Ent} {I0 : List Imm}
set_option maxRecDepth 100000 in
theorem rValid_ok {neg : Bool} {q : Option Addr} {gs : List Int} {c : Nat} (hn : (gs.length : Int) ≤ 9223372036854775807) (hq : slI q (recs eG gs) ∈ I0) :
    CD Tryz.prog 100 [.agg #[.bool neg, .slice q gs.length c]] X w0 M0 I0 (fun v M I => M0 = M ∧ I0 = I ∧ v = .bool (B (CanR neg gs))) := by
  refine enterD1 Tryz.func100 rfl Tryz.ntmps100 rfl ?_
  refine TD_seq ?_
  refine TD_region ?_
  (refine RD_boxA rfl rfl rfl ?_; intro b; refine ⟨okF, ?_⟩)
  repeat (refine wXf ?_)
  refine TD_loop [1, 3] rfl (fun k G M I => ∃ i : Nat, i ≤ gs.length ∧ k = gs.length - i ∧ (∀ j : Nat, j < i → gt gs (j : Int) < 1000000000) ∧ G = [(4, .int .i64 i)] ∧ M = .blk b [.bool neg, .slice q gs.length c] 24 :: M0 ∧ I0 = I) (gs.length) _ _ _ subG subF incF (⟨0, by omega, rfl, fun j hj => by omega, rfl, rfl, rfl⟩) ?_
  rintro k G M I ⟨i, hi, rfl, hs, rfl, rfl, rfl⟩
  by_cases hin : i < gs.length
  · repeat' (first | refine wXf ?_ | (refine TD_isCo ?_; first | refine TD_dec rfl (fun h => ?_) (fun h => ?_) | refine TD_cond rfl (fun h => ?_) (fun h => ?_)) | (refine RD_isGu ?_; first | refine RD_grd rfl rfl (fun h => ?_) (fun h => ?_) | (fail_if_success (refine RD_isW rfl ?_); refine RD_grdB rfl rfl (fun h => ?_) (fun h => ?_))))
    · have h1 := h
      have hF : ¬ CanR neg gs := by
        unfold CanR
        rintro (⟨h2, _⟩ | ⟨_, _, h2⟩)
        · rw [h2] at hin; simp at hin
        · exact h2 ⟨gt gs (i : Int), (by rw [gt_get hin]; exact List.getElem_mem hin), h1⟩
      rw [← B_false hF]
      refine ND_ret1 (by first | exact .inl rfl | exact .inr rfl) rfl rfl _ _ subF incF (⟨rfl, rfl, rfl⟩)
    · refine ND_again (gs.length - (i + 1)) _ _ _ (by first | omega | (simp only [List.length_append, List.length_cons, List.length_nil]; omega)) subG subF incF (⟨i + 1, by omega, rfl, fun j hj => ?_, rfl, rfl, rfl⟩)
      by_cases e : j = i
      · subst e; omega
      · exact hs j (by omega)
  · obtain rfl : i = gs.length := by omega
    by_cases h0 : gs.length = 0
    · have hg : gs = [] := List.eq_nil_of_length_eq_zero h0
      repeat (refine wXf ?_)
      refine ND_ret1 (by first | exact .inl rfl | exact .inr rfl) rfl rfl _ _ subF incF (⟨rfl, rfl, by rw [show (!neg) = B (CanR neg gs) by rw [B_eq, hg]; cases neg <;> simp [CanR]]⟩)
    · have hgs : gs ≠ [] := fun e => h0 (by rw [e]; rfl)
      have hlast := last_gt (gs := gs) (by omega)
      repeat (refine wXf ?_)
      refine ND_ret1 (by first | exact .inl rfl | exact .inr rfl) rfl rfl _ _ subF incF (⟨rfl, rfl, congrArg Value.bool (B_congr ?_)⟩)
      unfold CanR Top
      rw [hlast]
      refine ⟨fun h => .inr ⟨hgs, h, ?_⟩, fun h => h.elim (fun h => absurd h.1 hgs) (fun h => h.2.1)⟩
      rintro ⟨x, hx, h9⟩
      obtain ⟨j, hj, rfl⟩ := List.mem_iff_getElem.1 hx
      have := hs j hj
      rw [gt_get hj] at this
      omega
theorem rmade_ok {p : Prop} [Decidable p] {q : Option Addr} {l : List Int} {n c k : Nat} (h63 : l.length ≤ 1000000000000) (hc : l.length ≤ c) (hok : Ok q ∨ (l.length = 0 ∧ c = 0)) (hd : Dig l) (hv : val l = n) (hk : n ≤ 2 ^ k) (hl : slI q (recs eG l) ∈ I0) :
    CD Tryz.prog 184 [.bool (B p), .slice q l.length c] X w0 M0 I0 (fun v M I => M0 = M ∧ I = isI v (sg p n) k :: I0) :=
  CD.post (rmade_raw h63 hc hok hd hv hl) (fun v M1 I1 w ⟨e1, q', c', e2, hc', e3⟩ hw => by
    subst e1; subst e2; subst e3
    have ha := sg_abs p n
    have hiv : iv q' c' (sg p n) = .agg #[.bool (B (p ∧ n ≠ 0)), .slice q' (gr n).length c'] := by
      unfold iv
      rw [ha]
      refine congrArg (fun x => Value.agg #[.bool x, .slice q' (gr n).length c']) (B_congr ?_)
      unfold sg
      by_cases hp : p
      · rw [if_pos hp]; constructor
        · intro h; exact ⟨hp, by omega⟩
        · intro h; have := h.2; omega
      · rw [if_neg hp]; constructor
        · intro h; omega
        · intro h; exact absurd h.1 hp
    refine ⟨_, _, ⟨rfl, rfl⟩, ?_⟩
    have h1 := closeI (q := q') (c := c') (z := sg p n) (k := k) hw (by rw [ha]; exact List.Mem.head _) (by rw [ha]; exact hc') (by rw [ha]; exact hk)
    rw [hiv] at h1
    exact h1.inc (Inc.cons (List.Mem.head _) (Inc.wk (Inc.wk Inc.refl))))
/-- a number, copied and open -/
def VoP (z : Int) (M0 : List Ent) (I0 : List Imm) (v : Value) (M : List Ent) (I : List Imm) : Prop := M0 = M ∧ ∃ q c, v = .agg #[.bool (B (z < 0)), .slice q (gr z.natAbs).length c] ∧ OkC q z.natAbs c ∧ I = slI q (recs eG (gr z.natAbs)) :: I0
set_option maxRecDepth 100000 in
theorem rValue_ok {q : Option Addr} {c k : Nat} {z : Int} (hz : z.natAbs ≤ 2 ^ k) (hk : k ≤ 1000000000000) (hc : OkC q z.natAbs c) (hq : slI q (recs eG (gr z.natAbs)) ∈ I0) :
    CD Tryz.prog 181 [.agg #[.bool (B (z < 0)), .slice q (gr z.natAbs).length c]] X w0 M0 I0 (VoP z M0 I0) := by
  have hl := len_pow hz hk
  have hV := fun M0 I0 => rValid_ok (X := X) (w0 := w0) (M0 := M0) (I0 := I0) (neg := B (z < 0)) (q := q) (gs := gr z.natAbs) (c := c) (by omega)
  rw [B_true (can_of z)] at hV
  obtain ⟨hc1, hc2⟩ := hc
  refine enterD1 Tryz.func181 rfl Tryz.ntmps181 rfl ?_
  refine TD_seq ?_
  refine TD_region ?_
  (refine RD_boxA rfl rfl rfl ?_; intro b; refine ⟨okF, ?_⟩)
  (refine RD_alloc rfl rfl ?_; intro b2; refine ⟨okF, ?_⟩)
  repeat (refine wXf ?_)
  (refine RD_callS rfl (hV _ _ memF) rfl rfl ?_; rintro _ _ _ ⟨rfl, rfl, rfl⟩; refine ⟨okF, ?_⟩)
  repeat (refine wXf ?_)
  (repeat refine TD_seq ?_); refine TD_drawnW (.blk b [.bool (B (z < 0)), .slice q (gr z.natAbs).length c] 24 :: M0) (I0) [0, 1, 3, 4, 2, 5, 6, 7] [2, 2, 2, 1, 0, 0, 0, 0] subF incF mixed (by kernel_rfl) ?_
  repeat (refine wXf ?_)
  (refine RD_vals (cs := recs eG []) ([]) rfl rfl (by intro v hv; repeat (first | exact absurd hv (List.not_mem_nil) | (rcases List.mem_cons.1 hv with rfl | hv; · rfl))) (by omega) rfl rfl rfl ?_; intro b1; refine ⟨okF, ?_⟩)
  refine RD_toRow (b := b1) (mm := 0) 1 repF rfl (by omega) ?_
  refine RD_appR (xs := []) (ys := gr z.natAbs) 0 rfl rfl rfl (Src.imm memF hc2) (by decide) rfl (by simp; omega) (by simp; omega) rfl rfl ?_
  intro a2 c2
  refine ⟨okF, ?_⟩
  rw [List.nil_append]
  refine RD_fact (fun w hw => And.intro (hw.rowLe (List.Mem.head _)) ((hw.rowS (List.Mem.head _)).2.imp id And.right)) (fun ho3 => ?_)
  refine RD_freezeR remF ?_
  (refine RD_c rfl (fun _ => Const_struct (pvs := ([.bool (B (z < 0)), .slice a2 (gr z.natAbs).length c2]).zipIdx.map (fun p => (p.2, p.1))) (cells := [.bool (B (z < 0)), .slice a2 (gr z.natAbs).length c2]) rfl rfl) rfl rfl ?_)
  repeat (refine wXf ?_)
  refine ND_retC (cs := [.bool (B (z < 0)), .slice a2 (gr z.natAbs).length c2]) (.inl rfl) rfl rfl memF rfl M0 (slI a2 (recs eG (gr z.natAbs)) :: I0) subF incF ⟨rfl, a2, c2, rfl, ho3, rfl⟩
set_option maxRecDepth 100000 in
theorem rSign_ok {u : Value} {z : Int} {k : Nat} (hk : k ≤ 1000000000000) (hu : isI u z k ∈ I0) : CD Tryz.prog 101 [u] X w0 M0 I0 (fun v M I => M0 = M ∧ I0 = I ∧ v = .int .i64 z.sign) := by
  refine CD_openI hu (fun q c e hc hz => ?_)
  subst e
  unfold iv
  have hnil : (gr z.natAbs).length = 0 ↔ z = 0 := by rw [List.length_eq_zero_iff, gr_nil]; omega
  refine enterD1 Tryz.func101 rfl Tryz.ntmps101 rfl ?_
  refine TD_seq ?_
  refine TD_region ?_
  (refine RD_boxA rfl rfl rfl ?_; intro b; refine ⟨okF, ?_⟩)
  repeat (refine wXf ?_)
  (refine RD_callS rfl (rValue_ok hz hk hc memF) rfl rfl ?_; rintro _ _ _ ⟨rfl, q2, c2, rfl, hc2, rfl⟩; refine ⟨okF, ?_⟩)
  by_cases h0 : z = 0
  · have := hnil.2 h0
    repeat (refine wXf ?_)
    refine ND_ret1 (by first | exact .inl rfl | exact .inr rfl) rfl rfl _ _ subF incF (⟨rfl, rfl, by rw [h0]; rfl⟩)
  · have : ¬ (gr z.natAbs).length = 0 := fun h => h0 (hnil.1 h)
    repeat' (first | refine wXf ?_ | (refine TD_isCo ?_; first | refine TD_dec rfl (fun h => ?_) (fun h => ?_) | refine TD_cond rfl (fun h => ?_) (fun h => ?_)) | (refine RD_isGu ?_; first | refine RD_grd rfl rfl (fun h => ?_) (fun h => ?_) | (fail_if_success (refine RD_isW rfl ?_); refine RD_grdB rfl rfl (fun h => ?_) (fun h => ?_))))
    · refine ND_ret1 (by first | exact .inl rfl | exact .inr rfl) rfl rfl _ _ subF incF (⟨rfl, rfl, by rw [Int.sign_eq_neg_one_of_neg (by assumption)]⟩)
    · refine ND_ret1 (by first | exact .inl rfl | exact .inr rfl) rfl rfl _ _ subF incF (⟨rfl, rfl, by rw [Int.sign_eq_one_of_pos (by omega)]⟩)
set_option maxRecDepth 100000 in
theorem rNeg_ok {u : Value} {z : Int} {k : Nat} (hk : k ≤ 1000000000000) (hu : isI u z k ∈ I0) : CD Tryz.prog 189 [u] X w0 M0 I0 (fun v M I => M0 = M ∧ I = isI v (-z) k :: I0) := by
  refine CD_openI hu (fun q c e hc hz => ?_)
  subst e
  have hl := len_pow hz hk
  unfold iv
  have hM := fun q2 c2 (hc2 : OkC q2 z.natAbs c2) M0 I0 => rmade_ok (X := X) (w0 := w0) (M0 := M0) (I0 := I0) (p := ¬ z < 0) (q := q2) (l := gr z.natAbs) (n := z.natAbs) (c := c2) (k := k) (by omega) hc2.1 hc2.2 (gr_dig _) (gr_val _) hz
  rw [sg_neg] at hM
  refine enterD1 Tryz.func189 rfl Tryz.ntmps189 rfl ?_
  refine TD_seq ?_
  refine TD_region ?_
  (refine RD_boxA rfl rfl rfl ?_; intro b; refine ⟨okF, ?_⟩)
  (refine RD_alloc rfl rfl ?_; intro b2; refine ⟨okF, ?_⟩)
  repeat (refine wXf ?_)
  (refine RD_callS rfl (rValue_ok hz hk hc memF) rfl rfl ?_; rintro _ _ _ ⟨rfl, q2, c2, rfl, hc2, rfl⟩; refine ⟨okF, ?_⟩)
  repeat (refine wXf ?_)
  (refine RD_callS rfl (hM q2 c2 hc2 _ _ memF) rfl rfl ?_; rintro _ _ _ ⟨rfl, rfl⟩; refine ⟨okF, ?_⟩; refine RD_openI (List.Mem.head _) (fun q3 c3 e__ hc3 hz3 => ?_); subst e__)
  unfold iv
  repeat (refine wXf ?_)
  refine ND_retC (cs := [.bool (B (-z < 0)), .slice q3 (gr (-z).natAbs).length c3]) (.inl rfl) rfl rfl memF rfl _ _ subF incF ⟨rfl, rfl⟩
end
end Go.Proofs.YtllaoaobnnondaaGreatR
