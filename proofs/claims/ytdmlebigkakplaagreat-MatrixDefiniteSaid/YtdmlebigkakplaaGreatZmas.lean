/- integer: quotient and remainder of magnitudes integer: Of, sum integer: Gcd -/
import Derived.Test.YtdmlebigkakplaaGreatZmar
import Derived.Test.YtdmlebigkakplaaGreatZmao
set_option linter.unusedSimpArgs false
set_option linter.unusedVariables false
namespace Go.Proofs.YtdmlebigkakplaaGreat
open Go Go.Fx
theorem cmpV_lt {x y : Int} (h : x < y) : cmpV x y = -1 := by unfold cmpV; rw [if_pos h]
theorem cmpV_ge {x y : Int} (h : ¬ x < y) : 0 ≤ cmpV x y ∧ cmpV x y ≤ 1 := by unfold cmpV; rw [if_neg h]; split <;> omega
/-- both results of a division -/
def QrP (a b : Nat) (M0 : List Ent) (I0 : List Imm) (v : Value) (M : List Ent) (I : List Imm) : Prop :=
  M0 = M ∧ ∃ p1 c1 p2 c2, OkC p1 a c1 ∧ OkC p2 b c2 ∧ v = .tuple #[.slice p1 (gr a).length c1, .slice p2 (gr b).length c2] ∧ I = slI p1 (recs eG (gr a)) :: slI p2 (recs eG (gr b)) :: I0
section
variable {X : List Nat} {w0 : World} {M0 : List Ent} {I0 : List Imm}
set_option maxRecDepth 100000 in
set_option maxHeartbeats 4000000 in
theorem over_ok {p q : Option Addr} {m n cp cq : Nat} (hm : (gr m).length ≤ 100000000) (hn0 : (gr n).length ≤ 100000000) (hn : 0 < n) (hcp : OkC p m cp) (hp : slI p (recs eG (gr m)) ∈ I0) (hq : slI q (recs eG (gr n)) ∈ I0) :
    CD Tryz.prog 259 [.slice p (gr m).length cp, .slice q (gr n).length cq] X w0 M0 I0 (QrP (m / n) (m % n) M0 I0) := by
  have hC := compare_ok (X := X) (w0 := w0) (M0 := M0) (I0 := I0) (p := p) (q := q) (m := m) (n := n) (cp := cp) (cq := cq) (by omega) (by omega) hp hq
  have hW1 := word_ok (X := X) (w0 := w0) (M0 := M0) (I0 := I0) (q := p) (n := m) (c := cp) (by omega) hp
  have hW2 := word_ok (X := X) (w0 := w0) (M0 := M0) (I0 := I0) (q := q) (n := n) (c := cq) (by omega) hq
  by_cases hlt : m < n
  · have e1 : m / n = 0 := Nat.div_eq_of_lt hlt
    have e2 : m % n = m := Nat.mod_eq_of_lt hlt
    rw [e1, e2]
    unfold QrP
    simp only [gr_zero]
    rw [cmpV_lt (by omega)] at hC
    have hO : OkC p m cp := hcp
    refine enterD Tryz.func259 rfl Tryz.ntmps259 rfl ?_
    repeat (refine wXk ?_)
    (refine RD_call rfl (hC) rfl rfl ?_; rintro _ _ _ ⟨rfl, rfl, rfl⟩; refine ⟨okK, ?_⟩)
    repeat (refine wXk ?_)
    refine ND_nilS none ?_
    refine ND_rets [4, 5] (by first | exact .inl rfl | exact .inr rfl) rfl rfl rfl _ _ subP incL (⟨rfl, none, 0, p, cp, ⟨by rw [gr_zero]; simp, .inr ⟨by rw [gr_zero]; rfl, rfl⟩⟩, hO, rfl, rfl⟩)
  · have hcv := cmpV_ge (x := (m : Int)) (y := (n : Int)) (by omega)
    generalize cmpV (m : Int) (n : Int) = cv at *
    have e1 : ((m : Int)).tdiv (n : Int) = ((m / n : Nat) : Int) := by rw [Int.tdiv_eq_ediv_of_nonneg (by omega), Int.natCast_ediv]
    have e2 : ((m : Int)).tmod (n : Int) = ((m % n : Nat) : Int) := by rw [Int.tmod_eq_emod_of_nonneg (by omega), Int.natCast_emod]
    have hmn : (gr n).length ≤ (gr m).length := gr_len_mono (by omega)
    by_cases hw : (gr m).length ≤ 2
    · have hw2 : (gr n).length ≤ 2 := by omega
      rw [if_pos hw, B_true hw] at hW1
      rw [if_pos hw2, B_true hw2] at hW2
      have hb : m < 1000000000000000000 := by
        have := val_lt (gr_dig m)
        rw [gr_val] at this
        have h2 : (1000000000 : Int) ^ (gr m).length ≤ 1000000000 ^ 2 := pow_mono9 hw
        omega
      have hS1 := fun M0 I0 => split_ok (X := X) (w0 := w0) (M0 := M0) (I0 := I0) (n := m / n) (Nat.le_trans (Nat.div_le_self _ _) (by omega))
      have hS2 := fun M0 I0 => split_ok (X := X) (w0 := w0) (M0 := M0) (I0 := I0) (n := m % n) (Nat.le_trans (Nat.mod_le _ _) (by omega))
      refine enterD Tryz.func259 rfl Tryz.ntmps259 rfl ?_
      repeat (refine wXk ?_)
      (refine RD_call rfl (hC) rfl rfl ?_; rintro _ _ _ ⟨rfl, rfl, rfl⟩; refine ⟨okK, ?_⟩)
      repeat (refine wXk ?_)
      (refine RD_call rfl (hW1) rfl rfl ?_; rintro _ _ _ ⟨rfl, rfl, rfl⟩; refine ⟨okK, ?_⟩)
      repeat (refine wXk ?_)
      (refine RD_call rfl (hW2) rfl rfl ?_; rintro _ _ _ ⟨rfl, rfl, rfl⟩; refine ⟨okK, ?_⟩)
      repeat (refine wXk ?_)
      (repeat refine TD_seq ?_); refine TD_drawn [0, 1, 2, 4, 5, 6, 3, 7, 8, 9] [2, 2, 1, 2, 2, 1, 0, 0, 0, 0] mixed (by kernel_rfl) ?_
      repeat (refine wXk ?_)
      rw [e1, e2]
      (refine RD_call rfl (hS1 _ _) rfl rfl ?_; rintro _ _ _ ⟨rfl, q1, c1, rfl, ho1, rfl⟩; refine ⟨okK, ?_⟩)
      repeat (refine wXk ?_)
      (refine RD_call rfl (hS2 _ _) rfl rfl ?_; rintro _ _ _ ⟨rfl, q2, c2, rfl, ho2, rfl⟩; refine ⟨okK, ?_⟩)
      repeat (refine wXk ?_)
      refine ND_rets [4, 5] (by first | exact .inl rfl | exact .inr rfl) rfl rfl rfl _ _ subP incL (⟨rfl, q1, c1, q2, c2, ho1, ho2, rfl, rfl⟩)
    · rw [if_neg hw, B_false hw] at hW1
      have hn1 : 0 < (gr n).length := List.length_pos_iff.2 (fun e => by have := gr_nil.1 e; omega)
      by_cases h1 : (gr n).length = 1
      · have hnb : n < 1000000000 := by
          have := val_lt (gr_dig n)
          rw [gr_val, h1] at this
          omega
        have hgo := gr_one hn hnb
        have hS := fun M0 I0 hq => short_ok (X := X) (w0 := w0) (M0 := M0) (I0 := I0) (q := p) (n := m) (c := cp) (d := n) (by omega) ⟨hn, hnb⟩ hq
        have hS2 := fun M0 I0 => split_ok (X := X) (w0 := w0) (M0 := M0) (I0 := I0) (n := m % n) (Nat.le_trans (Nat.le_of_lt (Nat.mod_lt _ hn)) (by omega))
        have hgt : gt (gr n) 0 = (n : Int) := by rw [hgo]; rfl
        have hmr : m % n < n := Nat.mod_lt _ hn
        refine enterD Tryz.func259 rfl Tryz.ntmps259 rfl ?_
        repeat (refine wXk ?_)
        (refine RD_call rfl (hC) rfl rfl ?_; rintro _ _ _ ⟨rfl, rfl, rfl⟩; refine ⟨okK, ?_⟩)
        repeat (refine wXk ?_)
        (refine RD_call rfl (hW1) rfl rfl ?_; rintro _ _ _ ⟨rfl, rfl, rfl⟩; refine ⟨okK, ?_⟩)
        repeat (refine wXk ?_)
        (refine RD_call rfl (hW2) rfl rfl ?_; rintro _ _ _ ⟨rfl, rfl, rfl⟩; refine ⟨okK, ?_⟩)
        repeat (refine wXk ?_)
        rw [hgt]
        (refine RD_call rfl (hS _ _ memL) rfl rfl ?_; rintro _ _ _ ⟨rfl, p1, c1, hc1, ho1, rfl, rfl⟩; refine ⟨okK, ?_⟩)
        repeat (refine wXk ?_)
        (refine RD_call rfl (hS2 _ _) rfl rfl ?_; rintro _ _ _ ⟨rfl, q2, c2, rfl, ho2, rfl⟩; refine ⟨okK, ?_⟩)
        repeat (refine wXk ?_)
        refine ND_rets [4, 5] (by first | exact .inl rfl | exact .inr rfl) rfl rfl rfl _ _ subP incL (⟨rfl, p1, c1, q2, c2, ⟨hc1, .inl ho1⟩, ho2, rfl, rfl⟩)
      · have hL := fun M0 I0 hp hq => long_ok (X := X) (w0 := w0) (M0 := M0) (I0 := I0) (p := p) (q := q) (m := m) (n := n) (cp := cp) (cq := cq) hm (by omega) (by omega) hp hq
        refine enterD Tryz.func259 rfl Tryz.ntmps259 rfl ?_
        repeat (refine wXk ?_)
        (refine RD_call rfl (hC) rfl rfl ?_; rintro _ _ _ ⟨rfl, rfl, rfl⟩; refine ⟨okK, ?_⟩)
        repeat (refine wXk ?_)
        (refine RD_call rfl (hW1) rfl rfl ?_; rintro _ _ _ ⟨rfl, rfl, rfl⟩; refine ⟨okK, ?_⟩)
        repeat (refine wXk ?_)
        (refine RD_call rfl (hW2) rfl rfl ?_; rintro _ _ _ ⟨rfl, rfl, rfl⟩; refine ⟨okK, ?_⟩)
        repeat (refine wXk ?_)
        (refine RD_call rfl (hL _ _ memL memL) rfl rfl ?_; rintro _ _ _ ⟨rfl, p1, c1, p2, c2, ho1, ho2, rfl, rfl⟩; refine ⟨okK, ?_⟩)
        repeat (refine wXk ?_)
        refine ND_rets [4, 5] (by first | exact .inl rfl | exact .inr rfl) rfl rfl rfl _ _ subP incL (⟨rfl, p1, c1, p2, c2, ho1, ho2, rfl, rfl⟩)
end
end Go.Proofs.YtdmlebigkakplaaGreat
namespace Go.Proofs.YtdmlebigkakplaaGreat
open Go Go.Fx
section
variable {X : List Nat} {w0 : World} {M0 : List Ent} {I0 : List Imm}
theorem sg_sum1 {p q : Prop} [Decidable p] [Decidable q] {m n : Nat} (h : p ↔ q) : sg p (m + n) = sg p m + sg q n := by
  unfold sg
  by_cases hp : p
  · rw [if_pos hp, if_pos hp, if_pos (h.1 hp)]; omega
  · rw [if_neg hp, if_neg hp, if_neg (fun hq => hp (h.2 hq))]; omega
theorem sg_sum2 {p q : Prop} [Decidable p] [Decidable q] {m n : Nat} (h : ¬ (p ↔ q)) (hle : n ≤ m) : sg p (m - n) = sg p m + sg q n := by
  unfold sg
  by_cases hp : p
  · rw [if_pos hp, if_pos hp, if_neg (fun hq => h ⟨fun _ => hq, fun _ => hp⟩)]; omega
  · rw [if_neg hp, if_neg hp, if_pos (by rcases Classical.em q with hq | hq; exact hq; exact absurd ⟨fun h => absurd h hp, fun h => absurd h hq⟩ h)]; omega
set_option maxRecDepth 100000 in
theorem sum_ok {pn qn : Prop} [Decidable pn] [Decidable qn] {p q : Option Addr} {m n cp cq k : Nat} (hm : (gr m).length ≤ 50000000000) (hn : (gr n).length ≤ 50000000000) (hk : m + n ≤ 2 ^ k) (hk2 : k ≤ 1000000000000) (hp : slI p (recs eG (gr m)) ∈ I0) (hq : slI q (recs eG (gr n)) ∈ I0) :
    CD Tryz.prog 253 [.bool (B pn), .slice p (gr m).length cp, .bool (B qn), .slice q (gr n).length cq] X w0 M0 I0 (fun v M I => M0 = M ∧ I = isI v (sg pn m + sg qn n) k :: I0) := by
  have hC := fun M0 I0 => compare_ok (X := X) (w0 := w0) (M0 := M0) (I0 := I0) (p := p) (q := q) (m := m) (n := n) (cp := cp) (cq := cq) (by omega) (by omega)
  have hP := fun M0 I0 => plus_ok (X := X) (w0 := w0) (M0 := M0) (I0 := I0) (p := p) (q := q) (m := m) (n := n) (cp := cp) (cq := cq) (by omega) (by omega)
  have hM := fun M0 I0 (hle : n ≤ m) => minus_ok (X := X) (w0 := w0) (M0 := M0) (I0 := I0) (p := p) (q := q) (m := m) (n := n) (cp := cp) (cq := cq) (by omega) hle
  have hM2 := fun M0 I0 (hle : m ≤ n) => minus_ok (X := X) (w0 := w0) (M0 := M0) (I0 := I0) (p := q) (q := p) (m := n) (n := m) (cp := cq) (cq := cp) (by omega) hle
  have hl1 := len_pow hk hk2
  refine enterD Tryz.func253 rfl Tryz.ntmps253 rfl ?_
  refine TD_seq ?_
  refine TD_region ?_
  (refine RD_alloc rfl rfl ?_; intro b3; refine ⟨okK, ?_⟩)
  by_cases hpq : pn ↔ qn
  · repeat (refine wXk ?_)
    (refine RD_call rfl (hP _ _ memL memL) rfl rfl ?_; rintro _ _ _ ⟨rfl, q3, c3, rfl, hc3, rfl⟩; refine ⟨okK, ?_⟩)
    rw [← sg_sum1 hpq]
    (refine RD_call rfl (made_ok (p := pn) (k := k) (by omega) hc3 hk memL) rfl rfl ?_; rintro _ _ _ ⟨rfl, rfl⟩; refine ⟨okK, ?_⟩; refine RD_openI (List.Mem.head _) (fun q2 c2 e__ hc2 hz2 => ?_); subst e__)
    unfold iv
    repeat (refine wXk ?_)
    refine ND_retC (cs := [.bool (B (sg pn (m + n) < 0)), .slice q2 (gr (sg pn (m + n)).natAbs).length c2]) (.inl rfl) rfl rfl memL rfl _ _ subP incL ⟨rfl, rfl⟩
  · by_cases hge : n ≤ m
    · have hcv := cmpV_ge (x := (m : Int)) (y := (n : Int)) (by omega)
      have hk3 : m - n ≤ 2 ^ k := by omega
      have hl3 := len_pow hk3 hk2
      repeat (refine wXk ?_)
      (refine RD_call rfl (hC _ _ memL memL) rfl rfl ?_; rintro _ _ _ ⟨rfl, rfl, rfl⟩; refine ⟨okK, ?_⟩)
      repeat (refine wXk ?_)
      (refine RD_call rfl (hM _ _ hge memL memL) rfl rfl ?_; rintro _ _ _ ⟨rfl, q3, c3, rfl, hc3, rfl⟩; refine ⟨okK, ?_⟩)
      rw [← sg_sum2 hpq hge]
      (refine RD_call rfl (made_ok (p := pn) (k := k) (by omega) hc3 hk3 memL) rfl rfl ?_; rintro _ _ _ ⟨rfl, rfl⟩; refine ⟨okK, ?_⟩; refine RD_openI (List.Mem.head _) (fun q2 c2 e__ hc2 hz2 => ?_); subst e__)
      unfold iv
      repeat (refine wXk ?_)
      refine ND_retC (cs := [.bool (B (sg pn (m - n) < 0)), .slice q2 (gr (sg pn (m - n)).natAbs).length c2]) (.inl rfl) rfl rfl memL rfl _ _ subP incL ⟨rfl, rfl⟩
    · have hcv := cmpV_lt (x := (m : Int)) (y := (n : Int)) (by omega)
      have hk3 : n - m ≤ 2 ^ k := by omega
      have hl3 := len_pow hk3 hk2
      have hs : sg pn m + sg qn n = sg qn (n - m) := by rw [Int.add_comm, ← sg_sum2 (fun h => hpq h.symm) (by omega)]
      repeat (refine wXk ?_)
      (refine RD_call rfl (hC _ _ memL memL) rfl rfl ?_; rintro _ _ _ ⟨rfl, rfl, rfl⟩; refine ⟨okK, ?_⟩)
      repeat (refine wXk ?_)
      (refine RD_call rfl (hM2 _ _ (by omega) memL memL) rfl rfl ?_; rintro _ _ _ ⟨rfl, q3, c3, rfl, hc3, rfl⟩; refine ⟨okK, ?_⟩)
      rw [hs]
      (refine RD_call rfl (made_ok (p := qn) (k := k) (by omega) hc3 hk3 memL) rfl rfl ?_; rintro _ _ _ ⟨rfl, rfl⟩; refine ⟨okK, ?_⟩; refine RD_openI (List.Mem.head _) (fun q2 c2 e__ hc2 hz2 => ?_); subst e__)
      unfold iv
      repeat (refine wXk ?_)
      refine ND_retC (cs := [.bool (B (sg qn (n - m) < 0)), .slice q2 (gr (sg qn (n - m)).natAbs).length c2]) (.inl rfl) rfl rfl memL rfl _ _ subP incL ⟨rfl, rfl⟩
theorem Add_ok {u v : Value} {y z : Int} {k m c : Nat} (hk : k ≤ 1000000000000) (hm : m ≤ 1000000000000) (hc0 : c ≤ 1000000000000) (hs : 2 ^ k + 2 ^ m ≤ 2 ^ c) (hu : isI u y k ∈ I0) (hv : isI v z m ∈ I0) : CD Tryz.prog 225 [u, v] X w0 M0 I0 (fun v M I => M0 = M ∧ I = isI v (y + z) c :: I0) := by
  refine CD_openI hu (fun q cq e hc hy => ?_)
  subst e
  refine CD_openI (List.Mem.tail _ hv) (fun q' cq' e hc' hz => ?_)
  subst e
  have hl := len_pow hy (by omega)
  have hl' := len_pow hz (by omega)
  unfold iv
  refine enterD Tryz.func225 rfl Tryz.ntmps225 rfl ?_
  refine TD_seq ?_
  refine TD_region ?_
  (refine RD_box rfl rfl rfl ?_; intro b; refine ⟨okK, ?_⟩)
  (refine RD_box rfl rfl rfl ?_; intro b2; refine ⟨okK, ?_⟩)
  (refine RD_alloc rfl rfl ?_; intro b3; refine ⟨okK, ?_⟩)
  repeat' (first | refine TD_region ?_ | refine TD_ret ?_ | refine TD_skip ?_ | refine TD_label ?_ | refine TD_block ?_ | refine TD_exit ?_ | refine ND_then ?_ | refine ND_thenR ?_ | refine ND_thenE ?_ | refine ND_inN ?_ | refine ND_inR ?_ | refine ND_inE ?_ | refine ND_inO rfl ?_ | refine RD_nil ?_ | (refine RD_isGu ?_; first | refine RD_skip rfl rfl rfl ?_ | (refine RD_isEf rfl rfl ?_; refine RD_skipE rfl rfl rfl okK ?_) | refine RD_grdY rfl rfl (by omega) ?_ | refine RD_grdN rfl rfl (by omega) ?_ | refine RD_grd rfl rfl (fun h => ?_) (fun h => ?_) | (fail_if_success (refine RD_isW rfl ?_); refine RD_grdB rfl rfl (fun h => ?_) (fun h => ?_))) | (refine RD_isUn ?_; refine RD_c rfl (fun _ => Const_notB rfl) rfl rfl ?_) | refine RD_c rfl (fun _ => Const_pure rfl) rfl rfl ?_ | (refine RD_isBi ?_; first | refine RD_c rfl (fun _ => Const_add rfl rfl w_) rfl rfl ?_ | refine RD_c rfl (fun _ => Const_sub rfl rfl w_) rfl rfl ?_ | refine RD_c rfl (fun _ => Const_mul rfl rfl w_) rfl rfl ?_ | refine RD_c rfl (fun _ => Const_quo rfl rfl (by omega) q_) rfl rfl ?_ | refine RD_c rfl (fun _ => Const_rem rfl rfl (by omega) rfl) rfl rfl ?_ | refine RD_c rfl (fun _ => Const_half rfl rfl) rfl rfl ?_ | refine RD_c rfl (fun _ => Const_eqBB rfl rfl) rfl rfl ?_ | refine RD_c rfl (fun _ => Const_neBB rfl rfl) rfl rfl ?_) | (refine RD_isUn ?_; first | refine RD_c rfl (fun _ => Const_neg rfl w_) rfl rfl ?_) | (refine RD_isCv ?_; first | refine RD_c rfl (fun _ => Const_conv rfl w_) rfl rfl ?_) | (refine RD_isCa ?_; first | refine RD_c rfl (fun _ => Const_len rfl) rfl rfl ?_ | refine RD_c rfl (fun _ => Const_minM rfl rfl) rfl rfl ?_ | refine RD_c rfl (fun _ => Const_maxM rfl rfl) rfl rfl ?_ | refine RD_c rfl (fun _ => Const_min3 rfl rfl rfl) rfl rfl ?_) | (refine RD_isFa ?_; first | refine RD_fldP rfl (by decide) rfl rfl ?_ | refine RD_fld rfl (by decide) rfl rfl ?_) | (refine RD_isIx ?_; first | refine RD_ixB rfl rfl bdI rfl rfl ?_ | refine RD_ixI vwK rfl rfl bdI memL posC rfl rfl ?_ | refine RD_ixR vwK rfl rfl bdI memL posC rfl rfl ?_ | refine RD_c rfl (fun _ => Const_indexA rfl rfl bdI) rfl rfl ?_) | (refine RD_isLd ?_; first | refine RD_ldI vwK rfl memL atC rfl rfl ?_ | refine RD_ldR vwK rfl memL atC rfl rfl ?_ | refine RD_ldB vwK rfl memL atC rfl rfl ?_ | refine RD_ldIB vwK rfl memL atC rfl rfl ?_ | refine RD_ldNI vwK rfl memL atsC lenC rfl rfl ?_ | refine RD_ldNR vwK rfl memL atsC lenC rfl rfl ?_ | refine RD_ldNB vwK rfl memL atsC lenC rfl rfl ?_ | refine RD_ldNIB vwK rfl memL atsC lenC rfl rfl ?_) | (refine RD_isFd ?_; first | refine RD_c rfl (fun _ => Const_field1 rfl rfl) rfl rfl ?_ | refine RD_c rfl (fun _ => Const_fieldN rfl) rfl rfl ?_) | (refine RD_isSt ?_; first | refine RD_st rfl rfl rfl repE stC rfl rfl ⟨okK, ?_⟩ | refine RD_stN rfl rfl lenC oneC repE stsC rfl rfl ⟨okK, ?_⟩) | (refine TD_isCo ?_; first | refine TD_cond_true rfl ?_ | refine TD_cond_false rfl ?_ | refine TD_yes rfl (by omega) ?_ | refine TD_no rfl (by omega) ?_ | refine TD_dec rfl (fun h => ?_) (fun h => ?_) | refine TD_cond rfl (fun h => ?_) (fun h => ?_)))
  (repeat refine TD_seq ?_); refine TD_drawnJ 3 [0, 1, 2, 4, 5, 6, 3, 7, 8, 9] [3, 2, 2, 3, 2, 2, 0, 0, 0, 0] mixed (by kernel_rfl) ?_
  repeat (refine wXk ?_)
  (refine RD_call rfl (groups_ok (c := cq) hy (by omega) memL) rfl rfl ?_; rintro _ _ _ ⟨rfl, rfl, rfl⟩; refine ⟨okK, ?_⟩)
  repeat (refine wXk ?_)
  (refine RD_call rfl (groups_ok (c := cq') hz (by omega) memL) rfl rfl ?_; rintro _ _ _ ⟨rfl, rfl, rfl⟩; refine ⟨okK, ?_⟩)
  repeat (refine wXk ?_)
  have hyz : y.natAbs + z.natAbs ≤ 2 ^ c := Nat.le_trans (Nat.add_le_add hy hz) hs
  have hS := fun M0 I0 => sum_ok (X := X) (w0 := w0) (M0 := M0) (I0 := I0) (p := q) (q := q') (cp := cq) (cq := cq') (pn := y < 0) (qn := z < 0) (k := c) (by omega) (by omega) hyz hc0
  simp only [sg_self] at hS
  (refine RD_call rfl (hS _ _ memL memL) rfl rfl ?_; rintro _ _ _ ⟨rfl, rfl⟩; refine ⟨okK, ?_⟩; refine RD_openI (List.Mem.head _) (fun q2 c2 e__ hc2 hz2 => ?_); subst e__)
  unfold iv
  repeat (refine wXk ?_)
  refine ND_retC (cs := [.bool (B (y + z < 0)), .slice q2 (gr (y + z).natAbs).length c2]) (.inl rfl) rfl rfl memL rfl _ _ subP incL ⟨rfl, rfl⟩
end
end Go.Proofs.YtdmlebigkakplaaGreat
namespace Go.Proofs.YtdmlebigkakplaaGreat
open Go Go.Fx
section
variable {X : List Nat} {w0 : World} {M0 : List Ent} {I0 : List Imm}
set_option maxRecDepth 100000 in
set_option maxHeartbeats 4000000 in
theorem Gcd_ok {u v : Value} {y z : Int} {k0 m : Nat} (hk : k0 ≤ 1000000000) (hm : m ≤ 1000000000) (hu : isI u y k0 ∈ I0) (hv : isI v z m ∈ I0) : CD Tryz.prog 229 [u, v] X w0 M0 I0 (fun v M I => M0 = M ∧ I = isI v (Int.gcd y z) (k0 + m) :: I0) := by
  refine CD_openI hu (fun q cq e hc hy => ?_)
  subst e
  refine CD_openI (List.Mem.tail _ hv) (fun q' cq' e hc' hz => ?_)
  subst e
  have hy2 : y.natAbs ≤ 2 ^ (k0 + m) := Nat.le_trans hy (Nat.pow_le_pow_right (by decide) (by omega))
  have hz2 : z.natAbs ≤ 2 ^ (k0 + m) := Nat.le_trans hz (Nat.pow_le_pow_right (by decide) (by omega))
  unfold iv
  refine enterD Tryz.func229 rfl Tryz.ntmps229 rfl ?_
  refine TD_seq ?_
  refine TD_region ?_
  (refine RD_box rfl rfl rfl ?_; intro b; refine ⟨okK, ?_⟩)
  (refine RD_box rfl rfl rfl ?_; intro b2; refine ⟨okK, ?_⟩)
  (refine RD_alloc rfl rfl ?_; intro b3; refine ⟨okK, ?_⟩)
  repeat' (first | refine TD_region ?_ | refine TD_ret ?_ | refine TD_skip ?_ | refine TD_label ?_ | refine TD_block ?_ | refine TD_exit ?_ | refine ND_then ?_ | refine ND_thenR ?_ | refine ND_thenE ?_ | refine ND_inN ?_ | refine ND_inR ?_ | refine ND_inE ?_ | refine ND_inO rfl ?_ | refine RD_nil ?_ | (refine RD_isGu ?_; first | refine RD_skip rfl rfl rfl ?_ | (refine RD_isEf rfl rfl ?_; refine RD_skipE rfl rfl rfl okK ?_) | refine RD_grdY rfl rfl (by omega) ?_ | refine RD_grdN rfl rfl (by omega) ?_ | refine RD_grd rfl rfl (fun h => ?_) (fun h => ?_) | (fail_if_success (refine RD_isW rfl ?_); refine RD_grdB rfl rfl (fun h => ?_) (fun h => ?_))) | (refine RD_isUn ?_; refine RD_c rfl (fun _ => Const_notB rfl) rfl rfl ?_) | refine RD_c rfl (fun _ => Const_pure rfl) rfl rfl ?_ | (refine RD_isBi ?_; first | refine RD_c rfl (fun _ => Const_add rfl rfl w_) rfl rfl ?_ | refine RD_c rfl (fun _ => Const_sub rfl rfl w_) rfl rfl ?_ | refine RD_c rfl (fun _ => Const_mul rfl rfl w_) rfl rfl ?_ | refine RD_c rfl (fun _ => Const_quo rfl rfl (by omega) q_) rfl rfl ?_ | refine RD_c rfl (fun _ => Const_rem rfl rfl (by omega) rfl) rfl rfl ?_ | refine RD_c rfl (fun _ => Const_half rfl rfl) rfl rfl ?_ | refine RD_c rfl (fun _ => Const_eqBB rfl rfl) rfl rfl ?_ | refine RD_c rfl (fun _ => Const_neBB rfl rfl) rfl rfl ?_) | (refine RD_isUn ?_; first | refine RD_c rfl (fun _ => Const_neg rfl w_) rfl rfl ?_) | (refine RD_isCv ?_; first | refine RD_c rfl (fun _ => Const_conv rfl w_) rfl rfl ?_) | (refine RD_isCa ?_; first | refine RD_c rfl (fun _ => Const_len rfl) rfl rfl ?_ | refine RD_c rfl (fun _ => Const_minM rfl rfl) rfl rfl ?_ | refine RD_c rfl (fun _ => Const_maxM rfl rfl) rfl rfl ?_ | refine RD_c rfl (fun _ => Const_min3 rfl rfl rfl) rfl rfl ?_) | (refine RD_isFa ?_; first | refine RD_fldP rfl (by decide) rfl rfl ?_ | refine RD_fld rfl (by decide) rfl rfl ?_) | (refine RD_isIx ?_; first | refine RD_ixB rfl rfl bdI rfl rfl ?_ | refine RD_ixI vwK rfl rfl bdI memL posC rfl rfl ?_ | refine RD_ixR vwK rfl rfl bdI memL posC rfl rfl ?_ | refine RD_c rfl (fun _ => Const_indexA rfl rfl bdI) rfl rfl ?_) | (refine RD_isLd ?_; first | refine RD_ldI vwK rfl memL atC rfl rfl ?_ | refine RD_ldR vwK rfl memL atC rfl rfl ?_ | refine RD_ldB vwK rfl memL atC rfl rfl ?_ | refine RD_ldIB vwK rfl memL atC rfl rfl ?_ | refine RD_ldNI vwK rfl memL atsC lenC rfl rfl ?_ | refine RD_ldNR vwK rfl memL atsC lenC rfl rfl ?_ | refine RD_ldNB vwK rfl memL atsC lenC rfl rfl ?_ | refine RD_ldNIB vwK rfl memL atsC lenC rfl rfl ?_) | (refine RD_isFd ?_; first | refine RD_c rfl (fun _ => Const_field1 rfl rfl) rfl rfl ?_ | refine RD_c rfl (fun _ => Const_fieldN rfl) rfl rfl ?_) | (refine RD_isSt ?_; first | refine RD_st rfl rfl rfl repE stC rfl rfl ⟨okK, ?_⟩ | refine RD_stN rfl rfl lenC oneC repE stsC rfl rfl ⟨okK, ?_⟩) | (refine TD_isCo ?_; first | refine TD_cond_true rfl ?_ | refine TD_cond_false rfl ?_ | refine TD_yes rfl (by omega) ?_ | refine TD_no rfl (by omega) ?_ | refine TD_dec rfl (fun h => ?_) (fun h => ?_) | refine TD_cond rfl (fun h => ?_) (fun h => ?_)))
  (repeat refine TD_seq ?_); refine TD_drawnJ 3 [0, 2, 1, 3, 4, 5] [1, 1, 0, 0, 0, 0] mixed (by kernel_rfl) ?_
  repeat (refine wXk ?_)
  (refine RD_call rfl (groups_ok (c := cq) hy (by omega) memL) rfl rfl ?_; rintro _ _ _ ⟨rfl, rfl, rfl⟩; refine ⟨okK, ?_⟩)
  repeat (refine wXk ?_)
  (refine RD_call rfl (groups_ok (c := cq') hz (by omega) memL) rfl rfl ?_; rintro _ _ _ ⟨rfl, rfl, rfl⟩; refine ⟨okK, ?_⟩)
  repeat (refine wXk ?_)
  refine TD_loop [4] rfl (fun k G M I => ∃ (a b : Nat) (pa pb : Option Addr) (ca cb : Nat), k = b ∧ a ≤ 2 ^ (k0 + m) ∧ b ≤ 2 ^ (k0 + m) ∧ OkC pa a ca ∧ OkC pb b cb ∧ Nat.gcd a b = Nat.gcd y.natAbs z.natAbs ∧ G = [(5, .slice pa (gr a).length ca), (6, .slice pb (gr b).length cb)] ∧ M = .blk b3 [.bool false, .slice none 0 0] 24 :: M0 ∧ I = slI pa (recs eG (gr a)) :: slI pb (recs eG (gr b)) :: I0) (z.natAbs) _ _ _ subG subP incL (⟨y.natAbs, z.natAbs, q, q', cq, cq', rfl, hy2, hz2, hc, hc', rfl, rfl, rfl, rfl⟩) ?_
  rintro k G M I ⟨a, b', pa, pb, ca, cb, rfl, ha, hb, oa, ob, hg, rfl, rfl, rfl⟩
  have la := gr_len_pow ha
  have lb := gr_len_pow hb
  have hW1 := fun M0 I0 => word_ok (X := X) (w0 := w0) (M0 := M0) (I0 := I0) (q := pa) (n := a) (c := ca) (by omega)
  have hW2 := fun M0 I0 => word_ok (X := X) (w0 := w0) (M0 := M0) (I0 := I0) (q := pb) (n := k) (c := cb) (by omega)
  by_cases hk0 : k = 0
  · subst hk0
    have hl0 : (gr 0).length = 0 := by rw [gr_zero]; rfl
    rw [Nat.gcd_zero_right] at hg
    have hz : (Int.gcd y z : Int) = sg False a := by unfold sg; rw [if_neg (fun h => h), hg]; rfl
    repeat (refine wXk ?_)
    (refine RD_call rfl (cloneG_ok (a := gr a) (by omega) oa.2 memL) rfl rfl ?_; rintro _ _ _ ⟨rfl, q', c', rfl, rfl⟩; refine ⟨okK, ?_⟩)
    refine RD_fact (fun w hw => And.intro (hw.rowLe (List.Mem.head _)) ((hw.rowS (List.Mem.head _)).2.imp id And.right)) (fun hc' => ?_)
    refine RD_freezeR remE ?_
    repeat (refine wXk ?_)
    rw [hz]
    have hMd := fun M0 I0 => made_ok (X := X) (w0 := w0) (M0 := M0) (I0 := I0) (p := False) (q := q') (c := c') (k := k0 + m) (by omega) hc' ha
    simp only [B_false (show ¬ False from id)] at hMd
    (refine RD_call rfl (hMd _ _ memL) rfl rfl ?_; rintro _ _ _ ⟨rfl, rfl⟩; refine ⟨okK, ?_⟩; refine RD_openI (List.Mem.head _) (fun q2 c2 e__ hc2 hz2 => ?_); subst e__)
    unfold iv
    repeat (refine wXk ?_)
    refine ND_retC (cs := [.bool (B (sg False a < 0)), .slice q2 (gr (sg False a).natAbs).length c2]) (.inl rfl) rfl rfl memL rfl _ _ subP incL ⟨rfl, rfl⟩
  · have hlk : 0 < (gr k).length := List.length_pos_iff.2 (fun e => hk0 (gr_nil.1 e))
    by_cases hw : (gr a).length ≤ 2 ∧ (gr k).length ≤ 2
    · have hb9 : ∀ t : Nat, (gr t).length ≤ 2 → t < 1000000000000000000 := fun t ht => by
        have := val_lt (gr_dig t)
        rw [gr_val] at this
        have h2 : (1000000000 : Int) ^ (gr t).length ≤ 1000000000 ^ 2 := pow_mono9 ht
        omega
      have a9 := hb9 a hw.1
      have k9 := hb9 k hw.2
      rw [if_pos hw.1, B_true hw.1] at hW1
      rw [if_pos hw.2, B_true hw.2] at hW2
      repeat (refine wXk ?_)
      (refine RD_call rfl (hW1 _ _ memL) rfl rfl ?_; rintro _ _ _ ⟨rfl, rfl, rfl⟩; refine ⟨okK, ?_⟩)
      repeat (refine wXk ?_)
      (refine RD_call rfl (hW2 _ _ memL) rfl rfl ?_; rintro _ _ _ ⟨rfl, rfl, rfl⟩; refine ⟨okK, ?_⟩)
      repeat (refine wXk ?_)
      refine TD_loop [4] rfl (fun k G M I => ∃ (x x2 : Nat), k = x2 ∧ x < 1000000000000000000 ∧ x2 < 1000000000000000000 ∧ x ≤ 2 ^ (k0 + m) ∧ x2 ≤ 2 ^ (k0 + m) ∧ Nat.gcd x x2 = Nat.gcd y.natAbs z.natAbs ∧ G = [(7, .int .u64 x), (9, .int .u64 x2)] ∧ M = .blk b3 [.bool false, .slice none 0 0] 24 :: M0 ∧ I0 = I) (k) _ _ _ subG subP incL (⟨a, k, rfl, a9, k9, ha, hb, hg, rfl, rfl, rfl⟩) ?_
      rintro k G M I ⟨x, x2, rfl, hx9, hx29, hx, hx2, hxg, rfl, rfl, rfl⟩
      by_cases hx0 : k = 0
      · subst hx0
        rw [Nat.gcd_zero_right] at hxg
        have hz : (Int.gcd y z : Int) = sg False x := by unfold sg; rw [if_neg (fun h => h), hxg]; rfl
        repeat (refine wXk ?_)
        (refine RD_call rfl (split_ok (n := x) (by omega)) rfl rfl ?_; rintro _ _ _ ⟨rfl, q', c', rfl, hc', rfl⟩; refine ⟨okK, ?_⟩)
        rw [hz]
        have hMd := fun M0 I0 => made_ok (X := X) (w0 := w0) (M0 := M0) (I0 := I0) (p := False) (q := q') (c := c') (k := k0 + m) (by have := gr_len_pow hx; omega) hc' hx
        simp only [B_false (show ¬ False from id)] at hMd
        (refine RD_call rfl (hMd _ _ memL) rfl rfl ?_; rintro _ _ _ ⟨rfl, rfl⟩; refine ⟨okK, ?_⟩; refine RD_openI (List.Mem.head _) (fun q2 c2 e__ hc2 hz2 => ?_); subst e__)
        unfold iv
        repeat (refine wXk ?_)
        refine ND_retC (cs := [.bool (B (sg False x < 0)), .slice q2 (gr (sg False x).natAbs).length c2]) (.inl rfl) rfl rfl memL rfl _ _ subP incL ⟨rfl, rfl⟩
      · have e2 : ((x : Int)).tmod (k : Int) = ((x % k : Nat) : Int) := by rw [Int.tmod_eq_emod_of_nonneg (by omega), Int.natCast_emod]
        have hmod := Nat.mod_lt x (show k > 0 by omega)
        have hg2 : Nat.gcd k (x % k) = Nat.gcd y.natAbs z.natAbs := by rw [← hxg, Nat.gcd_comm x k, Nat.gcd_rec k x, Nat.gcd_comm]
        repeat (refine wXk ?_)
        (repeat refine TD_seq ?_); refine TD_drawn [0, 1, 2, 3, 4, 5] [0, 0, 0, 0, 0, 0] mixed (by kernel_rfl) ?_
        repeat (refine wXk ?_)
        rw [e2]
        refine ND_again (x % k) _ _ _ (by first | omega | (simp only [List.length_append, List.length_cons, List.length_nil]; omega)) subG subP incL (⟨k, x % k, rfl, by omega, by omega, hx2, by omega, hg2, rfl, rfl, rfl⟩)
    · have hO := fun M0 I0 => over_ok (X := X) (w0 := w0) (M0 := M0) (I0 := I0) (p := pa) (q := pb) (m := a) (n := k) (cp := ca) (cq := cb) (by omega) (by omega) (by omega) oa
      have hmod := Nat.mod_lt a (show k > 0 by omega)
      have hg2 : Nat.gcd k (a % k) = Nat.gcd y.natAbs z.natAbs := by rw [← hg, Nat.gcd_comm a k, Nat.gcd_rec k a, Nat.gcd_comm]
      by_cases hw1 : (gr a).length ≤ 2
      · have hw2 : ¬ (gr k).length ≤ 2 := fun h => hw ⟨hw1, h⟩
        rw [if_pos hw1, B_true hw1] at hW1
        rw [if_neg hw2, B_false hw2] at hW2
        repeat (refine wXk ?_)
        (refine RD_call rfl (hW1 _ _ memL) rfl rfl ?_; rintro _ _ _ ⟨rfl, rfl, rfl⟩; refine ⟨okK, ?_⟩)
        repeat (refine wXk ?_)
        (refine RD_call rfl (hW2 _ _ memL) rfl rfl ?_; rintro _ _ _ ⟨rfl, rfl, rfl⟩; refine ⟨okK, ?_⟩)
        repeat (refine wXk ?_)
        (refine RD_call rfl (hO _ _ memL memL) rfl rfl ?_; rintro _ _ _ ⟨rfl, p1, c1, p2, c2, ho1, ho2, rfl, rfl⟩; refine ⟨okK, ?_⟩)
        repeat (refine wXk ?_)
        refine ND_again (a % k) _ _ _ (by first | omega | (simp only [List.length_append, List.length_cons, List.length_nil]; omega)) subG subP incL (⟨k, a % k, pb, p2, cb, c2, rfl, hb, by omega, ob, ho2, hg2, rfl, rfl, rfl⟩)
      · rw [if_neg hw1, B_false hw1] at hW1
        repeat (refine wXk ?_)
        (refine RD_call rfl (hW1 _ _ memL) rfl rfl ?_; rintro _ _ _ ⟨rfl, rfl, rfl⟩; refine ⟨okK, ?_⟩)
        repeat (refine wXk ?_)
        (refine RD_call rfl (hW2 _ _ memL) rfl rfl ?_; rintro _ _ _ ⟨rfl, rfl, rfl⟩; refine ⟨okK, ?_⟩)
        repeat (refine wXk ?_)
        (refine RD_call rfl (hO _ _ memL memL) rfl rfl ?_; rintro _ _ _ ⟨rfl, p1, c1, p2, c2, ho1, ho2, rfl, rfl⟩; refine ⟨okK, ?_⟩)
        repeat (refine wXk ?_)
        refine ND_again (a % k) _ _ _ (by first | omega | (simp only [List.length_append, List.length_cons, List.length_nil]; omega)) subG subP incL (⟨k, a % k, pb, p2, cb, c2, rfl, hb, by omega, ob, ho2, hg2, rfl, rfl, rfl⟩)
end
end Go.Proofs.YtdmlebigkakplaaGreat
