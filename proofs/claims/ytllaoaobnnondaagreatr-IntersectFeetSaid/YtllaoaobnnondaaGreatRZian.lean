/- integer: Of, sum integer: Gcd integer: Compare integer: Of -/
import Derived.Test.YtllaoaobnnondaaGreatRZiam
import Derived.Test.YtllaoaobnnondaaGreatRZiak
set_option linter.unusedSimpArgs false
set_option linter.unusedVariables false
namespace Go.Proofs.YtllaoaobnnondaaGreatR
open Go Go.Fx
section
variable {X : List Nat} {w0 : World} {M0 : List Ent} {I0 : List Imm}
theorem sg_sum1 {p q : Prop} [Decidable p] [Decidable q] {m n : Nat} (h : p ↔ q) : sg p (m + n) = sg p m + sg q n := by
  unfold sg
  by_cases hp : p
  · rw [if_pos hp, if_pos hp, if_pos (h.1 hp)]; omega
  · rw [if_neg hp, if_neg hp, if_neg (fun hq => hp (h.2 hq))]; omega
theorem sg_sum2 {p q : Prop} [Decidable p] [Decidable q] {m n : Nat} (h : ¬ (p ↔ q)) (hle : n ≤ m) : sg p (m - n) = sg p m + sg q n := by
  unfold sg
  by_cases hp : p
  · rw [if_pos hp, if_pos hp, if_neg (fun hq => h ⟨fun _ => hq, fun _ => hp⟩)]; omega
  · rw [if_neg hp, if_neg hp, if_pos (by rcases Classical.em q with hq | hq; exact hq; exact absurd ⟨fun h => absurd h hp, fun h => absurd h hq⟩ h)]; omega
set_option maxRecDepth 100000 in
theorem sum_ok {pn qn : Prop} [Decidable pn] [Decidable qn] {p q : Option Addr} {m n cp cq k : Nat} (hm : (gr m).length ≤ 50000000000) (hn : (gr n).length ≤ 50000000000) (hk : m + n ≤ 2 ^ k) (hk2 : k ≤ 1000000000000) (hp : slI p (recs eG (gr m)) ∈ I0) (hq : slI q (recs eG (gr n)) ∈ I0) :
    CD Tryz.prog 250 [.bool (B pn), .slice p (gr m).length cp, .bool (B qn), .slice q (gr n).length cq] X w0 M0 I0 (fun v M I => M0 = M ∧ I = isI v (sg pn m + sg qn n) k :: I0) := by
  have hC := fun M0 I0 => compare_ok (X := X) (w0 := w0) (M0 := M0) (I0 := I0) (p := p) (q := q) (m := m) (n := n) (cp := cp) (cq := cq) (by omega) (by omega)
  have hP := fun M0 I0 => plus_ok (X := X) (w0 := w0) (M0 := M0) (I0 := I0) (p := p) (q := q) (m := m) (n := n) (cp := cp) (cq := cq) (by omega) (by omega)
  have hM := fun M0 I0 (hle : n ≤ m) => minus_ok (X := X) (w0 := w0) (M0 := M0) (I0 := I0) (p := p) (q := q) (m := m) (n := n) (cp := cp) (cq := cq) (by omega) hle
  have hM2 := fun M0 I0 (hle : m ≤ n) => minus_ok (X := X) (w0 := w0) (M0 := M0) (I0 := I0) (p := q) (q := p) (m := n) (n := m) (cp := cq) (cq := cp) (by omega) hle
  have hl1 := len_pow hk hk2
  refine enterD Tryz.func250 rfl Tryz.ntmps250 rfl ?_
  refine TD_seq ?_
  refine TD_region ?_
  (refine RD_alloc rfl rfl ?_; intro b3; refine ⟨okK, ?_⟩)
  by_cases hpq : pn ↔ qn
  · repeat (refine wXk ?_)
    (refine RD_call rfl (hP _ _ memL memL) rfl rfl ?_; rintro _ _ _ ⟨rfl, q3, c3, rfl, hc3, rfl⟩; refine ⟨okK, ?_⟩)
    rw [← sg_sum1 hpq]
    (refine RD_call rfl (made_ok (p := pn) (k := k) (by omega) hc3 hk memL) rfl rfl ?_; rintro _ _ _ ⟨rfl, rfl⟩; refine ⟨okK, ?_⟩; refine RD_openI (List.Mem.head _) (fun q2 c2 e__ hc2 hz2 => ?_); subst e__)
    unfold iv
    repeat (refine wXk ?_)
    refine ND_retC (cs := [.bool (B (sg pn (m + n) < 0)), .slice q2 (gr (sg pn (m + n)).natAbs).length c2]) (.inl rfl) rfl rfl memL rfl _ _ subP incL ⟨rfl, rfl⟩
  · by_cases hge : n ≤ m
    · have hcv := cmpV_ge (x := (m : Int)) (y := (n : Int)) (by omega)
      have hk3 : m - n ≤ 2 ^ k := by omega
      have hl3 := len_pow hk3 hk2
      repeat (refine wXk ?_)
      (refine RD_call rfl (hC _ _ memL memL) rfl rfl ?_; rintro _ _ _ ⟨rfl, rfl, rfl⟩; refine ⟨okK, ?_⟩)
      repeat (refine wXk ?_)
      (refine RD_call rfl (hM _ _ hge memL memL) rfl rfl ?_; rintro _ _ _ ⟨rfl, q3, c3, rfl, hc3, rfl⟩; refine ⟨okK, ?_⟩)
      rw [← sg_sum2 hpq hge]
      (refine RD_call rfl (made_ok (p := pn) (k := k) (by omega) hc3 hk3 memL) rfl rfl ?_; rintro _ _ _ ⟨rfl, rfl⟩; refine ⟨okK, ?_⟩; refine RD_openI (List.Mem.head _) (fun q2 c2 e__ hc2 hz2 => ?_); subst e__)
      unfold iv
      repeat (refine wXk ?_)
      refine ND_retC (cs := [.bool (B (sg pn (m - n) < 0)), .slice q2 (gr (sg pn (m - n)).natAbs).length c2]) (.inl rfl) rfl rfl memL rfl _ _ subP incL ⟨rfl, rfl⟩
    · have hcv := cmpV_lt (x := (m : Int)) (y := (n : Int)) (by omega)
      have hk3 : n - m ≤ 2 ^ k := by omega
      have hl3 := len_pow hk3 hk2
      have hs : sg pn m + sg qn n = sg qn (n - m) := by rw [Int.add_comm, ← sg_sum2 (fun h => hpq h.symm) (by omega)]
      repeat (refine wXk ?_)
      (refine RD_call rfl (hC _ _ memL memL) rfl rfl ?_; rintro _ _ _ ⟨rfl, rfl, rfl⟩; refine ⟨okK, ?_⟩)
      repeat (refine wXk ?_)
      (refine RD_call rfl (hM2 _ _ (by omega) memL memL) rfl rfl ?_; rintro _ _ _ ⟨rfl, q3, c3, rfl, hc3, rfl⟩; refine ⟨okK, ?_⟩)
      rw [hs]
      (refine RD_call rfl (made_ok (p := qn) (k := k) (by omega) hc3 hk3 memL) rfl rfl ?_; rintro _ _ _ ⟨rfl, rfl⟩; refine ⟨okK, ?_⟩; refine RD_openI (List.Mem.head _) (fun q2 c2 e__ hc2 hz2 => ?_); subst e__)
      unfold iv
      repeat (refine wXk ?_)
      refine ND_retC (cs := [.bool (B (sg qn (n - m) < 0)), .slice q2 (gr (sg qn (n - m)).natAbs).length c2]) (.inl rfl) rfl rfl memL rfl _ _ subP incL ⟨rfl, rfl⟩
theorem Add_ok {u v : Value} {y z : Int} {k m c : Nat} (hk : k ≤ 1000000000000) (hm : m ≤ 1000000000000) (hc0 : c ≤ 1000000000000) (hs : 2 ^ k + 2 ^ m ≤ 2 ^ c) (hu : isI u y k ∈ I0) (hv : isI v z m ∈ I0) : CD Tryz.prog 219 [u, v] X w0 M0 I0 (fun v M I => M0 = M ∧ I = isI v (y + z) c :: I0) := by
  refine CD_openI hu (fun q cq e hc hy => ?_)
  subst e
  refine CD_openI (List.Mem.tail _ hv) (fun q' cq' e hc' hz => ?_)
  subst e
  have hl := len_pow hy (by omega)
  have hl' := len_pow hz (by omega)
  unfold iv
  refine enterD Tryz.func219 rfl Tryz.ntmps219 rfl ?_
  refine TD_seq ?_
  refine TD_region ?_
  (refine RD_box rfl rfl rfl ?_; intro b; refine ⟨okK, ?_⟩)
  (refine RD_box rfl rfl rfl ?_; intro b2; refine ⟨okK, ?_⟩)
  (refine RD_alloc rfl rfl ?_; intro b3; refine ⟨okK, ?_⟩)
  repeat' (first | refine TD_region ?_ | refine TD_ret ?_ | refine TD_skip ?_ | refine TD_label ?_ | refine TD_block ?_ | refine TD_exit ?_ | refine ND_then ?_ | refine ND_thenR ?_ | refine ND_thenE ?_ | refine ND_inN ?_ | refine ND_inR ?_ | refine ND_inE ?_ | refine ND_inO rfl ?_ | refine RD_nil ?_ | (refine RD_isGu ?_; first | refine RD_skip rfl rfl rfl ?_ | (refine RD_isEf rfl rfl ?_; refine RD_skipE rfl rfl rfl okK ?_) | refine RD_grdY rfl rfl (by omega) ?_ | refine RD_grdN rfl rfl (by omega) ?_ | refine RD_grd rfl rfl (fun h => ?_) (fun h => ?_) | (fail_if_success (refine RD_isW rfl ?_); refine RD_grdB rfl rfl (fun h => ?_) (fun h => ?_))) | (refine RD_isUn ?_; refine RD_c rfl (fun _ => Const_notB rfl) rfl rfl ?_) | refine RD_c rfl (fun _ => Const_pure rfl) rfl rfl ?_ | (refine RD_isBi ?_; first | refine RD_c rfl (fun _ => Const_add rfl rfl w_) rfl rfl ?_ | refine RD_c rfl (fun _ => Const_sub rfl rfl w_) rfl rfl ?_ | refine RD_c rfl (fun _ => Const_mul rfl rfl w_) rfl rfl ?_ | refine RD_c rfl (fun _ => Const_quo rfl rfl (by omega) q_) rfl rfl ?_ | refine RD_c rfl (fun _ => Const_rem rfl rfl (by omega) rfl) rfl rfl ?_ | refine RD_c rfl (fun _ => Const_half rfl rfl) rfl rfl ?_ | refine RD_c rfl (fun _ => Const_eqBB rfl rfl) rfl rfl ?_ | refine RD_c rfl (fun _ => Const_neBB rfl rfl) rfl rfl ?_) | (refine RD_isUn ?_; first | refine RD_c rfl (fun _ => Const_neg rfl w_) rfl rfl ?_) | (refine RD_isCv ?_; first | refine RD_c rfl (fun _ => Const_conv rfl w_) rfl rfl ?_) | (refine RD_isCa ?_; first | refine RD_c rfl (fun _ => Const_len rfl) rfl rfl ?_ | refine RD_c rfl (fun _ => Const_minM rfl rfl) rfl rfl ?_ | refine RD_c rfl (fun _ => Const_maxM rfl rfl) rfl rfl ?_ | refine RD_c rfl (fun _ => Const_min3 rfl rfl rfl) rfl rfl ?_) | (refine RD_isFa ?_; first | refine RD_fldP rfl (by decide) rfl rfl ?_ | refine RD_fld rfl (by decide) rfl rfl ?_) | (refine RD_isIx ?_; first | refine RD_ixB rfl rfl bdI rfl rfl ?_ | refine RD_ixI vwK rfl rfl bdI memL posC rfl rfl ?_ | refine RD_ixR vwK rfl rfl bdI memL posC rfl rfl ?_ | refine RD_c rfl (fun _ => Const_indexA rfl rfl bdI) rfl rfl ?_) | (refine RD_isLd ?_; first | refine RD_ldI vwK rfl memL atC rfl rfl ?_ | refine RD_ldR vwK rfl memL atC rfl rfl ?_ | refine RD_ldB vwK rfl memL atC rfl rfl ?_ | refine RD_ldIB vwK rfl memL atC rfl rfl ?_ | refine RD_ldNI vwK rfl memL atsC lenC rfl rfl ?_ | refine RD_ldNR vwK rfl memL atsC lenC rfl rfl ?_ | refine RD_ldNB vwK rfl memL atsC lenC rfl rfl ?_ | refine RD_ldNIB vwK rfl memL atsC lenC rfl rfl ?_) | (refine RD_isFd ?_; first | refine RD_c rfl (fun _ => Const_field1 rfl rfl) rfl rfl ?_ | refine RD_c rfl (fun _ => Const_fieldN rfl) rfl rfl ?_) | (refine RD_isSt ?_; first | refine RD_st rfl rfl rfl repE stC rfl rfl ⟨okK, ?_⟩ | refine RD_stN rfl rfl lenC oneC repE stsC rfl rfl ⟨okK, ?_⟩) | (refine TD_isCo ?_; first | refine TD_cond_true rfl ?_ | refine TD_cond_false rfl ?_ | refine TD_yes rfl (by omega) ?_ | refine TD_no rfl (by omega) ?_ | refine TD_dec rfl (fun h => ?_) (fun h => ?_) | refine TD_cond rfl (fun h => ?_) (fun h => ?_)))
  (repeat refine TD_seq ?_); refine TD_drawnJ 3 [0, 1, 2, 4, 5, 6, 3, 7, 8, 9] [3, 2, 2, 3, 2, 2, 0, 0, 0, 0] mixed (by kernel_rfl) ?_
  repeat (refine wXk ?_)
  (refine RD_call rfl (groups_ok (c := cq) hy (by omega) memL) rfl rfl ?_; rintro _ _ _ ⟨rfl, rfl, rfl⟩; refine ⟨okK, ?_⟩)
  repeat (refine wXk ?_)
  (refine RD_call rfl (groups_ok (c := cq') hz (by omega) memL) rfl rfl ?_; rintro _ _ _ ⟨rfl, rfl, rfl⟩; refine ⟨okK, ?_⟩)
  repeat (refine wXk ?_)
  have hyz : y.natAbs + z.natAbs ≤ 2 ^ c := Nat.le_trans (Nat.add_le_add hy hz) hs
  have hS := fun M0 I0 => sum_ok (X := X) (w0 := w0) (M0 := M0) (I0 := I0) (p := q) (q := q') (cp := cq) (cq := cq') (pn := y < 0) (qn := z < 0) (k := c) (by omega) (by omega) hyz hc0
  simp only [sg_self] at hS
  (refine RD_call rfl (hS _ _ memL memL) rfl rfl ?_; rintro _ _ _ ⟨rfl, rfl⟩; refine ⟨okK, ?_⟩; refine RD_openI (List.Mem.head _) (fun q2 c2 e__ hc2 hz2 => ?_); subst e__)
  unfold iv
  repeat (refine wXk ?_)
  refine ND_retC (cs := [.bool (B (y + z < 0)), .slice q2 (gr (y + z).natAbs).length c2]) (.inl rfl) rfl rfl memL rfl _ _ subP incL ⟨rfl, rfl⟩
end
end Go.Proofs.YtllaoaobnnondaaGreatR
namespace Go.Proofs.YtllaoaobnnondaaGreatR
open Go Go.Fx
section
variable {X : List Nat} {w0 : World} {M0 : List Ent} {I0 : List Imm}
set_option maxRecDepth 100000 in
set_option maxHeartbeats 4000000 in
theorem Gcd_ok {u v : Value} {y z : Int} {k0 m : Nat} (hk : k0 ≤ 1000000000) (hm : m ≤ 1000000000) (hu : isI u y k0 ∈ I0) (hv : isI v z m ∈ I0) : CD Tryz.prog 195 [u, v] X w0 M0 I0 (fun v M I => M0 = M ∧ I = isI v (Int.gcd y z) (k0 + m) :: I0) := by
  refine CD_openI hu (fun q cq e hc hy => ?_)
  subst e
  refine CD_openI (List.Mem.tail _ hv) (fun q' cq' e hc' hz => ?_)
  subst e
  have hy2 : y.natAbs ≤ 2 ^ (k0 + m) := Nat.le_trans hy (Nat.pow_le_pow_right (by decide) (by omega))
  have hz2 : z.natAbs ≤ 2 ^ (k0 + m) := Nat.le_trans hz (Nat.pow_le_pow_right (by decide) (by omega))
  unfold iv
  refine enterD Tryz.func195 rfl Tryz.ntmps195 rfl ?_
  refine TD_seq ?_
  refine TD_region ?_
  (refine RD_box rfl rfl rfl ?_; intro b; refine ⟨okK, ?_⟩)
  (refine RD_box rfl rfl rfl ?_; intro b2; refine ⟨okK, ?_⟩)
  (refine RD_alloc rfl rfl ?_; intro b3; refine ⟨okK, ?_⟩)
  repeat' (first | refine TD_region ?_ | refine TD_ret ?_ | refine TD_skip ?_ | refine TD_label ?_ | refine TD_block ?_ | refine TD_exit ?_ | refine ND_then ?_ | refine ND_thenR ?_ | refine ND_thenE ?_ | refine ND_inN ?_ | refine ND_inR ?_ | refine ND_inE ?_ | refine ND_inO rfl ?_ | refine RD_nil ?_ | (refine RD_isGu ?_; first | refine RD_skip rfl rfl rfl ?_ | (refine RD_isEf rfl rfl ?_; refine RD_skipE rfl rfl rfl okK ?_) | refine RD_grdY rfl rfl (by omega) ?_ | refine RD_grdN rfl rfl (by omega) ?_ | refine RD_grd rfl rfl (fun h => ?_) (fun h => ?_) | (fail_if_success (refine RD_isW rfl ?_); refine RD_grdB rfl rfl (fun h => ?_) (fun h => ?_))) | (refine RD_isUn ?_; refine RD_c rfl (fun _ => Const_notB rfl) rfl rfl ?_) | refine RD_c rfl (fun _ => Const_pure rfl) rfl rfl ?_ | (refine RD_isBi ?_; first | refine RD_c rfl (fun _ => Const_add rfl rfl w_) rfl rfl ?_ | refine RD_c rfl (fun _ => Const_sub rfl rfl w_) rfl rfl ?_ | refine RD_c rfl (fun _ => Const_mul rfl rfl w_) rfl rfl ?_ | refine RD_c rfl (fun _ => Const_quo rfl rfl (by omega) q_) rfl rfl ?_ | refine RD_c rfl (fun _ => Const_rem rfl rfl (by omega) rfl) rfl rfl ?_ | refine RD_c rfl (fun _ => Const_half rfl rfl) rfl rfl ?_ | refine RD_c rfl (fun _ => Const_eqBB rfl rfl) rfl rfl ?_ | refine RD_c rfl (fun _ => Const_neBB rfl rfl) rfl rfl ?_) | (refine RD_isUn ?_; first | refine RD_c rfl (fun _ => Const_neg rfl w_) rfl rfl ?_) | (refine RD_isCv ?_; first | refine RD_c rfl (fun _ => Const_conv rfl w_) rfl rfl ?_) | (refine RD_isCa ?_; first | refine RD_c rfl (fun _ => Const_len rfl) rfl rfl ?_ | refine RD_c rfl (fun _ => Const_minM rfl rfl) rfl rfl ?_ | refine RD_c rfl (fun _ => Const_maxM rfl rfl) rfl rfl ?_ | refine RD_c rfl (fun _ => Const_min3 rfl rfl rfl) rfl rfl ?_) | (refine RD_isFa ?_; first | refine RD_fldP rfl (by decide) rfl rfl ?_ | refine RD_fld rfl (by decide) rfl rfl ?_) | (refine RD_isIx ?_; first | refine RD_ixB rfl rfl bdI rfl rfl ?_ | refine RD_ixI vwK rfl rfl bdI memL posC rfl rfl ?_ | refine RD_ixR vwK rfl rfl bdI memL posC rfl rfl ?_ | refine RD_c rfl (fun _ => Const_indexA rfl rfl bdI) rfl rfl ?_) | (refine RD_isLd ?_; first | refine RD_ldI vwK rfl memL atC rfl rfl ?_ | refine RD_ldR vwK rfl memL atC rfl rfl ?_ | refine RD_ldB vwK rfl memL atC rfl rfl ?_ | refine RD_ldIB vwK rfl memL atC rfl rfl ?_ | refine RD_ldNI vwK rfl memL atsC lenC rfl rfl ?_ | refine RD_ldNR vwK rfl memL atsC lenC rfl rfl ?_ | refine RD_ldNB vwK rfl memL atsC lenC rfl rfl ?_ | refine RD_ldNIB vwK rfl memL atsC lenC rfl rfl ?_) | (refine RD_isFd ?_; first | refine RD_c rfl (fun _ => Const_field1 rfl rfl) rfl rfl ?_ | refine RD_c rfl (fun _ => Const_fieldN rfl) rfl rfl ?_) | (refine RD_isSt ?_; first | refine RD_st rfl rfl rfl repE stC rfl rfl ⟨okK, ?_⟩ | refine RD_stN rfl rfl lenC oneC repE stsC rfl rfl ⟨okK, ?_⟩) | (refine TD_isCo ?_; first | refine TD_cond_true rfl ?_ | refine TD_cond_false rfl ?_ | refine TD_yes rfl (by omega) ?_ | refine TD_no rfl (by omega) ?_ | refine TD_dec rfl (fun h => ?_) (fun h => ?_) | refine TD_cond rfl (fun h => ?_) (fun h => ?_)))
  (repeat refine TD_seq ?_); refine TD_drawnJ 3 [0, 2, 1, 3, 4, 5] [1, 1, 0, 0, 0, 0] mixed (by kernel_rfl) ?_
  repeat (refine wXk ?_)
  (refine RD_call rfl (groups_ok (c := cq) hy (by omega) memL) rfl rfl ?_; rintro _ _ _ ⟨rfl, rfl, rfl⟩; refine ⟨okK, ?_⟩)
  repeat (refine wXk ?_)
  (refine RD_call rfl (groups_ok (c := cq') hz (by omega) memL) rfl rfl ?_; rintro _ _ _ ⟨rfl, rfl, rfl⟩; refine ⟨okK, ?_⟩)
  repeat (refine wXk ?_)
  refine TD_loop [4] rfl (fun k G M I => ∃ (a b : Nat) (pa pb : Option Addr) (ca cb : Nat), k = b ∧ a ≤ 2 ^ (k0 + m) ∧ b ≤ 2 ^ (k0 + m) ∧ OkC pa a ca ∧ OkC pb b cb ∧ Nat.gcd a b = Nat.gcd y.natAbs z.natAbs ∧ G = [(5, .slice pa (gr a).length ca), (6, .slice pb (gr b).length cb)] ∧ M = .blk b3 [.bool false, .slice none 0 0] 24 :: M0 ∧ I = slI pa (recs eG (gr a)) :: slI pb (recs eG (gr b)) :: I0) (z.natAbs) _ _ _ subG subP incL (⟨y.natAbs, z.natAbs, q, q', cq, cq', rfl, hy2, hz2, hc, hc', rfl, rfl, rfl, rfl⟩) ?_
  rintro k G M I ⟨a, b', pa, pb, ca, cb, rfl, ha, hb, oa, ob, hg, rfl, rfl, rfl⟩
  have la := gr_len_pow ha
  have lb := gr_len_pow hb
  have hW1 := fun M0 I0 => word_ok (X := X) (w0 := w0) (M0 := M0) (I0 := I0) (q := pa) (n := a) (c := ca) (by omega)
  have hW2 := fun M0 I0 => word_ok (X := X) (w0 := w0) (M0 := M0) (I0 := I0) (q := pb) (n := k) (c := cb) (by omega)
  by_cases hk0 : k = 0
  · subst hk0
    have hl0 : (gr 0).length = 0 := by rw [gr_zero]; rfl
    rw [Nat.gcd_zero_right] at hg
    have hz : (Int.gcd y z : Int) = sg False a := by unfold sg; rw [if_neg (fun h => h), hg]; rfl
    repeat (refine wXk ?_)
    (refine RD_call rfl (cloneG_ok (a := gr a) (by omega) oa.2 memL) rfl rfl ?_; rintro _ _ _ ⟨rfl, q', c', rfl, rfl⟩; refine ⟨okK, ?_⟩)
    refine RD_fact (fun w hw => And.intro (hw.rowLe (List.Mem.head _)) ((hw.rowS (List.Mem.head _)).2.imp id And.right)) (fun hc' => ?_)
    refine RD_freezeR remE ?_
    repeat (refine wXk ?_)
    rw [hz]
    have hMd := fun M0 I0 => made_ok (X := X) (w0 := w0) (M0 := M0) (I0 := I0) (p := False) (q := q') (c := c') (k := k0 + m) (by omega) hc' ha
    simp only [B_false (show ¬ False from id)] at hMd
    (refine RD_call rfl (hMd _ _ memL) rfl rfl ?_; rintro _ _ _ ⟨rfl, rfl⟩; refine ⟨okK, ?_⟩; refine RD_openI (List.Mem.head _) (fun q2 c2 e__ hc2 hz2 => ?_); subst e__)
    unfold iv
    repeat (refine wXk ?_)
    refine ND_retC (cs := [.bool (B (sg False a < 0)), .slice q2 (gr (sg False a).natAbs).length c2]) (.inl rfl) rfl rfl memL rfl _ _ subP incL ⟨rfl, rfl⟩
  · have hlk : 0 < (gr k).length := List.length_pos_iff.2 (fun e => hk0 (gr_nil.1 e))
    by_cases hw : (gr a).length ≤ 2 ∧ (gr k).length ≤ 2
    · have hb9 : ∀ t : Nat, (gr t).length ≤ 2 → t < 1000000000000000000 := fun t ht => by
        have := val_lt (gr_dig t)
        rw [gr_val] at this
        have h2 : (1000000000 : Int) ^ (gr t).length ≤ 1000000000 ^ 2 := pow_mono9 ht
        omega
      have a9 := hb9 a hw.1
      have k9 := hb9 k hw.2
      rw [if_pos hw.1, B_true hw.1] at hW1
      rw [if_pos hw.2, B_true hw.2] at hW2
      repeat (refine wXk ?_)
      (refine RD_call rfl (hW1 _ _ memL) rfl rfl ?_; rintro _ _ _ ⟨rfl, rfl, rfl⟩; refine ⟨okK, ?_⟩)
      repeat (refine wXk ?_)
      (refine RD_call rfl (hW2 _ _ memL) rfl rfl ?_; rintro _ _ _ ⟨rfl, rfl, rfl⟩; refine ⟨okK, ?_⟩)
      repeat (refine wXk ?_)
      refine TD_loop [4] rfl (fun k G M I => ∃ (x x2 : Nat), k = x2 ∧ x < 1000000000000000000 ∧ x2 < 1000000000000000000 ∧ x ≤ 2 ^ (k0 + m) ∧ x2 ≤ 2 ^ (k0 + m) ∧ Nat.gcd x x2 = Nat.gcd y.natAbs z.natAbs ∧ G = [(7, .int .u64 x), (9, .int .u64 x2)] ∧ M = .blk b3 [.bool false, .slice none 0 0] 24 :: M0 ∧ I0 = I) (k) _ _ _ subG subP incL (⟨a, k, rfl, a9, k9, ha, hb, hg, rfl, rfl, rfl⟩) ?_
      rintro k G M I ⟨x, x2, rfl, hx9, hx29, hx, hx2, hxg, rfl, rfl, rfl⟩
      by_cases hx0 : k = 0
      · subst hx0
        rw [Nat.gcd_zero_right] at hxg
        have hz : (Int.gcd y z : Int) = sg False x := by unfold sg; rw [if_neg (fun h => h), hxg]; rfl
        repeat (refine wXk ?_)
        (refine RD_call rfl (split_ok (n := x) (by omega)) rfl rfl ?_; rintro _ _ _ ⟨rfl, q', c', rfl, hc', rfl⟩; refine ⟨okK, ?_⟩)
        rw [hz]
        have hMd := fun M0 I0 => made_ok (X := X) (w0 := w0) (M0 := M0) (I0 := I0) (p := False) (q := q') (c := c') (k := k0 + m) (by have := gr_len_pow hx; omega) hc' hx
        simp only [B_false (show ¬ False from id)] at hMd
        (refine RD_call rfl (hMd _ _ memL) rfl rfl ?_; rintro _ _ _ ⟨rfl, rfl⟩; refine ⟨okK, ?_⟩; refine RD_openI (List.Mem.head _) (fun q2 c2 e__ hc2 hz2 => ?_); subst e__)
        unfold iv
        repeat (refine wXk ?_)
        refine ND_retC (cs := [.bool (B (sg False x < 0)), .slice q2 (gr (sg False x).natAbs).length c2]) (.inl rfl) rfl rfl memL rfl _ _ subP incL ⟨rfl, rfl⟩
      · have e2 : ((x : Int)).tmod (k : Int) = ((x % k : Nat) : Int) := by rw [Int.tmod_eq_emod_of_nonneg (by omega), Int.natCast_emod]
        have hmod := Nat.mod_lt x (show k > 0 by omega)
        have hg2 : Nat.gcd k (x % k) = Nat.gcd y.natAbs z.natAbs := by rw [← hxg, Nat.gcd_comm x k, Nat.gcd_rec k x, Nat.gcd_comm]
        repeat (refine wXk ?_)
        (repeat refine TD_seq ?_); refine TD_drawn [0, 1, 2, 3, 4, 5] [0, 0, 0, 0, 0, 0] mixed (by kernel_rfl) ?_
        repeat (refine wXk ?_)
        rw [e2]
        refine ND_again (x % k) _ _ _ (by first | omega | (simp only [List.length_append, List.length_cons, List.length_nil]; omega)) subG subP incL (⟨k, x % k, rfl, by omega, by omega, hx2, by omega, hg2, rfl, rfl, rfl⟩)
    · have hO := fun M0 I0 => over_ok (X := X) (w0 := w0) (M0 := M0) (I0 := I0) (p := pa) (q := pb) (m := a) (n := k) (cp := ca) (cq := cb) (by omega) (by omega) (by omega) oa
      have hmod := Nat.mod_lt a (show k > 0 by omega)
      have hg2 : Nat.gcd k (a % k) = Nat.gcd y.natAbs z.natAbs := by rw [← hg, Nat.gcd_comm a k, Nat.gcd_rec k a, Nat.gcd_comm]
      by_cases hw1 : (gr a).length ≤ 2
      · have hw2 : ¬ (gr k).length ≤ 2 := fun h => hw ⟨hw1, h⟩
        rw [if_pos hw1, B_true hw1] at hW1
        rw [if_neg hw2, B_false hw2] at hW2
        repeat (refine wXk ?_)
        (refine RD_call rfl (hW1 _ _ memL) rfl rfl ?_; rintro _ _ _ ⟨rfl, rfl, rfl⟩; refine ⟨okK, ?_⟩)
        repeat (refine wXk ?_)
        (refine RD_call rfl (hW2 _ _ memL) rfl rfl ?_; rintro _ _ _ ⟨rfl, rfl, rfl⟩; refine ⟨okK, ?_⟩)
        repeat (refine wXk ?_)
        (refine RD_call rfl (hO _ _ memL memL) rfl rfl ?_; rintro _ _ _ ⟨rfl, p1, c1, p2, c2, ho1, ho2, rfl, rfl⟩; refine ⟨okK, ?_⟩)
        repeat (refine wXk ?_)
        refine ND_again (a % k) _ _ _ (by first | omega | (simp only [List.length_append, List.length_cons, List.length_nil]; omega)) subG subP incL (⟨k, a % k, pb, p2, cb, c2, rfl, hb, by omega, ob, ho2, hg2, rfl, rfl, rfl⟩)
      · rw [if_neg hw1, B_false hw1] at hW1
        repeat (refine wXk ?_)
        (refine RD_call rfl (hW1 _ _ memL) rfl rfl ?_; rintro _ _ _ ⟨rfl, rfl, rfl⟩; refine ⟨okK, ?_⟩)
        repeat (refine wXk ?_)
        (refine RD_call rfl (hW2 _ _ memL) rfl rfl ?_; rintro _ _ _ ⟨rfl, rfl, rfl⟩; refine ⟨okK, ?_⟩)
        repeat (refine wXk ?_)
        (refine RD_call rfl (hO _ _ memL memL) rfl rfl ?_; rintro _ _ _ ⟨rfl, p1, c1, p2, c2, ho1, ho2, rfl, rfl⟩; refine ⟨okK, ?_⟩)
        repeat (refine wXk ?_)
        refine ND_again (a % k) _ _ _ (by first | omega | (simp only [List.length_append, List.length_cons, List.length_nil]; omega)) subG subP incL (⟨k, a % k, pb, p2, cb, c2, rfl, hb, by omega, ob, ho2, hg2, rfl, rfl, rfl⟩)
end
end Go.Proofs.YtllaoaobnnondaaGreatR
namespace Go.Proofs.YtllaoaobnnondaaGreatR
open Go Go.Fx
theorem cmp_signs {y z : Int} (h : y.sign ≠ z.sign) : cmpV y.sign z.sign = cmpV y z := by
  unfold cmpV
  rcases Int.lt_trichotomy y 0 with hy | hy | hy <;> rcases Int.lt_trichotomy z 0 with hz | hz | hz <;>
    simp_all [Int.sign_eq_one_of_pos, Int.sign_eq_neg_one_of_neg] <;> omega
theorem cmp_abs {y z : Int} (h : y.sign = z.sign) : cmpV y z = if y < 0 then -cmpV y.natAbs z.natAbs else cmpV y.natAbs z.natAbs := by
  have h1 : y < 0 ↔ z < 0 := by rw [← Int.sign_eq_neg_one_iff_neg, ← Int.sign_eq_neg_one_iff_neg, h]
  unfold cmpV
  by_cases hy : y < 0
  · have hz := h1.1 hy
    rw [if_pos hy]
    split <;> split <;> (try split) <;> (try split) <;> omega
  · have hz : ¬ z < 0 := fun hz => hy (h1.2 hz)
    rw [if_neg hy]
    split <;> split <;> (try split) <;> (try split) <;> omega
section
variable {X : List Nat} {w0 : World} {M0 : List Ent} {I0 : List Imm}
set_option maxRecDepth 100000 in
set_option maxHeartbeats 4000000 in
theorem Compare_ok {u v : Value} {y z : Int} {k m : Nat} (hk : k ≤ 1000000000000) (hm : m ≤ 1000000000000) (hu : isI u y k ∈ I0) (hv : isI v z m ∈ I0) : CD Tryz.prog 194 [u, v] X w0 M0 I0 (fun v M I => M0 = M ∧ I0 = I ∧ v = .int .i64 (cmpV y z)) := by
  have hS1 := fun M0 I0 h => Sign_ok (X := X) (w0 := w0) (M0 := M0) (I0 := I0) (u := u) (z := y) hk h
  have hS2 := fun M0 I0 h => Sign_ok (X := X) (w0 := w0) (M0 := M0) (I0 := I0) (u := v) (z := z) hm h
  refine CD_openI hu (fun q cq e hc hy => ?_)
  subst e
  refine CD_openI (List.Mem.tail _ hv) (fun q' cq' e hc' hz => ?_)
  subst e
  have hl := len_pow hy hk
  have hl' := len_pow hz hm
  unfold iv at *
  refine enterD Tryz.func194 rfl Tryz.ntmps194 rfl ?_
  refine TD_seq ?_
  refine TD_region ?_
  (refine RD_box rfl rfl rfl ?_; intro b; refine ⟨okK, ?_⟩)
  (refine RD_box rfl rfl rfl ?_; intro b2; refine ⟨okK, ?_⟩)
  repeat' (first | refine TD_region ?_ | refine TD_ret ?_ | refine TD_skip ?_ | refine TD_label ?_ | refine TD_block ?_ | refine TD_exit ?_ | refine ND_then ?_ | refine ND_thenR ?_ | refine ND_thenE ?_ | refine ND_inN ?_ | refine ND_inR ?_ | refine ND_inE ?_ | refine ND_inO rfl ?_ | refine RD_nil ?_ | (refine RD_isGu ?_; first | refine RD_skip rfl rfl rfl ?_ | (refine RD_isEf rfl rfl ?_; refine RD_skipE rfl rfl rfl okK ?_) | refine RD_grdY rfl rfl (by omega) ?_ | refine RD_grdN rfl rfl (by omega) ?_ | refine RD_grd rfl rfl (fun h => ?_) (fun h => ?_) | (fail_if_success (refine RD_isW rfl ?_); refine RD_grdB rfl rfl (fun h => ?_) (fun h => ?_))) | (refine RD_isUn ?_; refine RD_c rfl (fun _ => Const_notB rfl) rfl rfl ?_) | refine RD_c rfl (fun _ => Const_pure rfl) rfl rfl ?_ | (refine RD_isBi ?_; first | refine RD_c rfl (fun _ => Const_add rfl rfl w_) rfl rfl ?_ | refine RD_c rfl (fun _ => Const_sub rfl rfl w_) rfl rfl ?_ | refine RD_c rfl (fun _ => Const_mul rfl rfl w_) rfl rfl ?_ | refine RD_c rfl (fun _ => Const_quo rfl rfl (by omega) q_) rfl rfl ?_ | refine RD_c rfl (fun _ => Const_rem rfl rfl (by omega) rfl) rfl rfl ?_ | refine RD_c rfl (fun _ => Const_half rfl rfl) rfl rfl ?_ | refine RD_c rfl (fun _ => Const_eqBB rfl rfl) rfl rfl ?_ | refine RD_c rfl (fun _ => Const_neBB rfl rfl) rfl rfl ?_) | (refine RD_isUn ?_; first | refine RD_c rfl (fun _ => Const_neg rfl w_) rfl rfl ?_) | (refine RD_isCv ?_; first | refine RD_c rfl (fun _ => Const_conv rfl w_) rfl rfl ?_) | (refine RD_isCa ?_; first | refine RD_c rfl (fun _ => Const_len rfl) rfl rfl ?_ | refine RD_c rfl (fun _ => Const_minM rfl rfl) rfl rfl ?_ | refine RD_c rfl (fun _ => Const_maxM rfl rfl) rfl rfl ?_ | refine RD_c rfl (fun _ => Const_min3 rfl rfl rfl) rfl rfl ?_) | (refine RD_isFa ?_; first | refine RD_fldP rfl (by decide) rfl rfl ?_ | refine RD_fld rfl (by decide) rfl rfl ?_) | (refine RD_isIx ?_; first | refine RD_ixB rfl rfl bdI rfl rfl ?_ | refine RD_ixI vwK rfl rfl bdI memL posC rfl rfl ?_ | refine RD_ixR vwK rfl rfl bdI memL posC rfl rfl ?_ | refine RD_c rfl (fun _ => Const_indexA rfl rfl bdI) rfl rfl ?_) | (refine RD_isLd ?_; first | refine RD_ldI vwK rfl memL atC rfl rfl ?_ | refine RD_ldR vwK rfl memL atC rfl rfl ?_ | refine RD_ldB vwK rfl memL atC rfl rfl ?_ | refine RD_ldIB vwK rfl memL atC rfl rfl ?_ | refine RD_ldNI vwK rfl memL atsC lenC rfl rfl ?_ | refine RD_ldNR vwK rfl memL atsC lenC rfl rfl ?_ | refine RD_ldNB vwK rfl memL atsC lenC rfl rfl ?_ | refine RD_ldNIB vwK rfl memL atsC lenC rfl rfl ?_) | (refine RD_isFd ?_; first | refine RD_c rfl (fun _ => Const_field1 rfl rfl) rfl rfl ?_ | refine RD_c rfl (fun _ => Const_fieldN rfl) rfl rfl ?_) | (refine RD_isSt ?_; first | refine RD_st rfl rfl rfl repE stC rfl rfl ⟨okK, ?_⟩ | refine RD_stN rfl rfl lenC oneC repE stsC rfl rfl ⟨okK, ?_⟩) | (refine TD_isCo ?_; first | refine TD_cond_true rfl ?_ | refine TD_cond_false rfl ?_ | refine TD_yes rfl (by omega) ?_ | refine TD_no rfl (by omega) ?_ | refine TD_dec rfl (fun h => ?_) (fun h => ?_) | refine TD_cond rfl (fun h => ?_) (fun h => ?_)))
  (repeat refine TD_seq ?_); refine TD_drawn [0, 2, 1, 3, 4, 5] [1, 1, 0, 0, 0, 0] mixed (by kernel_rfl) ?_
  repeat (refine wXk ?_)
  (refine RD_call rfl (hS1 _ _ memL) rfl rfl ?_; rintro _ _ _ ⟨rfl, rfl, rfl⟩; refine ⟨okK, ?_⟩)
  repeat (refine wXk ?_)
  (refine RD_call rfl (hS2 _ _ memL) rfl rfl ?_; rintro _ _ _ ⟨rfl, rfl, rfl⟩; refine ⟨okK, ?_⟩)
  by_cases hs : y.sign = z.sign
  · have hca := cmp_abs hs
    repeat (refine wXk ?_)
    (repeat refine TD_seq ?_); refine TD_drawn [0, 2, 1, 3, 4, 5] [2, 2, 0, 0, 0, 0] mixed (by kernel_rfl) ?_
    repeat (refine wXk ?_)
    (refine RD_call rfl (groups_ok (c := cq) hy hk memL) rfl rfl ?_; rintro _ _ _ ⟨rfl, rfl, rfl⟩; refine ⟨okK, ?_⟩)
    repeat (refine wXk ?_)
    (refine RD_call rfl (groups_ok (c := cq') hz hm memL) rfl rfl ?_; rintro _ _ _ ⟨rfl, rfl, rfl⟩; refine ⟨okK, ?_⟩)
    repeat (refine wXk ?_)
    (refine RD_call rfl (compare_ok (by omega) (by omega) memL memL) rfl rfl ?_; rintro _ _ _ ⟨rfl, rfl, rfl⟩; refine ⟨okK, ?_⟩)
    have hcb : -1 ≤ cmpV (y.natAbs : Int) z.natAbs ∧ cmpV (y.natAbs : Int) z.natAbs ≤ 1 := by unfold cmpV; split <;> (try split) <;> omega
    by_cases hy0 : y < 0
    · rw [if_pos hy0] at hca
      rw [hca]
      generalize cmpV (y.natAbs : Int) z.natAbs = cv at *
      repeat (refine wXk ?_)
      refine ND_ret1 (by first | exact .inl rfl | exact .inr rfl) rfl rfl _ _ subP incL (⟨rfl, rfl, congrArg (Value.int .i64) (by omega)⟩)
    · rw [if_neg hy0] at hca
      rw [hca]
      generalize cmpV (y.natAbs : Int) z.natAbs = cv at *
      repeat (refine wXk ?_)
      refine ND_ret1 (by first | exact .inl rfl | exact .inr rfl) rfl rfl _ _ subP incL (⟨rfl, rfl, rfl⟩)
  · rw [← cmp_signs hs]
    repeat (refine wXk ?_)
    (refine RD_call rfl (CD.same (fun w _ => cmpI_w _ _ _)) rfl rfl ?_; rintro _ _ _ ⟨rfl, rfl, rfl⟩; refine ⟨okK, ?_⟩)
    repeat (refine wXk ?_)
    refine ND_ret1 (by first | exact .inl rfl | exact .inr rfl) rfl rfl _ _ subP incL (⟨rfl, rfl, rfl⟩)
end
end Go.Proofs.YtllaoaobnnondaaGreatR
namespace Go.Proofs.YtllaoaobnnondaaGreatR
open Go Go.Fx
theorem wrap_neg {x : Int} (h : -9223372036854775808 ≤ x ∧ x < 0) : IntKind.u64.wrap x = x + 18446744073709551616 := by
  simp [IntKind.wrap, IntKind.bits, IntKind.signed]; omega
section
variable {X : List Nat} {w0 : World} {M0 : List Ent} {I0 : List Imm}
set_option maxRecDepth 100000 in
theorem Of_ok {x : Int} (hx : 0 ≤ x ∧ x ≤ 9223372036854775807) : CD Tryz.prog 196 [.int .i64 x] X w0 M0 I0 (fun v M I => M0 = M ∧ I = isI v x 63 :: I0) := by
  obtain ⟨n, rfl⟩ : ∃ n : Nat, x = (n : Int) := ⟨x.toNat, by omega⟩
  have hn : n ≤ 2 ^ 63 := by omega
  have hsg : ((n : Nat) : Int) = sg False n := by unfold sg; rw [if_neg (fun h => h)]
  refine enterD Tryz.func196 rfl Tryz.ntmps196 rfl ?_
  refine TD_seq ?_
  refine TD_region ?_
  (refine RD_alloc rfl rfl ?_; intro b; refine ⟨okK, ?_⟩)
  repeat (refine wXk ?_)
  (refine RD_call rfl (split_ok (n := n) (by omega)) rfl rfl ?_; rintro _ _ _ ⟨rfl, q', c', rfl, hc', rfl⟩; refine ⟨okK, ?_⟩)
  have hMd := fun M0 I0 => made_ok (X := X) (w0 := w0) (M0 := M0) (I0 := I0) (p := ((n : Nat) : Int) < 0) (q := q') (c := c') (k := 63) (by have := gr_len_pow hn; omega) hc' hn
  have hs2 : sg (((n : Nat) : Int) < 0) n = (n : Int) := by unfold sg; rw [if_neg (by omega)]
  simp only [hs2] at hMd
  (refine RD_call rfl (hMd _ _ memL) rfl rfl ?_; rintro _ _ _ ⟨rfl, rfl⟩; refine ⟨okK, ?_⟩; refine RD_openI (List.Mem.head _) (fun q2 c2 e__ hc2 hz2 => ?_); subst e__)
  unfold iv
  repeat (refine wXk ?_)
  refine ND_retC (cs := [.bool (B (((n : Nat) : Int) < 0)), .slice q2 (gr ((n : Nat) : Int).natAbs).length c2]) (.inl rfl) rfl rfl memL rfl _ _ subP incL ⟨rfl, rfl⟩
end
end Go.Proofs.YtllaoaobnnondaaGreatR
