/- The walk, kept once. corner: the reference's at and peak; putting a corner into a sorted list. -/
import Derived.Test.YtegaegipekonmaaZcas
import Derived.Test.YtegaegipekonmaaZcaf
import Derived.Test.YtegaegipekonmaaZcam
set_option linter.unusedSimpArgs false
set_option linter.unusedVariables false
namespace Go.Fx
theorem wXh {p g : Prop} (h : g) (w : BoxP g → p := by (intro hh; (first | refine TD_seq ?_ | refine TD_region ?_ | refine TD_ret ?_ | refine TD_skip ?_ | refine TD_label ?_ | refine TD_block ?_ | refine TD_exit ?_ | refine ND_then ?_ | refine ND_thenR ?_ | refine ND_thenE ?_ | refine ND_inN ?_ | refine ND_inR ?_ | refine ND_inE ?_ | refine ND_inO rfl ?_ | refine RD_nil ?_ | (refine RD_isGu ?_; first | refine RD_skip rfl rfl rfl ?_ | (refine RD_isEf rfl rfl ?_; refine RD_skipE rfl rfl rfl okF ?_) | refine RD_grdY rfl rfl (by omega) ?_ | refine RD_grdN rfl rfl (by omega) ?_) | (refine RD_isUn ?_; refine RD_c rfl (fun _ => Const_notB rfl) rfl rfl ?_) | refine RD_c rfl (fun _ => Const_pure rfl) rfl rfl ?_ | (refine RD_isBi ?_; first | refine RD_c rfl (fun _ => Const_add rfl rfl wF) rfl rfl ?_ | refine RD_c rfl (fun _ => Const_sub rfl rfl wF) rfl rfl ?_ | refine RD_c rfl (fun _ => Const_mul rfl rfl wF) rfl rfl ?_ | refine RD_c rfl (fun _ => Const_quo rfl rfl (by omega) qF) rfl rfl ?_ | refine RD_c rfl (fun _ => Const_rem rfl rfl (by omega) rfl) rfl rfl ?_ | refine RD_c rfl (fun _ => Const_half rfl rfl) rfl rfl ?_ | refine RD_c rfl (fun _ => Const_eqBB rfl rfl) rfl rfl ?_ | refine RD_c rfl (fun _ => Const_neBB rfl rfl) rfl rfl ?_ | refine RD_c rfl (fun _ => Const_eqB rfl rfl) rfl rfl ?_ | refine RD_c rfl (fun _ => Const_neB rfl rfl) rfl rfl ?_) | (refine RD_isUn ?_; first | refine RD_c rfl (fun _ => Const_neg rfl wF) rfl rfl ?_) | (refine RD_isCv ?_; first | refine RD_c rfl (fun _ => Const_conv rfl wF) rfl rfl ?_) | (refine RD_isCa ?_; first | refine RD_c rfl (fun _ => Const_len rfl) rfl rfl ?_ | refine RD_c rfl (fun _ => Const_minM rfl rfl) rfl rfl ?_ | refine RD_c rfl (fun _ => Const_maxM rfl rfl) rfl rfl ?_ | refine RD_c rfl (fun _ => Const_min3 rfl rfl rfl) rfl rfl ?_) | (refine RD_isFa ?_; first | refine RD_fldP rfl (by decide) rfl rfl ?_ | refine RD_fld rfl (by decide) rfl rfl ?_) | (refine RD_isIx ?_; first | refine RD_ixB rfl rfl bdI rfl rfl ?_ | refine RD_ixI vwF rfl rfl bdI memF posC rfl rfl ?_ | refine RD_ixR vwF rfl rfl bdI memF posC rfl rfl ?_ | refine RD_c rfl (fun _ => Const_indexA rfl rfl bdI) rfl rfl ?_) | (refine RD_isLd ?_; first | (apply RD_ldZB; exact vwF; exact rfl; (focus ((repeat (first | with_reducible exact List.mem_cons_self | with_reducible assumption | with_reducible refine List.mem_cons_of_mem _ ?_)); done)); exact atY; exact rfl; exact rfl) | (apply RD_ldZIB; exact vwF; exact rfl; (focus ((repeat (first | with_reducible exact List.mem_cons_self | with_reducible assumption | with_reducible refine List.mem_cons_of_mem _ ?_)); done)); exact atY; exact rfl; exact rfl) | (apply RD_ldZI; exact vwF; exact rfl; (focus ((repeat (first | with_reducible exact List.mem_cons_self | with_reducible assumption | with_reducible refine List.mem_cons_of_mem _ ?_)); done)); exact atY; exact rfl; exact rfl) | (apply RD_ldZR; exact vwF; exact rfl; (focus ((repeat (first | with_reducible exact List.mem_cons_self | with_reducible assumption | with_reducible refine List.mem_cons_of_mem _ ?_)); done)); exact atY; exact rfl; exact rfl) | (apply RD_ldB; exact vwF; exact rfl; (focus ((repeat (first | with_reducible exact List.mem_cons_self | with_reducible assumption | with_reducible refine List.mem_cons_of_mem _ ?_)); done)); exact atF; exact rfl; exact rfl) | (apply RD_ldIB; exact vwF; exact rfl; (focus ((repeat (first | with_reducible exact List.mem_cons_self | with_reducible assumption | with_reducible refine List.mem_cons_of_mem _ ?_)); done)); exact atF; exact rfl; exact rfl) | (apply RD_ldI; exact vwF; exact rfl; (focus ((repeat (first | with_reducible exact List.mem_cons_self | with_reducible assumption | with_reducible refine List.mem_cons_of_mem _ ?_)); done)); exact atF; exact rfl; exact rfl) | (apply RD_ldR; exact vwF; exact rfl; (focus ((repeat (first | with_reducible exact List.mem_cons_self | with_reducible assumption | with_reducible refine List.mem_cons_of_mem _ ?_)); done)); exact atF; exact rfl; exact rfl)) | (refine RD_isFd ?_; first | refine RD_c rfl (fun _ => Const_field1 rfl rfl) rfl rfl ?_ | refine RD_c rfl (fun _ => Const_fieldN rfl) rfl rfl ?_) | (refine RD_isSt ?_; first | refine RD_st rfl rfl rfl repF stC rfl rfl ⟨okF, ?_⟩ | refine RD_stN rfl rfl lenC oneC repF stsC rfl rfl ⟨okF, ?_⟩) | (refine TD_isCo ?_; first | refine TD_cond_true rfl ?_ | refine TD_cond_false rfl ?_ | refine TD_yes rfl (by omega) ?_ | refine TD_no rfl (by omega) ?_)); (repeat (first | refine TD_seq ?_ | refine TD_region ?_ | refine TD_ret ?_ | refine TD_skip ?_ | refine TD_label ?_ | refine TD_block ?_ | refine TD_exit ?_ | refine ND_then ?_ | refine ND_thenR ?_ | refine ND_thenE ?_ | refine ND_inN ?_ | refine ND_inR ?_ | refine ND_inE ?_ | refine ND_inO rfl ?_ | refine RD_nil ?_ | (refine RD_isGu ?_; first | refine RD_skip rfl rfl rfl ?_ | (refine RD_isEf rfl rfl ?_; refine RD_skipE rfl rfl rfl okF ?_) | refine RD_grdY rfl rfl (by omega) ?_ | refine RD_grdN rfl rfl (by omega) ?_) | (refine RD_isUn ?_; refine RD_c rfl (fun _ => Const_notB rfl) rfl rfl ?_) | refine RD_c rfl (fun _ => Const_pure rfl) rfl rfl ?_ | (refine RD_isBi ?_; first | refine RD_c rfl (fun _ => Const_add rfl rfl wF) rfl rfl ?_ | refine RD_c rfl (fun _ => Const_sub rfl rfl wF) rfl rfl ?_ | refine RD_c rfl (fun _ => Const_mul rfl rfl wF) rfl rfl ?_ | refine RD_c rfl (fun _ => Const_quo rfl rfl (by omega) qF) rfl rfl ?_ | refine RD_c rfl (fun _ => Const_rem rfl rfl (by omega) rfl) rfl rfl ?_ | refine RD_c rfl (fun _ => Const_half rfl rfl) rfl rfl ?_ | refine RD_c rfl (fun _ => Const_eqBB rfl rfl) rfl rfl ?_ | refine RD_c rfl (fun _ => Const_neBB rfl rfl) rfl rfl ?_ | refine RD_c rfl (fun _ => Const_eqB rfl rfl) rfl rfl ?_ | refine RD_c rfl (fun _ => Const_neB rfl rfl) rfl rfl ?_) | (refine RD_isUn ?_; first | refine RD_c rfl (fun _ => Const_neg rfl wF) rfl rfl ?_) | (refine RD_isCv ?_; first | refine RD_c rfl (fun _ => Const_conv rfl wF) rfl rfl ?_) | (refine RD_isCa ?_; first | refine RD_c rfl (fun _ => Const_len rfl) rfl rfl ?_ | refine RD_c rfl (fun _ => Const_minM rfl rfl) rfl rfl ?_ | refine RD_c rfl (fun _ => Const_maxM rfl rfl) rfl rfl ?_ | refine RD_c rfl (fun _ => Const_min3 rfl rfl rfl) rfl rfl ?_) | (refine RD_isFa ?_; first | refine RD_fldP rfl (by decide) rfl rfl ?_ | refine RD_fld rfl (by decide) rfl rfl ?_) | (refine RD_isIx ?_; first | refine RD_ixB rfl rfl bdI rfl rfl ?_ | refine RD_ixI vwF rfl rfl bdI memF posC rfl rfl ?_ | refine RD_ixR vwF rfl rfl bdI memF posC rfl rfl ?_ | refine RD_c rfl (fun _ => Const_indexA rfl rfl bdI) rfl rfl ?_) | (refine RD_isLd ?_; first | (apply RD_ldZB; exact vwF; exact rfl; (focus ((repeat (first | with_reducible exact List.mem_cons_self | with_reducible assumption | with_reducible refine List.mem_cons_of_mem _ ?_)); done)); exact atY; exact rfl; exact rfl) | (apply RD_ldZIB; exact vwF; exact rfl; (focus ((repeat (first | with_reducible exact List.mem_cons_self | with_reducible assumption | with_reducible refine List.mem_cons_of_mem _ ?_)); done)); exact atY; exact rfl; exact rfl) | (apply RD_ldZI; exact vwF; exact rfl; (focus ((repeat (first | with_reducible exact List.mem_cons_self | with_reducible assumption | with_reducible refine List.mem_cons_of_mem _ ?_)); done)); exact atY; exact rfl; exact rfl) | (apply RD_ldZR; exact vwF; exact rfl; (focus ((repeat (first | with_reducible exact List.mem_cons_self | with_reducible assumption | with_reducible refine List.mem_cons_of_mem _ ?_)); done)); exact atY; exact rfl; exact rfl) | (apply RD_ldB; exact vwF; exact rfl; (focus ((repeat (first | with_reducible exact List.mem_cons_self | with_reducible assumption | with_reducible refine List.mem_cons_of_mem _ ?_)); done)); exact atF; exact rfl; exact rfl) | (apply RD_ldIB; exact vwF; exact rfl; (focus ((repeat (first | with_reducible exact List.mem_cons_self | with_reducible assumption | with_reducible refine List.mem_cons_of_mem _ ?_)); done)); exact atF; exact rfl; exact rfl) | (apply RD_ldI; exact vwF; exact rfl; (focus ((repeat (first | with_reducible exact List.mem_cons_self | with_reducible assumption | with_reducible refine List.mem_cons_of_mem _ ?_)); done)); exact atF; exact rfl; exact rfl) | (apply RD_ldR; exact vwF; exact rfl; (focus ((repeat (first | with_reducible exact List.mem_cons_self | with_reducible assumption | with_reducible refine List.mem_cons_of_mem _ ?_)); done)); exact atF; exact rfl; exact rfl)) | (refine RD_isFd ?_; first | refine RD_c rfl (fun _ => Const_field1 rfl rfl) rfl rfl ?_ | refine RD_c rfl (fun _ => Const_fieldN rfl) rfl rfl ?_) | (refine RD_isSt ?_; first | refine RD_st rfl rfl rfl repF stC rfl rfl ⟨okF, ?_⟩ | refine RD_stN rfl rfl lenC oneC repF stsC rfl rfl ⟨okF, ?_⟩) | (refine TD_isCo ?_; first | refine TD_cond_true rfl ?_ | refine TD_cond_false rfl ?_ | refine TD_yes rfl (by omega) ?_ | refine TD_no rfl (by omega) ?_))); exact hh.out)) : p := w ⟨h⟩
end Go.Fx
namespace Go.Proofs.Ytegaegipekonmaa
open Go Go.Fx
def OkN (f : Int → Int → Int) (x y i j : Int) : Prop := f (x + i) (y + j) ≤ f x y ∧ ((j < 0 ∨ j = 0 ∧ i < 0) → f (x + i) (y + j) < f x y)
theorem nine {f : Int → Int → Int} {x y : Int} : ((f (x + -1) (y + -1) < f x y ∧ f (x - -1) (y - -1) ≤ f x y) ∧ (f (x + 0) (y + -1) < f x y ∧ f (x - 0) (y - -1) ≤ f x y) ∧ (f (x + 1) (y + -1) < f x y ∧ f (x - 1) (y - -1) ≤ f x y) ∧ (f (x + -1) (y + 0) < f x y ∧ f (x - -1) (y - 0) ≤ f x y)) ↔ ∀ j i : Int, -1 ≤ j → j ≤ 1 → -1 ≤ i → i ≤ 1 → OkN f x y i j := by
  constructor
  · intro h j i h1 h2 h3 h4
    unfold OkN
    rcases (by omega : j = -1 ∨ j = 0 ∨ j = 1) with rfl | rfl | rfl <;> rcases (by omega : i = -1 ∨ i = 0 ∨ i = 1) with rfl | rfl | rfl <;> simp only [Int.add_zero, Int.sub_zero, Int.sub_neg, ← Int.sub_eq_add_neg] at * <;> omega
  · intro h
    have a := h (-1) (-1) (by decide) (by decide) (by decide) (by decide)
    have b := h (-1) 0 (by decide) (by decide) (by decide) (by decide)
    have c := h (-1) 1 (by decide) (by decide) (by decide) (by decide)
    have d := h 0 (-1) (by decide) (by decide) (by decide) (by decide)
    have e := h 0 1 (by decide) (by decide) (by decide) (by decide)
    have g := h 1 (-1) (by decide) (by decide) (by decide) (by decide)
    have k := h 1 0 (by decide) (by decide) (by decide) (by decide)
    have l := h 1 1 (by decide) (by decide) (by decide) (by decide)
    unfold OkN at *
    have d2 := d.2 (.inr ⟨rfl, by decide⟩)
    clear h
    simp only [Int.add_zero, Int.sub_zero, Int.sub_neg, ← Int.sub_eq_add_neg] at *
    omega
theorem Pk_nine {px : List Int} {W H th x y : Int} : Pk px W H th x y ↔ th < scF px W H x y ∧ ∀ j i : Int, -1 ≤ j → j ≤ 1 → -1 ≤ i → i ≤ 1 → OkN (scF px W H) x y i j := by
  unfold Pk PkD
  rw [← nine]
def kD (m : C3) : Int := -m.2.2
theorem ins_srt {S : List C3} {c : C3} (hS : Asc kD S) {k : Nat} (hk : k ≤ S.length) (h1 : k = 0 ∨ ¬ (gt S ((k : Int) - 1)).2.2 < c.2.2) (h2 : ∀ j : Nat, k ≤ j → j < S.length → (gt S (j : Int)).2.2 < c.2.2) : S.take k ++ [c] ++ S.drop k = mg kD S [c] := by
  have := mg_one kD (P1 := S.take k) (P2 := S.drop k) (x := c) ?_ ?_
  · rw [List.take_append_drop] at this
    rw [this, List.append_assoc]
    rfl
  · intro y hy
    obtain ⟨j, hj, rfl⟩ := List.mem_iff_getElem.1 hy
    have hj2 : j < k ∧ j < S.length := by
      rw [List.length_take] at hj
      exact ⟨Nat.lt_of_lt_of_le hj (Nat.min_le_left _ _), Nat.lt_of_lt_of_le hj (Nat.min_le_right _ _)⟩
    rw [List.getElem_take, ← gt_get hj2.2]
    have h3 := hS.at kD (i := j) (j := k - 1) (by omega) (by omega)
    rw [show ((k - 1 : Nat) : Int) = (k : Int) - 1 by omega] at h3
    unfold kD at *
    omega
  · intro y hy
    obtain ⟨j, hj, rfl⟩ := List.mem_iff_getElem.1 hy
    rw [List.length_drop] at hj
    rw [List.getElem_drop, ← gt_get (show k + j < S.length by omega)]
    have := h2 (k + j) (by omega) (by omega)
    unfold kD
    omega
section
variable {X : List Nat} {w0 : World} {M0 : List Ent} {I0 : List Imm}
theorem rat_ok {p q : Option Addr} {W H Mx x y : Int} {px xs : List Int} {c m cs mp : Nat} (hx0 : xs.length = m) (hs : IsSc px W H xs) (hW : 1 ≤ W ∧ W ≤ 64) (hH : 1 ≤ H ∧ H ≤ 64) (hq : slI q (recs (eI .i64) xs) ∈ I0) :
    CD Try.prog 22 [.agg #[.int .i64 W, .int .i64 H, .int .i64 Mx, .slice p mp c], .slice q m cs, .int .i64 x, .int .i64 y] X w0 M0 I0 (fun v M I => M0 = M ∧ I0 = I ∧ v = .int .i64 (scF px W H x y)) := by
  refine enterD4 Try.func22 rfl Try.ntmps22 rfl ?_
  refine TD_seq ?_
  refine TD_region ?_
  (refine RD_boxA rfl rfl rfl ?_; intro b; refine ⟨okF, ?_⟩)
  repeat (refine wXh ?_)
  by_cases h1 : x < 0
  · repeat (refine wXh ?_)
    refine ND_ret1 (by first | exact .inl rfl | exact .inr rfl) rfl rfl _ _ subF incF (⟨rfl, rfl, congrArg _ (by unfold scF; rw [if_pos (by omega)])⟩)
  by_cases h2 : y < 0
  · repeat (refine wXh ?_)
    refine ND_ret1 (by first | exact .inl rfl | exact .inr rfl) rfl rfl _ _ subF incF (⟨rfl, rfl, congrArg _ (by unfold scF; rw [if_pos (by omega)])⟩)
  by_cases h3 : W ≤ x
  · repeat (refine wXh ?_)
    refine ND_ret1 (by first | exact .inl rfl | exact .inr rfl) rfl rfl _ _ subF incF (⟨rfl, rfl, congrArg _ (by unfold scF; rw [if_pos (by omega)])⟩)
  by_cases h4 : H ≤ y
  · repeat (refine wXh ?_)
    refine ND_ret1 (by first | exact .inl rfl | exact .inr rfl) rfl rfl _ _ subF incF (⟨rfl, rfl, congrArg _ (by unfold scF; rw [if_pos (by omega)])⟩)
  have d := idx_in (W := W) (H := H) (x := x) (y := y) hW hH (by omega) (by omega)
  have hl := hs.1
  repeat (refine wXh ?_)
  rw [hs.2 x y (by omega) (by omega) (by omega) (by omega)]
  refine ND_ret1 (by first | exact .inl rfl | exact .inr rfl) rfl rfl _ _ subF incF (⟨rfl, rfl, rfl⟩)
set_option maxRecDepth 100000 in
set_option maxHeartbeats 4000000 in
theorem rpeak_ok {p q : Option Addr} {W H Mx x y th : Int} {px xs : List Int} {c m cs mp : Nat} (hx0 : xs.length = m) (hs : IsSc px W H xs) (hW : 1 ≤ W ∧ W ≤ 64) (hH : 1 ≤ H ∧ H ≤ 64) (hx : 0 ≤ x ∧ x ≤ 64) (hy : 0 ≤ y ∧ y ≤ 64) (hq : slI q (recs (eI .i64) xs) ∈ I0) :
    CD Try.prog 21 [.agg #[.int .i64 W, .int .i64 H, .int .i64 Mx, .slice p mp c], .slice q m cs, .int .i64 x, .int .i64 y, .int .i64 th] X w0 M0 I0 (fun v M I => M0 = M ∧ I0 = I ∧ v = .bool (B (Pk px W H th x y))) := by
  refine enterD5 Try.func21 rfl Try.ntmps21 rfl ?_
  refine TD_seq ?_
  refine TD_region ?_
  (refine RD_boxA rfl rfl rfl ?_; intro b5; refine ⟨okF, ?_⟩)
  refine RD_freezeB .here ?_
  repeat (refine wXh ?_)
  (refine RD_callS rfl (rat_ok (x := x) (y := y) hx0 hs hW hH memF) rfl rfl ?_; rintro _ _ _ ⟨rfl, rfl, rfl⟩; refine ⟨okF, ?_⟩)
  by_cases hth : scF px W H x y ≤ th
  · repeat (refine wXh ?_)
    refine ND_ret1 (by first | exact .inl rfl | exact .inr rfl) rfl rfl _ _ subF incF (⟨rfl, rfl, congrArg Value.bool (B_false (fun hp => by have := (Pk_nine.1 hp).1; omega)).symm⟩)
  repeat (refine wXh ?_)
  refine TD_loop [1, 2, 3, 5, 11] rfl (fun k G M I => ∃ j : Int, -1 ≤ j ∧ j ≤ 2 ∧ k = (2 - j).toNat ∧ (∀ j' i' : Int, -1 ≤ j' → j' < j → -1 ≤ i' → i' ≤ 1 → OkN (scF px W H) x y i' j') ∧ G = [(12, .int .i64 j)] ∧ M0 = M ∧ I = slI (some ⟨b5, 0, none⟩) [.int .i64 W, .int .i64 H, .int .i64 Mx, .slice p mp c] :: I0) (3) _ _ _ subG subF incF (⟨-1, by omega, by omega, rfl, fun j' i' h1 h2 => by omega, rfl, rfl, rfl⟩) ?_
  rintro kk G M I ⟨j, hj1, hj2, rfl, hout, rfl, rfl, rfl⟩
  by_cases hj : j ≤ 1
  rotate_left
  · repeat (refine wXh ?_)
    refine ND_ret1 (by first | exact .inl rfl | exact .inr rfl) rfl rfl _ _ subF incF (⟨rfl, rfl, congrArg Value.bool (B_true (Pk_nine.2 ⟨by omega, fun j' i' h1 h2 h3 h4 => hout j' i' h1 (by omega) h3 h4⟩)).symm⟩)
  repeat (refine wXh ?_)
  refine TD_loop [1, 2, 3, 5, 11, 12] rfl (fun k G M I => ∃ i : Int, -1 ≤ i ∧ i ≤ 2 ∧ k = (2 - i).toNat ∧ (∀ i' : Int, -1 ≤ i' → i' < i → OkN (scF px W H) x y i' j) ∧ G = [(13, .int .i64 i)] ∧ M0 = M ∧ I = slI (some ⟨b5, 0, none⟩) [.int .i64 W, .int .i64 H, .int .i64 Mx, .slice p mp c] :: I0) (3) _ _ _ subG subF incF (⟨-1, by omega, by omega, rfl, fun i' h1 h2 => by omega, rfl, rfl, rfl⟩) ?_
  rintro kk G M I ⟨i, hi1, hi2, rfl, hin, rfl, rfl, rfl⟩
  by_cases hi : i ≤ 1
  rotate_left
  · repeat (refine wXh ?_)
    refine ND_again ((2 - (j + 1)).toNat) _ _ _ (by first | omega | (simp only [List.length_append, List.length_cons, List.length_nil]; omega)) subG subF incF (⟨j + 1, by omega, by omega, rfl, fun j' i' g1 g2 g3 g4 => ?_, rfl, rfl, rfl⟩)
    by_cases e : j' = j
    · subst e; exact hin i' g3 (by omega)
    · exact hout j' i' g1 (by omega) g3 g4
  by_cases c1 : j < 0
  · skip
    repeat (refine wXh ?_)
    (refine RD_callS rfl (rat_ok (x := x + i) (y := y + j) hx0 hs hW hH memF) rfl rfl ?_; rintro _ _ _ ⟨rfl, rfl, rfl⟩; refine ⟨okF, ?_⟩)
    by_cases hm : scF px W H x y < scF px W H (x + i) (y + j)
    · repeat (refine wXh ?_)
      refine ND_ret1 (by first | exact .inl rfl | exact .inr rfl) rfl rfl _ _ subF incF (⟨rfl, rfl, congrArg Value.bool (B_false (fun hp => by have := ((Pk_nine.1 hp).2 j i (by omega) (by omega) (by omega) (by omega)).1; omega)).symm⟩)
    by_cases hm2 : scF px W H (x + i) (y + j) = scF px W H x y
    · repeat (refine wXh ?_)
      refine ND_ret1 (by first | exact .inl rfl | exact .inr rfl) rfl rfl _ _ subF incF (⟨rfl, rfl, congrArg Value.bool (B_false (fun hp => by have := ((Pk_nine.1 hp).2 j i (by omega) (by omega) (by omega) (by omega)).2 (by omega); omega)).symm⟩)
    repeat (refine wXh ?_)
    refine ND_again ((2 - (i + 1)).toNat) _ _ _ (by first | omega | (simp only [List.length_append, List.length_cons, List.length_nil]; omega)) subG subF incF (⟨i + 1, by omega, by omega, rfl, fun i' g1 g2 => ?_, rfl, rfl, rfl⟩)
    by_cases e : i' = i
    · subst e; exact ⟨by omega, fun _ => by omega⟩
    · exact hin i' g1 (by omega)
  by_cases c2 : j = 0
  · by_cases c3 : i < 0
    · skip
      repeat (refine wXh ?_)
      (refine RD_callS rfl (rat_ok (x := x + i) (y := y + j) hx0 hs hW hH memF) rfl rfl ?_; rintro _ _ _ ⟨rfl, rfl, rfl⟩; refine ⟨okF, ?_⟩)
      by_cases hm : scF px W H x y < scF px W H (x + i) (y + j)
      · repeat (refine wXh ?_)
        refine ND_ret1 (by first | exact .inl rfl | exact .inr rfl) rfl rfl _ _ subF incF (⟨rfl, rfl, congrArg Value.bool (B_false (fun hp => by have := ((Pk_nine.1 hp).2 j i (by omega) (by omega) (by omega) (by omega)).1; omega)).symm⟩)
      by_cases hm2 : scF px W H (x + i) (y + j) = scF px W H x y
      · repeat (refine wXh ?_)
        refine ND_ret1 (by first | exact .inl rfl | exact .inr rfl) rfl rfl _ _ subF incF (⟨rfl, rfl, congrArg Value.bool (B_false (fun hp => by have := ((Pk_nine.1 hp).2 j i (by omega) (by omega) (by omega) (by omega)).2 (by omega); omega)).symm⟩)
      repeat (refine wXh ?_)
      refine ND_again ((2 - (i + 1)).toNat) _ _ _ (by first | omega | (simp only [List.length_append, List.length_cons, List.length_nil]; omega)) subG subF incF (⟨i + 1, by omega, by omega, rfl, fun i' g1 g2 => ?_, rfl, rfl, rfl⟩)
      by_cases e : i' = i
      · subst e; exact ⟨by omega, fun _ => by omega⟩
      · exact hin i' g1 (by omega)
    · skip
      repeat (refine wXh ?_)
      (refine RD_callS rfl (rat_ok (x := x + i) (y := y + j) hx0 hs hW hH memF) rfl rfl ?_; rintro _ _ _ ⟨rfl, rfl, rfl⟩; refine ⟨okF, ?_⟩)
      by_cases hm : scF px W H x y < scF px W H (x + i) (y + j)
      · repeat (refine wXh ?_)
        refine ND_ret1 (by first | exact .inl rfl | exact .inr rfl) rfl rfl _ _ subF incF (⟨rfl, rfl, congrArg Value.bool (B_false (fun hp => by have := ((Pk_nine.1 hp).2 j i (by omega) (by omega) (by omega) (by omega)).1; omega)).symm⟩)
      repeat (refine wXh ?_)
      refine ND_again ((2 - (i + 1)).toNat) _ _ _ (by first | omega | (simp only [List.length_append, List.length_cons, List.length_nil]; omega)) subG subF incF (⟨i + 1, by omega, by omega, rfl, fun i' g1 g2 => ?_, rfl, rfl, rfl⟩)
      by_cases e : i' = i
      · subst e; exact ⟨by omega, fun h => by omega⟩
      · exact hin i' g1 (by omega)
  · skip
    repeat (refine wXh ?_)
    (refine RD_callS rfl (rat_ok (x := x + i) (y := y + j) hx0 hs hW hH memF) rfl rfl ?_; rintro _ _ _ ⟨rfl, rfl, rfl⟩; refine ⟨okF, ?_⟩)
    by_cases hm : scF px W H x y < scF px W H (x + i) (y + j)
    · repeat (refine wXh ?_)
      refine ND_ret1 (by first | exact .inl rfl | exact .inr rfl) rfl rfl _ _ subF incF (⟨rfl, rfl, congrArg Value.bool (B_false (fun hp => by have := ((Pk_nine.1 hp).2 j i (by omega) (by omega) (by omega) (by omega)).1; omega)).symm⟩)
    repeat (refine wXh ?_)
    refine ND_again ((2 - (i + 1)).toNat) _ _ _ (by first | omega | (simp only [List.length_append, List.length_cons, List.length_nil]; omega)) subG subF incF (⟨i + 1, by omega, by omega, rfl, fun i' g1 g2 => ?_, rfl, rfl, rfl⟩)
    by_cases e : i' = i
    · subst e; exact ⟨by omega, fun h => by omega⟩
    · exact hin i' g1 (by omega)
end
end Go.Proofs.Ytegaegipekonmaa
