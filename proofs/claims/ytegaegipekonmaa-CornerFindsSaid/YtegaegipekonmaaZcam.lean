/- corner: peaks, plain corner: Find -/
import Derived.Test.YtegaegipekonmaaZcaj
import Derived.Test.YtegaegipekonmaaZcal
set_option linter.unusedSimpArgs false
set_option linter.unusedVariables false
namespace Go.Proofs.Ytegaegipekonmaa
open Go Go.Fx

section
variable (px : List Int) (W H th : Int)
def PkD (x y dx dy : Int) : Prop := scF px W H (x + dx) (y + dy) < scF px W H x y ∧ scF px W H (x - dx) (y - dy) ≤ scF px W H x y
instance (x y dx dy : Int) : Decidable (PkD px W H x y dx dy) := by unfold PkD; exact inferInstance
def Pk (x y : Int) : Prop := th < scF px W H x y ∧ PkD px W H x y (-1) (-1) ∧ PkD px W H x y 0 (-1) ∧ PkD px W H x y 1 (-1) ∧ PkD px W H x y (-1) 0
instance (x y : Int) : Decidable (Pk px W H th x y) := by unfold Pk; exact inferInstance
def CK (x y : Int) : C3 := (64 * x + 32 + par (scF px W H (x - 1) y) (scF px W H x y) (scF px W H (x + 1) y), 64 * y + 32 + par (scF px W H x (y - 1)) (scF px W H x y) (scF px W H x (y + 1)), scF px W H x y)
def rowL (y : Int) : Nat → List C3
  | 0 => []
  | n + 1 => rowL y n ++ (if Pk px W H th n y then [CK px W H n y] else [])
def allL : Nat → List C3
  | 0 => []
  | m + 1 => allL m ++ rowL px W H th m W.toNat

theorem rowL_succ (y : Int) (n : Nat) : rowL px W H th y (n + 1) = rowL px W H th y n ++ (if Pk px W H th n y then [CK px W H n y] else []) := rfl
theorem Pk_in {x y : Int} (hth : 0 ≤ th) (h : Pk px W H th x y) : 2 ≤ x ∧ 2 ≤ y ∧ x < W - 2 ∧ y < H - 2 := by
  have h1 := h.1
  unfold scF at h1
  split at h1 <;> omega
theorem rowL_low (hth : 0 ≤ th) (y : Int) : ∀ n : Nat, n ≤ 2 → rowL px W H th y n = []
  | 0, _ => rfl
  | n + 1, h => by
    rw [rowL, rowL_low hth y n (by omega), if_neg (fun hp => by have := Pk_in px W H th hth hp; omega)]
    rfl
theorem rowL_out (hth : 0 ≤ th) {y : Int} (hy : y < 2 ∨ H - 2 ≤ y) : ∀ n : Nat, rowL px W H th y n = []
  | 0 => rfl
  | n + 1 => by
    rw [rowL, rowL_out hth hy n, if_neg (fun hp => by have := Pk_in px W H th hth hp; omega)]
    rfl
theorem rowL_high (hth : 0 ≤ th) (y : Int) (m : Nat) (hm : W - 2 ≤ m) : ∀ d : Nat, rowL px W H th y (m + d) = rowL px W H th y m
  | 0 => rfl
  | d + 1 => by
    rw [show m + (d + 1) = (m + d) + 1 by omega, rowL, rowL_high hth y m hm d, if_neg (fun hp => by have := Pk_in px W H th hth hp; omega)]
    simp
theorem allL_low (hth : 0 ≤ th) : ∀ m : Nat, m ≤ 2 → allL px W H th m = []
  | 0, _ => rfl
  | m + 1, h => by
    rw [allL, allL_low hth m (by omega), rowL_out px W H th hth (by omega)]
    rfl
theorem allL_high (hth : 0 ≤ th) (m : Nat) (hm : H - 2 ≤ m) : ∀ d : Nat, allL px W H th (m + d) = allL px W H th m
  | 0 => rfl
  | d + 1 => by
    rw [show m + (d + 1) = (m + d) + 1 by omega, allL, allL_high hth m hm d, rowL_out px W H th hth (by omega)]
    simp
/- two neighbours are not both peaks -/
theorem Pk_h {x y : Int} (h1 : Pk px W H th x y) (h2 : Pk px W H th (x + 1) y) : False := by
  have a := h1.2.2.2.2.2
  have b := h2.2.2.2.2.1
  rw [show x - -1 = x + 1 by omega, show y - 0 = y by omega] at a
  rw [show x + 1 + -1 = x by omega, show y + 0 = y by omega] at b
  omega
theorem Pk_v {x y : Int} (h1 : Pk px W H th x y) (h2 : Pk px W H th x (y + 1)) : False := by
  have a := h1.2.2.1.2
  have b := h2.2.2.1.1
  rw [show x - 0 = x by omega, show y - -1 = y + 1 by omega] at a
  rw [show x + 0 = x by omega, show y + 1 + -1 = y by omega] at b
  omega
theorem Pk_d {x y : Int} (h1 : Pk px W H th x y) (h2 : Pk px W H th (x + 1) (y + 1)) : False := by
  have a := h1.2.1.2
  have b := h2.2.1.1
  rw [show x - -1 = x + 1 by omega, show y - -1 = y + 1 by omega] at a
  rw [show x + 1 + -1 = x by omega, show y + 1 + -1 = y by omega] at b
  omega
theorem Pk_a {x y : Int} (h1 : Pk px W H th (x + 1) y) (h2 : Pk px W H th x (y + 1)) : False := by
  have a := h1.2.2.2.1.2
  have b := h2.2.2.2.1.1
  rw [show x + 1 - 1 = x by omega, show y - -1 = y + 1 by omega] at a
  rw [show y + 1 + -1 = y by omega] at b
  omega
theorem one_len {p : Prop} [Decidable p] (c : C3) : (if p then [c] else []).length = if p then 1 else 0 := by split <;> rfl
/-- two rows hold few -/
theorem rows2 (hth : 0 ≤ th) (y : Int) : ∀ n : Nat, (rowL px W H th y (2 + n)).length + (rowL px W H th (y + 1) (2 + n)).length ≤ (n + 1) / 2
  | 0 => by rw [rowL_low px W H th hth _ _ (by omega), rowL_low px W H th hth _ _ (by omega)]; simp
  | 1 => by
    rw [rowL_succ px W H th y 2, rowL_succ px W H th (y + 1) 2, rowL_low px W H th hth _ _ (by omega), rowL_low px W H th hth _ _ (by omega)]
    simp only [List.nil_append, one_len]
    split
    · split
      · rename_i h1 h2
        exact (Pk_v px W H th h1 h2).elim
      · omega
    · split <;> omega
  | n + 2 => by
    have ih := rows2 hth y n
    rw [show 2 + (n + 2) = 2 + n + 1 + 1 by omega, rowL_succ px W H th y (2 + n + 1), rowL_succ px W H th y (2 + n), rowL_succ px W H th (y + 1) (2 + n + 1), rowL_succ px W H th (y + 1) (2 + n)]
    simp only [List.length_append, one_len]
    have e : ((2 + n + 1 : Nat) : Int) = ((2 + n : Nat) : Int) + 1 := by omega
    rw [e]
    by_cases a : Pk px W H th ((2 + n : Nat) : Int) y
    · rw [if_pos a, if_neg (fun h => Pk_h px W H th a h), if_neg (fun h => Pk_v px W H th a h), if_neg (fun h => Pk_d px W H th a h)]
      omega
    · rw [if_neg a]
      by_cases b : Pk px W H th (((2 + n : Nat) : Int) + 1) y
      · rw [if_pos b, if_neg (fun h => Pk_a px W H th b h), if_neg (fun h => Pk_v px W H th b h)]
        omega
      · rw [if_neg b]
        by_cases c : Pk px W H th ((2 + n : Nat) : Int) (y + 1)
        · rw [if_pos c, if_neg (fun h => Pk_h px W H th c h)]
          omega
        · rw [if_neg c]
          split <;> omega
theorem row1 (hth : 0 ≤ th) (y : Int) (n : Nat) : (rowL px W H th y (2 + n)).length ≤ (n + 1) / 2 := by
  have := rows2 px W H th hth y n
  omega
theorem allL_len (hth : 0 ≤ th) (n : Nat) (hn : W - 2 ≤ 2 + n) : ∀ m : Nat, (allL px W H th (2 + m)).length ≤ ((m + 1) / 2) * ((n + 1) / 2)
  | 0 => by rw [allL_low px W H th hth _ (by omega)]; simp
  | 1 => by
    rw [show 2 + 1 = 2 + 0 + 1 from rfl, allL, allL_low px W H th hth _ (by omega)]
    have h := row1 px W H th hth ((2 + 0 : Nat) : Int) n
    by_cases hw : W.toNat ≤ 2 + n
    · have e := rowL_high px W H th hth ((2 + 0 : Nat) : Int) W.toNat (by omega) (2 + n - W.toNat)
      rw [show W.toNat + (2 + n - W.toNat) = 2 + n by omega] at e
      rw [← e]; simpa using h
    · have e := rowL_high px W H th hth ((2 + 0 : Nat) : Int) (2 + n) (by omega) (W.toNat - (2 + n))
      rw [show 2 + n + (W.toNat - (2 + n)) = W.toNat by omega] at e
      rw [e]; simpa using h
  | m + 2 => by
    have ih := allL_len hth n hn m
    have h := rows2 px W H th hth ((2 + m : Nat) : Int) n
    have e : ∀ y : Int, rowL px W H th y W.toNat = rowL px W H th y (2 + n) := fun y => by
      by_cases hw : W.toNat ≤ 2 + n
      · have e := rowL_high px W H th hth y W.toNat (by omega) (2 + n - W.toNat)
        rw [show W.toNat + (2 + n - W.toNat) = 2 + n by omega] at e
        exact e.symm
      · have e := rowL_high px W H th hth y (2 + n) (by omega) (W.toNat - (2 + n))
        rw [show 2 + n + (W.toNat - (2 + n)) = W.toNat by omega] at e
        exact e
    rw [show 2 + (m + 2) = 2 + m + 1 + 1 by omega, allL, allL]
    simp only [List.length_append, e]
    rw [show ((2 + m + 1 : Nat) : Int) = ((2 + m : Nat) : Int) + 1 by omega]
    have : ((m + 2 + 1) / 2) * ((n + 1) / 2) = ((m + 1) / 2) * ((n + 1) / 2) + (n + 1) / 2 := by
      rw [show (m + 2 + 1) / 2 = (m + 1) / 2 + 1 by omega, Nat.add_mul]; omega
    omega
theorem box_bd {a b w h : Nat} (ha : 2 * a ≤ w - 3) (hb : 2 * b ≤ h - 3) (hwh : w * h ≤ 200) : a * b < 40 := by
  by_cases h0 : a = 0 ∨ b = 0
  · rcases h0 with rfl | rfl <;> simp
  · have h1 : 2 * a + 3 ≤ w := by omega
    have h2 : 2 * b + 3 ≤ h := by omega
    have h3 : (2 * a + 3) * (2 * b + 3) ≤ 200 := Nat.le_trans (Nat.mul_le_mul h1 h2) hwh
    have h4 : (2 * a + 3) * (2 * b + 3) = 4 * (a * b) + 6 * a + 6 * b + 9 := by
      simp only [Nat.add_mul, Nat.mul_add]
      have : 2 * a * (2 * b) = 4 * (a * b) := by rw [Nat.mul_mul_mul_comm]
      omega
    by_cases hs : a + b ≤ 12
    · have : ∀ a ≤ 12, ∀ b ≤ 12, a + b ≤ 12 → a * b ≤ 36 := by decide
      have := this a (by omega) b (by omega) hs
      omega
    · omega
theorem allL_few (hth : 0 ≤ th) (hW : 1 ≤ W) (hH : 1 ≤ H) (hWH : W * H ≤ 200) (m : Nat) : (allL px W H th m).length < 40 := by
  by_cases hm : (m : Int) ≤ H - 2
  · by_cases h2 : m ≤ 2
    · rw [allL_low px W H th hth m h2]; simp
    · have := allL_len px W H th hth (W - 4).toNat (by omega) (m - 2)
      rw [show 2 + (m - 2) = m by omega] at this
      have hb := box_bd (a := (m - 2 + 1) / 2) (b := ((W - 4).toNat + 1) / 2) (w := H.toNat) (h := W.toNat) (by omega) (by omega) (by
        have : ((H.toNat * W.toNat : Nat) : Int) = W * H := by rw [Int.natCast_mul, Int.mul_comm]; congr 1 <;> omega
        omega)
      omega
  · have hk : ∃ q : Nat, q ≤ m ∧ H - 2 ≤ q ∧ (q : Int) ≤ max (H - 2) 0 := ⟨(H - 2).toNat, by omega, by omega, by omega⟩
    obtain ⟨q, hq, h1, h2⟩ := hk
    have e := allL_high px W H th hth q h1 (m - q)
    rw [show q + (m - q) = m by omega] at e
    rw [e]
    by_cases h2 : q ≤ 2
    · rw [allL_low px W H th hth q h2]; simp
    · have := allL_len px W H th hth (W - 4).toNat (by omega) (q - 2)
      rw [show 2 + (q - 2) = q by omega] at this
      have hb := box_bd (a := (q - 2 + 1) / 2) (b := ((W - 4).toNat + 1) / 2) (w := H.toNat) (h := W.toNat) (by omega) (by omega) (by
        have : ((H.toNat * W.toNat : Nat) : Int) = W * H := by rw [Int.natCast_mul, Int.mul_comm]; congr 1 <;> omega
        omega)
      omega
end
end Go.Proofs.Ytegaegipekonmaa
namespace Go.Proofs.Ytegaegipekonmaa
open Go Go.Fx

theorem IsSc.at {px : List Int} {W H : Int} {xs : List Int} (h : IsSc px W H xs) {x y : Int} (hx : 0 ≤ x ∧ x < W) (hy : 0 ≤ y ∧ y < H) {i : Int} (hi : i = y * W + x) : gt xs i = scF px W H x y := by
  subst hi
  exact h.2 x y hx.1 hx.2 hy.1 hy.2
theorem scF_bd {px : List Int} (hP : Px px) (W H x y : Int) : -10000000000000000 ≤ scF px W H x y ∧ scF px W H x y ≤ 10000000000000000 := by
  unfold scF
  split
  · omega
  · have := comb_bd (sBox_bd hP W x y 3)
    unfold scoreI comb
    omega

section
variable {X : List Nat} {w0 : World} {M0 : List Ent} {I0 : List Imm}

theorem peak_ok {bs bt bw bx : Nat} {e1 e2 e3 : TypeId} {W H th : Int} {px xs : List Int} {n c : Nat} {x y i : Int} (hs : .blk bs [.slice (some ⟨bx, 0, none⟩) n c] e1 ∈ M0) (ht : .blk bt [.int .i64 th] e2 ∈ M0) (hw : .blk bw [.int .i64 W] e3 ∈ M0) (hI : slI (some ⟨bx, 0, none⟩) (recs (eI .i64) xs) ∈ I0)
    (hn : n = xs.length) (hsc : IsSc px W H xs) (hW : 1 ≤ W ∧ W ≤ 64) (hH : 1 ≤ H ∧ H ≤ 64) (hx : 2 ≤ x ∧ x < W - 2) (hy : 2 ≤ y ∧ y < H - 2) (hi : i = y * W + x) :
    CD Try.prog 15 [.int .i64 i, .pointer (some ⟨bs, 0, none⟩), .pointer (some ⟨bt, 0, none⟩), .pointer (some ⟨bw, 0, none⟩)] X w0 M0 I0 (fun v M I => M0 = M ∧ I0 = I ∧ v = .bool (B (Pk px W H th x y))) := by
  have d0 := idx_in (W := W) (H := H) (x := x) (y := y) hW hH (by omega) (by omega)
  have hl := hsc.1
  have hm := mul64 hW hH
  have v0 := hsc.at (x := x) (y := y) (i := i) (by omega) (by omega) hi
  subst hn
  refine enterD Try.func15 rfl Try.ntmps15 rfl ?_
  repeat' (first | refine TD_seq ?_ | refine TD_region ?_ | refine TD_ret ?_ | refine TD_skip ?_ | refine TD_label ?_ | refine TD_block ?_ | refine TD_exit ?_ | refine ND_then ?_ | refine ND_thenR ?_ | refine ND_thenE ?_ | refine ND_inN ?_ | refine ND_inR ?_ | refine ND_inE ?_ | refine ND_inO rfl ?_ | refine RD_nil ?_ | (refine RD_isGu ?_; first | refine RD_skip rfl rfl rfl ?_ | (refine RD_isEf rfl rfl ?_; refine RD_skipE rfl rfl rfl okD ?_) | refine RD_grdY rfl rfl (by omega) ?_ | refine RD_grdN rfl rfl (by omega) ?_ | refine RD_grd rfl rfl (fun h => ?_) (fun h => ?_) | (fail_if_success (refine RD_isW rfl ?_); refine RD_grdB rfl rfl (fun h => ?_) (fun h => ?_))) | (refine RD_isUn ?_; refine RD_c rfl (fun _ => Const_notB rfl) rfl rfl ?_) | refine RD_c rfl (fun _ => Const_pure rfl) rfl rfl ?_ | (refine RD_isBi ?_; first | refine RD_c rfl (fun _ => Const_add rfl rfl w_) rfl rfl ?_ | refine RD_c rfl (fun _ => Const_sub rfl rfl w_) rfl rfl ?_ | refine RD_c rfl (fun _ => Const_mul rfl rfl w_) rfl rfl ?_ | refine RD_c rfl (fun _ => Const_quo rfl rfl (by omega) q_) rfl rfl ?_ | refine RD_c rfl (fun _ => Const_rem rfl rfl (by omega) rfl) rfl rfl ?_ | refine RD_c rfl (fun _ => Const_half rfl rfl) rfl rfl ?_) | (refine RD_isUn ?_; first | refine RD_c rfl (fun _ => Const_neg rfl w_) rfl rfl ?_) | (refine RD_isCv ?_; first | refine RD_c rfl (fun _ => Const_conv rfl w_) rfl rfl ?_) | (refine RD_isCa ?_; first | refine RD_c rfl (fun _ => Const_len rfl) rfl rfl ?_ | refine RD_c rfl (fun _ => Const_minM rfl rfl) rfl rfl ?_ | refine RD_c rfl (fun _ => Const_maxM rfl rfl) rfl rfl ?_ | refine RD_c rfl (fun _ => Const_min3 rfl rfl rfl) rfl rfl ?_) | (refine RD_isFa ?_; first | refine RD_fldP rfl (by decide) rfl rfl ?_ | refine RD_fld rfl (by decide) rfl rfl ?_) | (refine RD_isIx ?_; first | refine RD_ixB rfl rfl bdI rfl rfl ?_ | refine RD_ixI vwX rfl rfl bdI memL posC rfl rfl ?_ | refine RD_ixR vwX rfl rfl bdI memL posC rfl rfl ?_ | refine RD_c rfl (fun _ => Const_indexA rfl rfl bdI) rfl rfl ?_) | (refine RD_isLd ?_; first | refine RD_ldI vwX rfl memL atC rfl rfl ?_ | refine RD_ldR vwX rfl memL atC rfl rfl ?_ | refine RD_ldB vwX rfl memL atC rfl rfl ?_ | refine RD_ldIB vwX rfl memL atC rfl rfl ?_ | refine RD_ldNI vwX rfl memL atsC lenC rfl rfl ?_ | refine RD_ldNR vwX rfl memL atsC lenC rfl rfl ?_ | refine RD_ldNB vwX rfl memL atsC lenC rfl rfl ?_ | refine RD_ldNIB vwX rfl memL atsC lenC rfl rfl ?_) | (refine RD_isFd ?_; first | refine RD_c rfl (fun _ => Const_field1 rfl rfl) rfl rfl ?_ | refine RD_c rfl (fun _ => Const_fieldN rfl) rfl rfl ?_) | (refine RD_isSt ?_; first | refine RD_st rfl rfl rfl repE stC rfl rfl ⟨okD, ?_⟩ | refine RD_stN rfl rfl lenC oneC repE stsC rfl rfl ⟨okD, ?_⟩) | (refine TD_isCo ?_; first | refine TD_cond_true rfl ?_ | refine TD_cond_false rfl ?_ | refine TD_yes rfl (by omega) ?_ | refine TD_no rfl (by omega) ?_ | refine TD_dec rfl (fun h => ?_) (fun h => ?_) | refine TD_cond rfl (fun h => ?_) (fun h => ?_)))
  (repeat refine TD_seq ?_); refine TD_drawn [0, 1, 2, 3, 4, 5] [0, 0, 0, 0, 0, 0] mixed (by kernel_rfl) ?_
  repeat' (first | refine TD_seq ?_ | refine TD_region ?_ | refine TD_ret ?_ | refine TD_skip ?_ | refine TD_label ?_ | refine TD_block ?_ | refine TD_exit ?_ | refine ND_then ?_ | refine ND_thenR ?_ | refine ND_thenE ?_ | refine ND_inN ?_ | refine ND_inR ?_ | refine ND_inE ?_ | refine ND_inO rfl ?_ | refine RD_nil ?_ | (refine RD_isGu ?_; first | refine RD_skip rfl rfl rfl ?_ | (refine RD_isEf rfl rfl ?_; refine RD_skipE rfl rfl rfl okD ?_) | refine RD_grdY rfl rfl (by omega) ?_ | refine RD_grdN rfl rfl (by omega) ?_ | refine RD_grd rfl rfl (fun h => ?_) (fun h => ?_) | (fail_if_success (refine RD_isW rfl ?_); refine RD_grdB rfl rfl (fun h => ?_) (fun h => ?_))) | (refine RD_isUn ?_; refine RD_c rfl (fun _ => Const_notB rfl) rfl rfl ?_) | refine RD_c rfl (fun _ => Const_pure rfl) rfl rfl ?_ | (refine RD_isBi ?_; first | refine RD_c rfl (fun _ => Const_add rfl rfl w_) rfl rfl ?_ | refine RD_c rfl (fun _ => Const_sub rfl rfl w_) rfl rfl ?_ | refine RD_c rfl (fun _ => Const_mul rfl rfl w_) rfl rfl ?_ | refine RD_c rfl (fun _ => Const_quo rfl rfl (by omega) q_) rfl rfl ?_ | refine RD_c rfl (fun _ => Const_rem rfl rfl (by omega) rfl) rfl rfl ?_ | refine RD_c rfl (fun _ => Const_half rfl rfl) rfl rfl ?_) | (refine RD_isUn ?_; first | refine RD_c rfl (fun _ => Const_neg rfl w_) rfl rfl ?_) | (refine RD_isCv ?_; first | refine RD_c rfl (fun _ => Const_conv rfl w_) rfl rfl ?_) | (refine RD_isCa ?_; first | refine RD_c rfl (fun _ => Const_len rfl) rfl rfl ?_ | refine RD_c rfl (fun _ => Const_minM rfl rfl) rfl rfl ?_ | refine RD_c rfl (fun _ => Const_maxM rfl rfl) rfl rfl ?_ | refine RD_c rfl (fun _ => Const_min3 rfl rfl rfl) rfl rfl ?_) | (refine RD_isFa ?_; first | refine RD_fldP rfl (by decide) rfl rfl ?_ | refine RD_fld rfl (by decide) rfl rfl ?_) | (refine RD_isIx ?_; first | refine RD_ixB rfl rfl bdI rfl rfl ?_ | refine RD_ixI vwX rfl rfl bdI memL posC rfl rfl ?_ | refine RD_ixR vwX rfl rfl bdI memL posC rfl rfl ?_ | refine RD_c rfl (fun _ => Const_indexA rfl rfl bdI) rfl rfl ?_) | (refine RD_isLd ?_; first | refine RD_ldI vwX rfl memL atC rfl rfl ?_ | refine RD_ldR vwX rfl memL atC rfl rfl ?_ | refine RD_ldB vwX rfl memL atC rfl rfl ?_ | refine RD_ldIB vwX rfl memL atC rfl rfl ?_ | refine RD_ldNI vwX rfl memL atsC lenC rfl rfl ?_ | refine RD_ldNR vwX rfl memL atsC lenC rfl rfl ?_ | refine RD_ldNB vwX rfl memL atsC lenC rfl rfl ?_ | refine RD_ldNIB vwX rfl memL atsC lenC rfl rfl ?_) | (refine RD_isFd ?_; first | refine RD_c rfl (fun _ => Const_field1 rfl rfl) rfl rfl ?_ | refine RD_c rfl (fun _ => Const_fieldN rfl) rfl rfl ?_) | (refine RD_isSt ?_; first | refine RD_st rfl rfl rfl repE stC rfl rfl ⟨okD, ?_⟩ | refine RD_stN rfl rfl lenC oneC repE stsC rfl rfl ⟨okD, ?_⟩) | (refine TD_isCo ?_; first | refine TD_cond_true rfl ?_ | refine TD_cond_false rfl ?_ | refine TD_yes rfl (by omega) ?_ | refine TD_no rfl (by omega) ?_ | refine TD_dec rfl (fun h => ?_) (fun h => ?_) | refine TD_cond rfl (fun h => ?_) (fun h => ?_)))
  · refine ND_ret1 (by first | exact .inl rfl | exact .inr rfl) rfl rfl _ _ subP incL (⟨rfl, rfl, congrArg Value.bool (B_false (fun h => ?_)).symm⟩)
    have := h.1
    omega
  (refine RD_vals (cs := recs (eI .i64) [0 - W - 1, 0 - W, 0 - W + 1, -1]) ([.int .i64 (0 - W - 1), .int .i64 (0 - W), .int .i64 (0 - W + 1), .int .i64 (-1)]) rfl rfl (by intro v hv; repeat (first | exact absurd hv (List.not_mem_nil) | (rcases List.mem_cons.1 hv with rfl | hv; · rfl))) (by omega) rfl rfl rfl ?_; intro bd; refine ⟨okD, ?_⟩)
  repeat' (first | refine TD_seq ?_ | refine TD_region ?_ | refine TD_ret ?_ | refine TD_skip ?_ | refine TD_label ?_ | refine TD_block ?_ | refine TD_exit ?_ | refine ND_then ?_ | refine ND_thenR ?_ | refine ND_thenE ?_ | refine ND_inN ?_ | refine ND_inR ?_ | refine ND_inE ?_ | refine ND_inO rfl ?_ | refine RD_nil ?_ | (refine RD_isGu ?_; first | refine RD_skip rfl rfl rfl ?_ | (refine RD_isEf rfl rfl ?_; refine RD_skipE rfl rfl rfl okD ?_) | refine RD_grdY rfl rfl (by omega) ?_ | refine RD_grdN rfl rfl (by omega) ?_ | refine RD_grd rfl rfl (fun h => ?_) (fun h => ?_) | (fail_if_success (refine RD_isW rfl ?_); refine RD_grdB rfl rfl (fun h => ?_) (fun h => ?_))) | (refine RD_isUn ?_; refine RD_c rfl (fun _ => Const_notB rfl) rfl rfl ?_) | refine RD_c rfl (fun _ => Const_pure rfl) rfl rfl ?_ | (refine RD_isBi ?_; first | refine RD_c rfl (fun _ => Const_add rfl rfl w_) rfl rfl ?_ | refine RD_c rfl (fun _ => Const_sub rfl rfl w_) rfl rfl ?_ | refine RD_c rfl (fun _ => Const_mul rfl rfl w_) rfl rfl ?_ | refine RD_c rfl (fun _ => Const_quo rfl rfl (by omega) q_) rfl rfl ?_ | refine RD_c rfl (fun _ => Const_rem rfl rfl (by omega) rfl) rfl rfl ?_ | refine RD_c rfl (fun _ => Const_half rfl rfl) rfl rfl ?_) | (refine RD_isUn ?_; first | refine RD_c rfl (fun _ => Const_neg rfl w_) rfl rfl ?_) | (refine RD_isCv ?_; first | refine RD_c rfl (fun _ => Const_conv rfl w_) rfl rfl ?_) | (refine RD_isCa ?_; first | refine RD_c rfl (fun _ => Const_len rfl) rfl rfl ?_ | refine RD_c rfl (fun _ => Const_minM rfl rfl) rfl rfl ?_ | refine RD_c rfl (fun _ => Const_maxM rfl rfl) rfl rfl ?_ | refine RD_c rfl (fun _ => Const_min3 rfl rfl rfl) rfl rfl ?_) | (refine RD_isFa ?_; first | refine RD_fldP rfl (by decide) rfl rfl ?_ | refine RD_fld rfl (by decide) rfl rfl ?_) | (refine RD_isIx ?_; first | refine RD_ixB rfl rfl bdI rfl rfl ?_ | refine RD_ixI vwX rfl rfl bdI memL posC rfl rfl ?_ | refine RD_ixR vwX rfl rfl bdI memL posC rfl rfl ?_ | refine RD_c rfl (fun _ => Const_indexA rfl rfl bdI) rfl rfl ?_) | (refine RD_isLd ?_; first | refine RD_ldI vwX rfl memL atC rfl rfl ?_ | refine RD_ldR vwX rfl memL atC rfl rfl ?_ | refine RD_ldB vwX rfl memL atC rfl rfl ?_ | refine RD_ldIB vwX rfl memL atC rfl rfl ?_ | refine RD_ldNI vwX rfl memL atsC lenC rfl rfl ?_ | refine RD_ldNR vwX rfl memL atsC lenC rfl rfl ?_ | refine RD_ldNB vwX rfl memL atsC lenC rfl rfl ?_ | refine RD_ldNIB vwX rfl memL atsC lenC rfl rfl ?_) | (refine RD_isFd ?_; first | refine RD_c rfl (fun _ => Const_field1 rfl rfl) rfl rfl ?_ | refine RD_c rfl (fun _ => Const_fieldN rfl) rfl rfl ?_) | (refine RD_isSt ?_; first | refine RD_st rfl rfl rfl repE stC rfl rfl ⟨okD, ?_⟩ | refine RD_stN rfl rfl lenC oneC repE stsC rfl rfl ⟨okD, ?_⟩) | (refine TD_isCo ?_; first | refine TD_cond_true rfl ?_ | refine TD_cond_false rfl ?_ | refine TD_yes rfl (by omega) ?_ | refine TD_no rfl (by omega) ?_ | refine TD_dec rfl (fun h => ?_) (fun h => ?_) | refine TD_cond rfl (fun h => ?_) (fun h => ?_)))
  have hds : ∀ j : Nat, j < 4 → ∃ dx dy : Int, (-1 ≤ dx ∧ dx ≤ 1) ∧ (-1 ≤ dy ∧ dy ≤ 0) ∧ gt [0 - W - 1, 0 - W, 0 - W + 1, -1] (j : Int) = dy * W + dx ∧ ((dx, dy) = if j = 0 then (-1, -1) else if j = 1 then (0, -1) else if j = 2 then ((1 : Int), (-1 : Int)) else (-1, 0)) := by
    intro j hj
    match j, hj with
    | 0, _ => exact ⟨-1, -1, by omega, by omega, show 0 - W - 1 = _ by omega, rfl⟩
    | 1, _ => exact ⟨0, -1, by omega, by omega, show 0 - W = _ by omega, rfl⟩
    | 2, _ => exact ⟨1, -1, by omega, by omega, show 0 - W + 1 = _ by omega, rfl⟩
    | 3, _ => exact ⟨-1, 0, by omega, by omega, show -1 = _ by omega, rfl⟩
  generalize hdl : [0 - W - 1, 0 - W, 0 - W + 1, -1] = ds at *
  have hdlen : ds.length = 4 := by rw [← hdl]; rfl
  refine TD_loop [0, 1, 22, 23] rfl (fun k G M I => ∃ q : Nat, q ≤ 4 ∧ k = 4 - q ∧ (∀ j : Nat, j < q → ∀ dx dy : Int, ((dx, dy) = if j = 0 then (-1, -1) else if j = 1 then (0, -1) else if j = 2 then ((1 : Int), (-1 : Int)) else (-1, 0)) → PkD px W H x y dx dy) ∧ G = [(24, .int .i64 q)] ∧ M = .blk bd (recs (eI .i64) ds) 3 :: M0 ∧ I0 = I) (4) _ _ _ subG subP incL (⟨0, by omega, rfl, fun j hj => by omega, rfl, rfl, rfl⟩) ?_
  rintro k G M I ⟨q, hq, rfl, hp, rfl, rfl, rfl⟩
  repeat' (first | refine TD_seq ?_ | refine TD_region ?_ | refine TD_ret ?_ | refine TD_skip ?_ | refine TD_label ?_ | refine TD_block ?_ | refine TD_exit ?_ | refine ND_then ?_ | refine ND_thenR ?_ | refine ND_thenE ?_ | refine ND_inN ?_ | refine ND_inR ?_ | refine ND_inE ?_ | refine ND_inO rfl ?_ | refine RD_nil ?_ | (refine RD_isGu ?_; first | refine RD_skip rfl rfl rfl ?_ | (refine RD_isEf rfl rfl ?_; refine RD_skipE rfl rfl rfl okD ?_) | refine RD_grdY rfl rfl (by omega) ?_ | refine RD_grdN rfl rfl (by omega) ?_ | refine RD_grd rfl rfl (fun h => ?_) (fun h => ?_) | (fail_if_success (refine RD_isW rfl ?_); refine RD_grdB rfl rfl (fun h => ?_) (fun h => ?_))) | (refine RD_isUn ?_; refine RD_c rfl (fun _ => Const_notB rfl) rfl rfl ?_) | refine RD_c rfl (fun _ => Const_pure rfl) rfl rfl ?_ | (refine RD_isBi ?_; first | refine RD_c rfl (fun _ => Const_add rfl rfl w_) rfl rfl ?_ | refine RD_c rfl (fun _ => Const_sub rfl rfl w_) rfl rfl ?_ | refine RD_c rfl (fun _ => Const_mul rfl rfl w_) rfl rfl ?_ | refine RD_c rfl (fun _ => Const_quo rfl rfl (by omega) q_) rfl rfl ?_ | refine RD_c rfl (fun _ => Const_rem rfl rfl (by omega) rfl) rfl rfl ?_ | refine RD_c rfl (fun _ => Const_half rfl rfl) rfl rfl ?_) | (refine RD_isUn ?_; first | refine RD_c rfl (fun _ => Const_neg rfl w_) rfl rfl ?_) | (refine RD_isCv ?_; first | refine RD_c rfl (fun _ => Const_conv rfl w_) rfl rfl ?_) | (refine RD_isCa ?_; first | refine RD_c rfl (fun _ => Const_len rfl) rfl rfl ?_ | refine RD_c rfl (fun _ => Const_minM rfl rfl) rfl rfl ?_ | refine RD_c rfl (fun _ => Const_maxM rfl rfl) rfl rfl ?_ | refine RD_c rfl (fun _ => Const_min3 rfl rfl rfl) rfl rfl ?_) | (refine RD_isFa ?_; first | refine RD_fldP rfl (by decide) rfl rfl ?_ | refine RD_fld rfl (by decide) rfl rfl ?_) | (refine RD_isIx ?_; first | refine RD_ixB rfl rfl bdI rfl rfl ?_ | refine RD_ixI vwX rfl rfl bdI memL posC rfl rfl ?_ | refine RD_ixR vwX rfl rfl bdI memL posC rfl rfl ?_ | refine RD_c rfl (fun _ => Const_indexA rfl rfl bdI) rfl rfl ?_) | (refine RD_isLd ?_; first | refine RD_ldI vwX rfl memL atC rfl rfl ?_ | refine RD_ldR vwX rfl memL atC rfl rfl ?_ | refine RD_ldB vwX rfl memL atC rfl rfl ?_ | refine RD_ldIB vwX rfl memL atC rfl rfl ?_ | refine RD_ldNI vwX rfl memL atsC lenC rfl rfl ?_ | refine RD_ldNR vwX rfl memL atsC lenC rfl rfl ?_ | refine RD_ldNB vwX rfl memL atsC lenC rfl rfl ?_ | refine RD_ldNIB vwX rfl memL atsC lenC rfl rfl ?_) | (refine RD_isFd ?_; first | refine RD_c rfl (fun _ => Const_field1 rfl rfl) rfl rfl ?_ | refine RD_c rfl (fun _ => Const_fieldN rfl) rfl rfl ?_) | (refine RD_isSt ?_; first | refine RD_st rfl rfl rfl repE stC rfl rfl ⟨okD, ?_⟩ | refine RD_stN rfl rfl lenC oneC repE stsC rfl rfl ⟨okD, ?_⟩) | (refine TD_isCo ?_; first | refine TD_cond_true rfl ?_ | refine TD_cond_false rfl ?_ | refine TD_yes rfl (by omega) ?_ | refine TD_no rfl (by omega) ?_ | refine TD_dec rfl (fun h => ?_) (fun h => ?_) | refine TD_cond rfl (fun h => ?_) (fun h => ?_)))
  · obtain ⟨dx, dy, hdx, hdy, hgd, hpair⟩ := hds q (by omega)
    have s1 : i + (dy * W + dx) = (y + dy) * W + (x + dx) := by rw [hi, Int.add_mul]; omega
    have s2 : i - (dy * W + dx) = (y - dy) * W + (x - dx) := by rw [hi, Int.sub_mul]; omega
    have i1 := idx_in (W := W) (H := H) (x := x + dx) (y := y + dy) hW hH (by omega) (by omega)
    have i2 := idx_in (W := W) (H := H) (x := x - dx) (y := y - dy) hW hH (by omega) (by omega)
    have v1 := hsc.at (x := x + dx) (y := y + dy) (i := i + (dy * W + dx)) (by omega) (by omega) s1
    have v2 := hsc.at (x := x - dx) (y := y - dy) (i := i - (dy * W + dx)) (by omega) (by omega) s2
    have hbw : -64 ≤ dy * W ∧ dy * W ≤ 0 := by
      rcases (show dy = -1 ∨ dy = 0 by omega) with h | h <;> subst h <;> omega
    have no : ¬ PkD px W H x y dx dy → ¬ Pk px W H th x y := fun h hk => by
      obtain ⟨_, h1, h2, h3, h4⟩ := hk
      split at hpair
      · injection hpair with e1 e2; subst e1; subst e2; exact h h1
      · split at hpair
        · injection hpair with e1 e2; subst e1; subst e2; exact h h2
        · split at hpair
          · injection hpair with e1 e2; subst e1; subst e2; exact h h3
          · injection hpair with e1 e2; subst e1; subst e2; exact h h4
    rw [hgd]
    (repeat refine TD_seq ?_); refine TD_drawn [0, 1, 2, 3, 4, 5, 6, 7, 8, 9, 10, 11, 12, 13, 14, 15, 16, 17, 18, 19, 20, 21, 22, 23] [0, 0, 0, 0, 0, 0, 0, 0, 0, 0, 0, 0, 0, 0, 0, 0, 0, 0, 0, 0, 0, 0, 0, 0] mixed (by kernel_rfl) ?_
    repeat' (first | refine TD_seq ?_ | refine TD_region ?_ | refine TD_ret ?_ | refine TD_skip ?_ | refine TD_label ?_ | refine TD_block ?_ | refine TD_exit ?_ | refine ND_then ?_ | refine ND_thenR ?_ | refine ND_thenE ?_ | refine ND_inN ?_ | refine ND_inR ?_ | refine ND_inE ?_ | refine ND_inO rfl ?_ | refine RD_nil ?_ | (refine RD_isGu ?_; first | refine RD_skip rfl rfl rfl ?_ | (refine RD_isEf rfl rfl ?_; refine RD_skipE rfl rfl rfl okD ?_) | refine RD_grdY rfl rfl (by omega) ?_ | refine RD_grdN rfl rfl (by omega) ?_ | refine RD_grd rfl rfl (fun h => ?_) (fun h => ?_) | (fail_if_success (refine RD_isW rfl ?_); refine RD_grdB rfl rfl (fun h => ?_) (fun h => ?_))) | (refine RD_isUn ?_; refine RD_c rfl (fun _ => Const_notB rfl) rfl rfl ?_) | refine RD_c rfl (fun _ => Const_pure rfl) rfl rfl ?_ | (refine RD_isBi ?_; first | refine RD_c rfl (fun _ => Const_add rfl rfl w_) rfl rfl ?_ | refine RD_c rfl (fun _ => Const_sub rfl rfl w_) rfl rfl ?_ | refine RD_c rfl (fun _ => Const_mul rfl rfl w_) rfl rfl ?_ | refine RD_c rfl (fun _ => Const_quo rfl rfl (by omega) q_) rfl rfl ?_ | refine RD_c rfl (fun _ => Const_rem rfl rfl (by omega) rfl) rfl rfl ?_ | refine RD_c rfl (fun _ => Const_half rfl rfl) rfl rfl ?_) | (refine RD_isUn ?_; first | refine RD_c rfl (fun _ => Const_neg rfl w_) rfl rfl ?_) | (refine RD_isCv ?_; first | refine RD_c rfl (fun _ => Const_conv rfl w_) rfl rfl ?_) | (refine RD_isCa ?_; first | refine RD_c rfl (fun _ => Const_len rfl) rfl rfl ?_ | refine RD_c rfl (fun _ => Const_minM rfl rfl) rfl rfl ?_ | refine RD_c rfl (fun _ => Const_maxM rfl rfl) rfl rfl ?_ | refine RD_c rfl (fun _ => Const_min3 rfl rfl rfl) rfl rfl ?_) | (refine RD_isFa ?_; first | refine RD_fldP rfl (by decide) rfl rfl ?_ | refine RD_fld rfl (by decide) rfl rfl ?_) | (refine RD_isIx ?_; first | refine RD_ixB rfl rfl bdI rfl rfl ?_ | refine RD_ixI vwX rfl rfl bdI memL posC rfl rfl ?_ | refine RD_ixR vwX rfl rfl bdI memL posC rfl rfl ?_ | refine RD_c rfl (fun _ => Const_indexA rfl rfl bdI) rfl rfl ?_) | (refine RD_isLd ?_; first | refine RD_ldI vwX rfl memL atC rfl rfl ?_ | refine RD_ldR vwX rfl memL atC rfl rfl ?_ | refine RD_ldB vwX rfl memL atC rfl rfl ?_ | refine RD_ldIB vwX rfl memL atC rfl rfl ?_ | refine RD_ldNI vwX rfl memL atsC lenC rfl rfl ?_ | refine RD_ldNR vwX rfl memL atsC lenC rfl rfl ?_ | refine RD_ldNB vwX rfl memL atsC lenC rfl rfl ?_ | refine RD_ldNIB vwX rfl memL atsC lenC rfl rfl ?_) | (refine RD_isFd ?_; first | refine RD_c rfl (fun _ => Const_field1 rfl rfl) rfl rfl ?_ | refine RD_c rfl (fun _ => Const_fieldN rfl) rfl rfl ?_) | (refine RD_isSt ?_; first | refine RD_st rfl rfl rfl repE stC rfl rfl ⟨okD, ?_⟩ | refine RD_stN rfl rfl lenC oneC repE stsC rfl rfl ⟨okD, ?_⟩) | (refine TD_isCo ?_; first | refine TD_cond_true rfl ?_ | refine TD_cond_false rfl ?_ | refine TD_yes rfl (by omega) ?_ | refine TD_no rfl (by omega) ?_ | refine TD_dec rfl (fun h => ?_) (fun h => ?_) | refine TD_cond rfl (fun h => ?_) (fun h => ?_)))
    · refine ND_ret1 (by first | exact .inl rfl | exact .inr rfl) rfl rfl _ _ subP incL (⟨rfl, rfl, congrArg Value.bool (B_false (no (fun h => ?_))).symm⟩)
      have := h.1
      omega
    · refine ND_ret1 (by first | exact .inl rfl | exact .inr rfl) rfl rfl _ _ subP incL (⟨rfl, rfl, congrArg Value.bool (B_false (no (fun h => ?_))).symm⟩)
      have := h.2
      omega
    · refine ND_again (4 - (q + 1)) _ _ _ (by first | omega | (simp only [List.length_append, List.length_cons, List.length_nil]; omega)) subG subP incL (⟨q + 1, by omega, rfl, fun j hj dx' dy' he => ?_, rfl, rfl, rfl⟩)
      by_cases e : j = q
      · subst e
        rw [← hpair] at he
        injection he with e1 e2
        subst e1; subst e2
        exact ⟨by omega, by omega⟩
      · exact hp j (by omega) dx' dy' he
  · refine ND_ret1 (by first | exact .inl rfl | exact .inr rfl) rfl rfl _ _ subP incL (⟨rfl, rfl, congrArg Value.bool (B_true ⟨by omega, hp 0 (by omega) _ _ rfl, hp 1 (by omega) _ _ rfl, hp 2 (by omega) _ _ rfl, hp 3 (by omega) _ _ rfl⟩).symm⟩)
end
end Go.Proofs.Ytegaegipekonmaa
