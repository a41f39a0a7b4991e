/- corner: peaks, plain -/
import Derived.Test.YtfkciihgncfemaaCd
import Derived.Test.YtfkciihgncfemaaCe
namespace Go.Proofs.Ytfkciihgncfemaa
open Go Go.Fx

section
variable (px : List Int) (W H th : Int)
def PkD (x y dx dy : Int) : Prop := scF px W H (x + dx) (y + dy) < scF px W H x y ∧ scF px W H (x - dx) (y - dy) ≤ scF px W H x y
instance (x y dx dy : Int) : Decidable (PkD px W H x y dx dy) := by unfold PkD; exact inferInstance
def Pk (x y : Int) : Prop := th < scF px W H x y ∧ PkD px W H x y (-1) (-1) ∧ PkD px W H x y 0 (-1) ∧ PkD px W H x y 1 (-1) ∧ PkD px W H x y (-1) 0
instance (x y : Int) : Decidable (Pk px W H th x y) := by unfold Pk; exact inferInstance
def CK (x y : Int) : C3 := (64 * x + 32 + par (scF px W H (x - 1) y) (scF px W H x y) (scF px W H (x + 1) y), 64 * y + 32 + par (scF px W H x (y - 1)) (scF px W H x y) (scF px W H x (y + 1)), scF px W H x y)
def rowL (y : Int) : Nat → List C3
  | 0 => []
  | n + 1 => rowL y n ++ (if Pk px W H th n y then [CK px W H n y] else [])
def allL : Nat → List C3
  | 0 => []
  | m + 1 => allL m ++ rowL px W H th m W.toNat

theorem rowL_succ (y : Int) (n : Nat) : rowL px W H th y (n + 1) = rowL px W H th y n ++ (if Pk px W H th n y then [CK px W H n y] else []) := rfl
theorem Pk_in {x y : Int} (hth : 0 ≤ th) (h : Pk px W H th x y) : 2 ≤ x ∧ 2 ≤ y ∧ x < W - 2 ∧ y < H - 2 := by
  have h1 := h.1
  unfold scF at h1
  split at h1 <;> omega
theorem rowL_low (hth : 0 ≤ th) (y : Int) : ∀ n : Nat, n ≤ 2 → rowL px W H th y n = []
  | 0, _ => rfl
  | n + 1, h => by
    rw [rowL, rowL_low hth y n (by omega), if_neg (fun hp => by have := Pk_in px W H th hth hp; omega)]
    rfl
theorem rowL_out (hth : 0 ≤ th) {y : Int} (hy : y < 2 ∨ H - 2 ≤ y) : ∀ n : Nat, rowL px W H th y n = []
  | 0 => rfl
  | n + 1 => by
    rw [rowL, rowL_out hth hy n, if_neg (fun hp => by have := Pk_in px W H th hth hp; omega)]
    rfl
theorem rowL_high (hth : 0 ≤ th) (y : Int) (m : Nat) (hm : W - 2 ≤ m) : ∀ d : Nat, rowL px W H th y (m + d) = rowL px W H th y m
  | 0 => rfl
  | d + 1 => by
    rw [show m + (d + 1) = (m + d) + 1 by omega, rowL, rowL_high hth y m hm d, if_neg (fun hp => by have := Pk_in px W H th hth hp; omega)]
    simp
theorem allL_low (hth : 0 ≤ th) : ∀ m : Nat, m ≤ 2 → allL px W H th m = []
  | 0, _ => rfl
  | m + 1, h => by
    rw [allL, allL_low hth m (by omega), rowL_out px W H th hth (by omega)]
    rfl
theorem allL_high (hth : 0 ≤ th) (m : Nat) (hm : H - 2 ≤ m) : ∀ d : Nat, allL px W H th (m + d) = allL px W H th m
  | 0 => rfl
  | d + 1 => by
    rw [show m + (d + 1) = (m + d) + 1 by omega, allL, allL_high hth m hm d, rowL_out px W H th hth (by omega)]
    simp
/- two neighbours are not both peaks -/
theorem Pk_h {x y : Int} (h1 : Pk px W H th x y) (h2 : Pk px W H th (x + 1) y) : False := by
  have a := h1.2.2.2.2.2
  have b := h2.2.2.2.2.1
  rw [show x - -1 = x + 1 by omega, show y - 0 = y by omega] at a
  rw [show x + 1 + -1 = x by omega, show y + 0 = y by omega] at b
  omega
theorem Pk_v {x y : Int} (h1 : Pk px W H th x y) (h2 : Pk px W H th x (y + 1)) : False := by
  have a := h1.2.2.1.2
  have b := h2.2.2.1.1
  rw [show x - 0 = x by omega, show y - -1 = y + 1 by omega] at a
  rw [show x + 0 = x by omega, show y + 1 + -1 = y by omega] at b
  omega
theorem Pk_d {x y : Int} (h1 : Pk px W H th x y) (h2 : Pk px W H th (x + 1) (y + 1)) : False := by
  have a := h1.2.1.2
  have b := h2.2.1.1
  rw [show x - -1 = x + 1 by omega, show y - -1 = y + 1 by omega] at a
  rw [show x + 1 + -1 = x by omega, show y + 1 + -1 = y by omega] at b
  omega
theorem Pk_a {x y : Int} (h1 : Pk px W H th (x + 1) y) (h2 : Pk px W H th x (y + 1)) : False := by
  have a := h1.2.2.2.1.2
  have b := h2.2.2.2.1.1
  rw [show x + 1 - 1 = x by omega, show y - -1 = y + 1 by omega] at a
  rw [show y + 1 + -1 = y by omega] at b
  omega
theorem one_len {p : Prop} [Decidable p] (c : C3) : (if p then [c] else []).length = if p then 1 else 0 := by split <;> rfl
/-- two rows hold few -/
theorem rows2 (hth : 0 ≤ th) (y : Int) : ∀ n : Nat, (rowL px W H th y (2 + n)).length + (rowL px W H th (y + 1) (2 + n)).length ≤ (n + 1) / 2
  | 0 => by rw [rowL_low px W H th hth _ _ (by omega), rowL_low px W H th hth _ _ (by omega)]; simp
  | 1 => by
    rw [rowL_succ px W H th y 2, rowL_succ px W H th (y + 1) 2, rowL_low px W H th hth _ _ (by omega), rowL_low px W H th hth _ _ (by omega)]
    simp only [List.nil_append, one_len]
    split
    · split
      · rename_i h1 h2
        exact (Pk_v px W H th h1 h2).elim
      · omega
    · split <;> omega
  | n + 2 => by
    have ih := rows2 hth y n
    rw [show 2 + (n + 2) = 2 + n + 1 + 1 by omega, rowL_succ px W H th y (2 + n + 1), rowL_succ px W H th y (2 + n), rowL_succ px W H th (y + 1) (2 + n + 1), rowL_succ px W H th (y + 1) (2 + n)]
    simp only [List.length_append, one_len]
    have e : ((2 + n + 1 : Nat) : Int) = ((2 + n : Nat) : Int) + 1 := by omega
    rw [e]
    by_cases a : Pk px W H th ((2 + n : Nat) : Int) y
    · rw [if_pos a, if_neg (fun h => Pk_h px W H th a h), if_neg (fun h => Pk_v px W H th a h), if_neg (fun h => Pk_d px W H th a h)]
      omega
    · rw [if_neg a]
      by_cases b : Pk px W H th (((2 + n : Nat) : Int) + 1) y
      · rw [if_pos b, if_neg (fun h => Pk_a px W H th b h), if_neg (fun h => Pk_v px W H th b h)]
        omega
      · rw [if_neg b]
        by_cases c : Pk px W H th ((2 + n : Nat) : Int) (y + 1)
        · rw [if_pos c, if_neg (fun h => Pk_h px W H th c h)]
          omega
        · rw [if_neg c]
          split <;> omega
theorem row1 (hth : 0 ≤ th) (y : Int) (n : Nat) : (rowL px W H th y (2 + n)).length ≤ (n + 1) / 2 := by
  have := rows2 px W H th hth y n
  omega
theorem allL_len (hth : 0 ≤ th) (n : Nat) (hn : W - 2 ≤ 2 + n) : ∀ m : Nat, (allL px W H th (2 + m)).length ≤ ((m + 1) / 2) * ((n + 1) / 2)
  | 0 => by rw [allL_low px W H th hth _ (by omega)]; simp
  | 1 => by
    rw [show 2 + 1 = 2 + 0 + 1 from rfl, allL, allL_low px W H th hth _ (by omega)]
    have h := row1 px W H th hth ((2 + 0 : Nat) : Int) n
    by_cases hw : W.toNat ≤ 2 + n
    · have e := rowL_high px W H th hth ((2 + 0 : Nat) : Int) W.toNat (by omega) (2 + n - W.toNat)
      rw [show W.toNat + (2 + n - W.toNat) = 2 + n by omega] at e
      rw [← e]; simpa using h
    · have e := rowL_high px W H th hth ((2 + 0 : Nat) : Int) (2 + n) (by omega) (W.toNat - (2 + n))
      rw [show 2 + n + (W.toNat - (2 + n)) = W.toNat by omega] at e
      rw [e]; simpa using h
  | m + 2 => by
    have ih := allL_len hth n hn m
    have h := rows2 px W H th hth ((2 + m : Nat) : Int) n
    have e : ∀ y : Int, rowL px W H th y W.toNat = rowL px W H th y (2 + n) := fun y => by
      by_cases hw : W.toNat ≤ 2 + n
      · have e := rowL_high px W H th hth y W.toNat (by omega) (2 + n - W.toNat)
        rw [show W.toNat + (2 + n - W.toNat) = 2 + n by omega] at e
        exact e.symm
      · have e := rowL_high px W H th hth y (2 + n) (by omega) (W.toNat - (2 + n))
        rw [show 2 + n + (W.toNat - (2 + n)) = W.toNat by omega] at e
        exact e
    rw [show 2 + (m + 2) = 2 + m + 1 + 1 by omega, allL, allL]
    simp only [List.length_append, e]
    rw [show ((2 + m + 1 : Nat) : Int) = ((2 + m : Nat) : Int) + 1 by omega]
    have : ((m + 2 + 1) / 2) * ((n + 1) / 2) = ((m + 1) / 2) * ((n + 1) / 2) + (n + 1) / 2 := by
      rw [show (m + 2 + 1) / 2 = (m + 1) / 2 + 1 by omega, Nat.add_mul]; omega
    omega
theorem box_bd {a b w h : Nat} (ha : 2 * a ≤ w - 3) (hb : 2 * b ≤ h - 3) (hwh : w * h ≤ 200) : a * b < 40 := by
  by_cases h0 : a = 0 ∨ b = 0
  · rcases h0 with rfl | rfl <;> simp
  · have h1 : 2 * a + 3 ≤ w := by omega
    have h2 : 2 * b + 3 ≤ h := by omega
    have h3 : (2 * a + 3) * (2 * b + 3) ≤ 200 := Nat.le_trans (Nat.mul_le_mul h1 h2) hwh
    have h4 : (2 * a + 3) * (2 * b + 3) = 4 * (a * b) + 6 * a + 6 * b + 9 := by
      simp only [Nat.add_mul, Nat.mul_add]
      have : 2 * a * (2 * b) = 4 * (a * b) := by rw [Nat.mul_mul_mul_comm]
      omega
    by_cases hs : a + b ≤ 12
    · have : ∀ a ≤ 12, ∀ b ≤ 12, a + b ≤ 12 → a * b ≤ 36 := by decide
      have := this a (by omega) b (by omega) hs
      omega
    · omega
theorem allL_few (hth : 0 ≤ th) (hW : 1 ≤ W) (hH : 1 ≤ H) (hWH : W * H ≤ 200) (m : Nat) : (allL px W H th m).length < 40 := by
  by_cases hm : (m : Int) ≤ H - 2
  · by_cases h2 : m ≤ 2
    · rw [allL_low px W H th hth m h2]; simp
    · have := allL_len px W H th hth (W - 4).toNat (by omega) (m - 2)
      rw [show 2 + (m - 2) = m by omega] at this
      have hb := box_bd (a := (m - 2 + 1) / 2) (b := ((W - 4).toNat + 1) / 2) (w := H.toNat) (h := W.toNat) (by omega) (by omega) (by
        have : ((H.toNat * W.toNat : Nat) : Int) = W * H := by rw [Int.natCast_mul, Int.mul_comm]; congr 1 <;> omega
        omega)
      omega
  · have hk : ∃ q : Nat, q ≤ m ∧ H - 2 ≤ q ∧ (q : Int) ≤ max (H - 2) 0 := ⟨(H - 2).toNat, by omega, by omega, by omega⟩
    obtain ⟨q, hq, h1, h2⟩ := hk
    have e := allL_high px W H th hth q h1 (m - q)
    rw [show q + (m - q) = m by omega] at e
    rw [e]
    by_cases h2 : q ≤ 2
    · rw [allL_low px W H th hth q h2]; simp
    · have := allL_len px W H th hth (W - 4).toNat (by omega) (q - 2)
      rw [show 2 + (q - 2) = q by omega] at this
      have hb := box_bd (a := (q - 2 + 1) / 2) (b := ((W - 4).toNat + 1) / 2) (w := H.toNat) (h := W.toNat) (by omega) (by omega) (by
        have : ((H.toNat * W.toNat : Nat) : Int) = W * H := by rw [Int.natCast_mul, Int.mul_comm]; congr 1 <;> omega
        omega)
      omega
end
end Go.Proofs.Ytfkciihgncfemaa
