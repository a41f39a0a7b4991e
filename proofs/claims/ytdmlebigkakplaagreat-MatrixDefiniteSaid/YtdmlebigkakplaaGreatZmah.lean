/- Numbers in groups of nine decimal digits: plain. Numbers in groups: products, quotients, plain. Numbers in groups: long division, plain. -/
import Derived.Test.YtdmlebigkakplaaGreatZmag
set_option linter.unusedSimpArgs false
set_option linter.unusedVariables false
namespace Go.Proofs.YtdmlebigkakplaaGreat
open Go Go.Fx

abbrev BB : Int := 1000000000
/-- what groups stand for, the least group first -/
def val : List Int → Int
  | [] => 0
  | g :: r => g + 1000000000 * val r
def Dig (l : List Int) : Prop := ∀ x ∈ l, 0 ≤ x ∧ x < 1000000000
theorem Dig.cons {x : Int} {l : List Int} : Dig (x :: l) ↔ (0 ≤ x ∧ x < 1000000000) ∧ Dig l := by simp [Dig]
theorem Dig.nil : Dig [] := by simp [Dig]
theorem Dig.app {a b : List Int} : Dig (a ++ b) ↔ Dig a ∧ Dig b := by
  simp only [Dig, List.mem_append]
  exact ⟨fun h => ⟨fun x hx => h x (.inl hx), fun x hx => h x (.inr hx)⟩, fun h x hx => hx.elim (h.1 x) (h.2 x)⟩
theorem val_append (a b : List Int) : val (a ++ b) = val a + 1000000000 ^ a.length * val b := by
  induction a with
  | nil => simp [val]
  | cons x r ih => simp only [List.cons_append, val, ih, List.length_cons, Int.pow_succ]; grind
theorem val_nonneg {l : List Int} (h : Dig l) : 0 ≤ val l := by
  induction l with
  | nil => simp [val]
  | cons x r ih => rw [Dig.cons] at h; have := ih h.2; simp only [val]; omega
theorem val_lt {l : List Int} (h : Dig l) : val l < 1000000000 ^ l.length := by
  induction l with
  | nil => simp [val]
  | cons x r ih =>
    rw [Dig.cons] at h
    have := ih h.2
    simp only [val, List.length_cons, Int.pow_succ]
    omega
theorem pow_pos9 (n : Nat) : (0 : Int) < 1000000000 ^ n := Int.pow_pos (by decide)
theorem pow_mono9 {m n : Nat} (h : m ≤ n) : (1000000000 : Int) ^ m ≤ 1000000000 ^ n := by
  obtain ⟨k, rfl⟩ := Nat.le.dest h
  rw [Int.pow_add]
  have h1 := pow_pos9 m
  have h2 := pow_pos9 k
  have : (1000000000 : Int) ^ m * 1 ≤ 1000000000 ^ m * 1000000000 ^ k := Int.mul_le_mul_of_nonneg_left (by omega) (by omega)
  omega
/-- equally many groups, one number: the groups are the same -/
theorem val_inj : ∀ {a b : List Int}, Dig a → Dig b → a.length = b.length → val a = val b → a = b
  | [], [], _, _, _, _ => rfl
  | [], _ :: _, _, _, h, _ => by simp at h
  | _ :: _, [], _, _, h, _ => by simp at h
  | x :: r, y :: s, ha, hb, hl, h => by
    rw [Dig.cons] at ha hb
    simp only [val] at h
    have hxy : x = y := by omega
    have := val_inj ha.2 hb.2 (by simpa using hl) (by omega)
    rw [hxy, this]
/-- the last group is not 0 -/
def Top (l : List Int) : Prop := l.getLastD 1 ≠ 0
instance (l : List Int) : Decidable (Top l) := by unfold Top; exact inferInstance
def Can (l : List Int) : Prop := Dig l ∧ Top l
theorem Top.cons {x y : Int} {r : List Int} : Top (x :: y :: r) ↔ Top (y :: r) := by simp [Top]
theorem Top.snoc {l : List Int} {x : Int} : Top (l ++ [x]) ↔ x ≠ 0 := by simp [Top]
theorem val_ge {l : List Int} (h : Can l) (hl : 0 < l.length) : 1000000000 ^ (l.length - 1) ≤ val l := by
  rcases List.eq_nil_or_concat l with rfl | ⟨r, x, e⟩
  · simp at hl
  · rw [List.concat_eq_append] at e
    subst e
    obtain ⟨hd, ht⟩ := h
    rw [Dig.app] at hd
    rw [Top.snoc] at ht
    have h1 := val_nonneg hd.1
    have h2 := hd.2 x (by simp)
    simp only [val_append, val, List.length_append, List.length_singleton, Nat.add_sub_cancel]
    have h3 := pow_pos9 r.length
    have : 1000000000 ^ r.length * 1 ≤ 1000000000 ^ r.length * (x + 1000000000 * 0) := Int.mul_le_mul_of_nonneg_left (by omega) (by omega)
    omega
theorem Can.len_le {a b : List Int} (ha : Can a) (hb : Dig b) (h : val a ≤ val b) : a.length ≤ b.length := by
  by_cases h0 : a.length = 0
  · omega
  · have h1 := val_ge ha (by omega)
    have h2 := val_lt hb
    by_cases hlt : b.length ≤ a.length - 1
    · have := pow_mono9 hlt
      omega
    · omega
theorem Can.inj {a b : List Int} (ha : Can a) (hb : Can b) (h : val a = val b) : a = b :=
  val_inj ha.1 hb.1 (Nat.le_antisymm (ha.len_le hb.1 (by omega)) (hb.len_le ha.1 (by omega))) h

/-- the groups of a number -/
def gr : Nat → List Int
  | 0 => []
  | n + 1 => (((n + 1) % 1000000000 : Nat) : Int) :: gr ((n + 1) / 1000000000)
termination_by n => n
decreasing_by omega
theorem gr_zero : gr 0 = [] := by unfold gr; rfl
theorem gr_pos {n : Nat} (h : n ≠ 0) : gr n = ((n % 1000000000 : Nat) : Int) :: gr (n / 1000000000) := by
  cases n with
  | zero => exact absurd rfl h
  | succ n => rw [gr]
theorem gr_dig : ∀ n, Dig (gr n) := by
  intro n
  induction n using Nat.strongRecOn with
  | _ n ih =>
    by_cases h : n = 0
    · subst h; rw [gr_zero]; exact Dig.nil
    · rw [gr_pos h, Dig.cons]
      exact ⟨by omega, ih _ (by omega)⟩
theorem gr_val : ∀ n : Nat, val (gr n) = n := by
  intro n
  induction n using Nat.strongRecOn with
  | _ n ih =>
    by_cases h : n = 0
    · subst h; rw [gr_zero]; rfl
    · rw [gr_pos h]
      simp only [val]
      rw [ih _ (by omega)]
      omega
theorem gr_nil {n : Nat} : gr n = [] ↔ n = 0 := by
  constructor
  · intro h
    have := gr_val n
    rw [h] at this
    simp [val] at this
    omega
  · rintro rfl; exact gr_zero
theorem gr_top : ∀ n, Top (gr n) := by
  intro n
  induction n using Nat.strongRecOn with
  | _ n ih =>
    by_cases h : n = 0
    · subst h; rw [gr_zero]; decide
    · rw [gr_pos h]
      by_cases h2 : n / 1000000000 = 0
      · rw [h2, gr_zero]
        simp only [Top, List.getLastD_cons, List.getLastD_nil]
        omega
      · rw [gr_pos h2, Top.cons, ← gr_pos h2]
        exact ih _ (by omega)
theorem gr_can (n : Nat) : Can (gr n) := ⟨gr_dig n, gr_top n⟩
theorem gr_of {l : List Int} (h : Can l) : l = gr (val l).toNat := by
  refine h.inj (gr_can _) ?_
  rw [gr_val]
  have := val_nonneg h.1
  omega
theorem gr_of' {l : List Int} {n : Nat} (h : Can l) (e : val l = n) : l = gr n := by
  rw [gr_of h, e, Int.toNat_natCast]
theorem gr_len_le {n k : Nat} (h : n < 1000000000 ^ k) : (gr n).length ≤ k := by
  by_cases h0 : (gr n).length = 0
  · omega
  · have h1 := val_ge (gr_can n) (by omega)
    rw [gr_val] at h1
    by_cases hlt : k ≤ (gr n).length - 1
    · have h2 := pow_mono9 hlt
      have h3 : (n : Int) < ((1000000000 ^ k : Nat) : Int) := Int.ofNat_lt.2 h
      rw [Int.natCast_pow, show ((1000000000 : Nat) : Int) = 1000000000 from rfl] at h3
      omega
    · omega
theorem gr_len_mono {m n : Nat} (h : m ≤ n) : (gr m).length ≤ (gr n).length := (gr_can m).len_le (gr_dig n) (by rw [gr_val, gr_val]; omega)
/-- zeros at the end cut off -/
def trimL : List Int → List Int
  | [] => []
  | x :: r => if trimL r = [] ∧ x = 0 then [] else x :: trimL r
theorem trim_val : ∀ l, val (trimL l) = val l
  | [] => rfl
  | x :: r => by
    have := trim_val r
    unfold trimL
    split
    · rename_i h
      rw [h.1] at this
      simp only [val] at this ⊢
      omega
    · simp only [val, this]
theorem trim_dig : ∀ {l}, Dig l → Dig (trimL l)
  | [], _ => Dig.nil
  | x :: r, h => by
    rw [Dig.cons] at h
    unfold trimL
    split
    · exact Dig.nil
    · rw [Dig.cons]; exact ⟨h.1, trim_dig h.2⟩
theorem trim_top : ∀ l, Top (trimL l)
  | [] => by decide
  | x :: r => by
    have ih := trim_top r
    unfold trimL
    split
    · decide
    · rename_i h
      cases ht : trimL r with
      | nil =>
        rw [ht] at h
        simp only [Top, List.getLastD_cons, List.getLastD_nil]
        exact fun hx => h ⟨rfl, hx⟩
      | cons y s => rw [Top.cons, ← ht]; exact ih
theorem trim_gr {l : List Int} (h : Dig l) : trimL l = gr (val l).toNat := by
  have := gr_of (l := trimL l) ⟨trim_dig h, trim_top l⟩
  rwa [trim_val] at this
theorem trim_gr' {l : List Int} {n : Nat} (h : Dig l) (e : val l = n) : trimL l = gr n := by
  rw [trim_gr h, e, Int.toNat_natCast]
theorem trim_snoc0 : ∀ l, trimL (l ++ [0]) = trimL l
  | [] => by decide
  | x :: r => by
    have := trim_snoc0 r
    simp only [List.cons_append, trimL, this]
theorem trim_fix {l : List Int} (h : Top l) : trimL l = l := by
  induction l with
  | nil => rfl
  | cons x r ih =>
    unfold trimL
    cases r with
    | nil =>
      simp only [Top, List.getLastD_cons, List.getLastD_nil] at h
      rw [if_neg (fun hh => h hh.2)]
      rfl
    | cons y s =>
      rw [Top.cons] at h
      rw [ih h, if_neg (by simp)]
theorem trim_take : ∀ l, ∃ k, k ≤ l.length ∧ trimL l = l.take k ∧ (∀ i, k ≤ i → l.getD i 0 = 0)
  | [] => ⟨0, by simp, rfl, by simp⟩
  | x :: r => by
    obtain ⟨k, hk, he, hz⟩ := trim_take r
    unfold trimL
    split
    · rename_i h
      refine ⟨0, by simp, rfl, fun i _ => ?_⟩
      cases i with
      | zero => simpa using h.2
      | succ i =>
        have hr : r.take k = [] := by rw [← he]; exact h.1
        have : k = 0 ∨ r = [] := by simpa [List.take_eq_nil_iff] using hr
        rcases this with rfl | rfl
        · simpa using hz i (by omega)
        · simp
    · refine ⟨k + 1, by simp; omega, by rw [he]; rfl, fun i hi => ?_⟩
      cases i with
      | zero => omega
      | succ i => simpa using hz i (by omega)
/- places: read, written -/
theorem val_take_succ (l : List Int) (i : Nat) : val (l.take (i + 1)) = val (l.take i) + 1000000000 ^ i * l.getD i 0 := by
  induction l generalizing i with
  | nil => simp [val]
  | cons x r ih =>
    cases i with
    | zero => simp [val]
    | succ i =>
      have := ih i
      simp only [List.take_succ_cons, val, this, List.getD_cons_succ, Int.pow_succ]
      grind
theorem val_drop (l : List Int) (i : Nat) (h : i < l.length) : val (l.drop i) = l.getD i 0 + 1000000000 * val (l.drop (i + 1)) := by
  rw [List.drop_eq_getElem_cons h]
  simp [val, List.getD, h]
theorem val_split (l : List Int) (i : Nat) (h : i ≤ l.length) : val l = val (l.take i) + 1000000000 ^ i * val (l.drop i) := by
  have e := val_append (l.take i) (l.drop i)
  rw [List.take_append_drop, List.length_take, Nat.min_eq_left h] at e
  exact e
theorem val_take_all {l : List Int} {i : Nat} (h : l.length ≤ i) : val (l.take i) = val l := by rw [List.take_of_length_le h]
theorem val_set (l : List Int) (i : Nat) (x : Int) (h : i < l.length) : val (l.set i x) = val l + 1000000000 ^ i * (x - l.getD i 0) := by
  induction l generalizing i with
  | nil => simp at h
  | cons y r ih =>
    cases i with
    | zero => simp [val]; omega
    | succ i =>
      have := ih i (by simpa using h)
      simp only [List.set_cons_succ, val, this, List.getD_cons_succ, Int.pow_succ]
      grind
theorem take_set_succ (l : List Int) (i : Nat) (x : Int) (h : i < l.length) : (l.set i x).take (i + 1) = l.take i ++ [x] := by
  apply List.ext_getElem?
  intro j
  by_cases h1 : j < i
  · rw [List.getElem?_take, if_pos (by omega), List.getElem?_set_ne (by omega), List.getElem?_append_left (by simp; omega), List.getElem?_take, if_pos h1]
  · by_cases h2 : j = i
    · subst h2
      rw [List.getElem?_take, if_pos (by omega), List.getElem?_set_self h, List.getElem?_append_right (by simp; omega)]
      simp [Nat.min_eq_left (Nat.le_of_lt h)]
    · rw [List.getElem?_take, if_neg (by omega), List.getElem?_append_right (by simp; omega)]
      simp only [List.length_take]
      rw [List.getElem?_eq_none (by simp; omega)]
theorem drop_set (l : List Int) (i : Nat) (x : Int) (h : i < l.length) : (l.set i x).drop i = x :: l.drop (i + 1) := by
  apply List.ext_getElem?
  intro j
  cases j with
  | zero => simp [h]
  | succ j =>
    rw [List.getElem?_drop, List.getElem?_set_ne (by omega), List.getElem?_cons_succ, List.getElem?_drop]
    congr 1
    omega
theorem Dig.getD {l : List Int} (h : Dig l) (i : Nat) : 0 ≤ l.getD i 0 ∧ l.getD i 0 < 1000000000 := by
  by_cases hi : i < l.length
  · have : l.getD i 0 = l[i] := by simp [List.getD, hi]
    rw [this]
    exact h _ (List.getElem_mem hi)
  · have : l.getD i 0 = 0 := by simp [List.getD, Nat.le_of_not_lt hi]
    rw [this]
    decide
theorem Dig.take {l : List Int} (h : Dig l) (i : Nat) : Dig (l.take i) := fun x hx => h x (List.mem_of_mem_take hx)
theorem Dig.drop {l : List Int} (h : Dig l) (i : Nat) : Dig (l.drop i) := fun x hx => h x (List.mem_of_mem_drop hx)
theorem Dig.set {l : List Int} (h : Dig l) (i : Nat) {x : Int} (hx : 0 ≤ x ∧ x < 1000000000) : Dig (l.set i x) := fun y hy => by
  rcases List.mem_or_eq_of_mem_set hy with hy | rfl
  · exact h y hy
  · exact hx
theorem Dig.snoc {l : List Int} (h : Dig l) {x : Int} (hx : 0 ≤ x ∧ x < 1000000000) : Dig (l ++ [x]) := Dig.app.2 ⟨h, by rw [Dig.cons]; exact ⟨hx, Dig.nil⟩⟩
theorem Dig.zeros (n : Nat) : Dig (List.replicate n 0) := fun x hx => by
  rw [List.eq_of_mem_replicate hx]; decide
theorem val_zeros (n : Nat) : val (List.replicate n 0) = 0 := by
  induction n with
  | zero => rfl
  | succ n ih => simp only [List.replicate_succ, val, ih]; rfl
theorem val_take_le {l : List Int} (h : Dig l) (i : Nat) : val (l.take i) < 1000000000 ^ i := by
  have h1 := val_lt (h.take i)
  have h2 := pow_mono9 (show (l.take i).length ≤ i by simp; omega)
  omega
/-- carries -/
theorem add_step {a b o : List Int} {i : Nat} {c s : Int} (hv : val (o.take i) + 1000000000 ^ i * c = val (a.take i) + val (b.take i)) (hi : i < o.length) {s' c' : Int} (hs : s = a.getD i 0 + b.getD i 0 + c) (he : s' + 1000000000 * c' = s) :
    val ((o.set i s').take (i + 1)) + 1000000000 ^ (i + 1) * c' = val (a.take (i + 1)) + val (b.take (i + 1)) := by
  rw [take_set_succ o i s' hi, val_append, val_take_succ, val_take_succ]
  simp only [List.length_take, Nat.min_eq_left (Nat.le_of_lt hi), val, Int.pow_succ]
  grind
theorem sub_step {a b o : List Int} {i : Nat} {c : Int} (hv : val (o.take i) - 1000000000 ^ i * c = val (a.take i) - val (b.take i)) (hi : i < o.length) {s' c' : Int} (he : s' - 1000000000 * c' = a.getD i 0 - b.getD i 0 - c) :
    val ((o.set i s').take (i + 1)) - 1000000000 ^ (i + 1) * c' = val (a.take (i + 1)) - val (b.take (i + 1)) := by
  rw [take_set_succ o i s' hi, val_append, val_take_succ, val_take_succ]
  simp only [List.length_take, Nat.min_eq_left (Nat.le_of_lt hi), val, Int.pow_succ]
  grind
end Go.Proofs.YtdmlebigkakplaaGreat
namespace Go.Proofs.YtdmlebigkakplaaGreat
open Go Go.Fx

/-- one product of two groups, with the carry -/
theorem mul_small {p q o c : Int} (hp : 0 ≤ p ∧ p < 1000000000) (hq : 0 ≤ q ∧ q < 1000000000) (ho : 0 ≤ o ∧ o < 1000000000) (hc : 0 ≤ c ∧ c < 1000000000) :
    (0 ≤ p * q ∧ p * q ≤ 999999998000000001) ∧ (0 ≤ o + p * q + c ∧ o + p * q + c ≤ 999999999999999999) ∧ (0 ≤ (o + p * q + c) / 1000000000 ∧ (o + p * q + c) / 1000000000 < 1000000000) := by
  have h0 : 0 ≤ p * q := Int.mul_nonneg hp.1 hq.1
  have h1 : p * q ≤ 999999999 * 999999999 := Int.mul_le_mul (by omega) (by omega) hq.1 (by omega)
  refine ⟨by omega, by omega, by omega⟩
/-- the inner loop: groups i.. of o take in p times the groups of b -/
theorem mul_in {o b : List Int} {i j : Nat} {p c S : Int} (hv : val o + 1000000000 ^ (i + j) * c = S + 1000000000 ^ i * (p * val (b.take j))) (hij : i + j < o.length) :
    val (o.set (i + j) ((o.getD (i + j) 0 + p * b.getD j 0 + c) % 1000000000)) + 1000000000 ^ (i + (j + 1)) * ((o.getD (i + j) 0 + p * b.getD j 0 + c) / 1000000000) = S + 1000000000 ^ i * (p * val (b.take (j + 1))) := by
  rw [val_set o _ _ hij, val_take_succ]
  have e : (o.getD (i + j) 0 + p * b.getD j 0 + c) = (o.getD (i + j) 0 + p * b.getD j 0 + c) % 1000000000 + 1000000000 * ((o.getD (i + j) 0 + p * b.getD j 0 + c) / 1000000000) := by omega
  generalize (o.getD (i + j) 0 + p * b.getD j 0 + c) % 1000000000 = s at *
  generalize (o.getD (i + j) 0 + p * b.getD j 0 + c) / 1000000000 = t at *
  have e1 : (1000000000 : Int) ^ (i + (j + 1)) = 1000000000 ^ (i + j) * 1000000000 := by rw [← Nat.add_assoc, Int.pow_succ]
  have e2 : (1000000000 : Int) ^ (i + j) = 1000000000 ^ i * 1000000000 ^ j := Int.pow_add _ _ _
  rw [e1, e2]
  rw [e2] at hv
  clear e1 e2
  generalize (1000000000 : Int) ^ i = A at *
  generalize (1000000000 : Int) ^ j = D at *
  generalize o.getD (i + j) 0 = u at *
  generalize b.getD j 0 = v at *
  generalize val o = x at *
  generalize val (b.take j) = y at *
  clear hij
  grind
/-- the carry behind the inner loop -/
theorem mul_out {o b : List Int} {i : Nat} {p c S : Int} (hv : val o + 1000000000 ^ (i + b.length) * c = S + 1000000000 ^ i * (p * val (b.take b.length))) (hij : i + b.length < o.length) (hz : o.getD (i + b.length) 0 = 0) :
    val (o.set (i + b.length) c) = S + 1000000000 ^ i * (p * val b) := by
  rw [val_set o _ _ hij, hz, Int.sub_zero, hv, List.take_length]
/-- division by one group -/
theorem div_small {r g d : Int} (hd : 0 < d) (hd2 : d ≤ 1000000000) (hr : 0 ≤ r ∧ r < d) (hg : 0 ≤ g ∧ g < 1000000000) :
    (0 ≤ r * 1000000000 ∧ r * 1000000000 + g ≤ 999999999999999999) ∧ (0 ≤ (r * 1000000000 + g) / d ∧ (r * 1000000000 + g) / d < 1000000000) ∧ (0 ≤ (r * 1000000000 + g) % d ∧ (r * 1000000000 + g) % d < d) := by
  have h1 : (r * 1000000000 + g) / d < 1000000000 := by
    rw [Int.ediv_lt_iff_lt_mul hd]
    have : (r + 1) * 1000000000 ≤ d * 1000000000 := Int.mul_le_mul_of_nonneg_right (by omega) (by omega)
    have e : (1000000000 : Int) * d = d * 1000000000 := Int.mul_comm _ _
    omega
  have h2 : 0 ≤ (r * 1000000000 + g) / d := Int.ediv_nonneg (by omega) (by omega)
  have h3 := Int.emod_nonneg (r * 1000000000 + g) (show d ≠ 0 by omega)
  have h4 := Int.emod_lt_of_pos (r * 1000000000 + g) hd
  exact ⟨by omega, by omega, by omega⟩
theorem div_step {a q : List Int} {i : Nat} {d r : Int} (hia : i < a.length) (hiq : i < q.length) (hv : val (a.drop (i + 1)) = d * val (q.drop (i + 1)) + r) :
    val (a.drop i) = d * val ((q.set i ((r * 1000000000 + a.getD i 0) / d)).drop i) + (r * 1000000000 + a.getD i 0) % d := by
  rw [val_drop a i hia, drop_set q i _ hiq, hv]
  have e := Int.mul_ediv_add_emod (r * 1000000000 + a.getD i 0) d
  simp only [val]
  generalize (r * 1000000000 + a.getD i 0) / d = s at *
  generalize (r * 1000000000 + a.getD i 0) % d = t at *
  grind
/- comparing -/
theorem cmp_len {a b : List Int} (ha : Can a) (hb : Can b) (h : a.length < b.length) : val a < val b := by
  by_cases c : val b ≤ val a
  · have := hb.len_le ha.1 c; omega
  · omega
/-- equally many groups: the groups behind i are the same -/
theorem cmp_at {a b : List Int} {i : Nat} (ha : Dig a) (hb : Dig b) (hl : a.length = b.length) (hi : i < a.length) (hs : a.drop (i + 1) = b.drop (i + 1)) (hlt : a.getD i 0 < b.getD i 0) : val a < val b := by
  have e1 := val_split a i (by omega)
  have e2 := val_split b i (by omega)
  rw [val_drop a i hi] at e1
  rw [val_drop b i (by omega), ← hs] at e2
  have h1 := val_take_le ha i
  have h2 := val_nonneg (hb.take i)
  have h3 : 1000000000 ^ i * (a.getD i 0 + 1) ≤ 1000000000 ^ i * b.getD i 0 := Int.mul_le_mul_of_nonneg_left (by omega) (Int.le_of_lt (pow_pos9 i))
  generalize (1000000000 : Int) ^ i = A at *
  generalize val (a.drop (i + 1)) = D at *
  rw [Int.mul_add] at e1 e2 h3
  omega
theorem drop_ext {a b : List Int} {i : Nat} (hl : a.length = b.length) (hi : i < a.length) (he : a.getD i 0 = b.getD i 0) (hs : a.drop (i + 1) = b.drop (i + 1)) : a.drop i = b.drop i := by
  rw [List.drop_eq_getElem_cons hi, List.drop_eq_getElem_cons (show i < b.length by omega), hs]
  simp [List.getD, hi, show i < b.length by omega] at he
  rw [he]
end Go.Proofs.YtdmlebigkakplaaGreat
namespace Go.Proofs.YtdmlebigkakplaaGreat
open Go Go.Fx

theorem getD_drop0 (l : List Int) (i j : Nat) : (l.drop i).getD j 0 = l.getD (i + j) 0 := by
  simp [List.getD, List.getElem?_drop]
theorem mul_lt_cancel {a b c : Int} (hc : 0 < c) (h : a * c < b * c) : a < b := by
  by_cases hh : b ≤ a
  · have := Int.mul_le_mul_of_nonneg_right hh (Int.le_of_lt hc); omega
  · omega
/-- a number below B^k has no groups from k on -/
theorem val_small {l : List Int} {k : Nat} (hd : Dig l) (h : val l < 1000000000 ^ k) : ∀ i, k ≤ i → l.getD i 0 = 0 := by
  intro i hi
  by_cases hl : i < l.length
  · have e := val_split l i (by omega)
    have h1 := val_nonneg (hd.take i)
    have h2 := val_drop l i hl
    have h3 := val_nonneg (hd.drop (i + 1))
    have h4 := hd.getD i
    have h5 := pow_mono9 hi
    by_cases h0 : l.getD i 0 = 0
    · exact h0
    · have : 1000000000 ^ i * 1 ≤ 1000000000 ^ i * val (l.drop i) := Int.mul_le_mul_of_nonneg_left (by omega) (Int.le_of_lt (pow_pos9 i))
      omega
  · simp [List.getD, Nat.le_of_not_lt hl]
/-- the value by its first k groups and the group k, if the number is below B^(k+1) -/
theorem val_top1 {l : List Int} {k : Nat} (hd : Dig l) (h : val l < 1000000000 ^ (k + 1)) : val l = val (l.take k) + 1000000000 ^ k * l.getD k 0 := by
  have e := val_take_succ l k
  by_cases hl : k + 1 ≤ l.length
  · have e2 := val_split l (k + 1) hl
    have h3 := val_nonneg (hd.take (k + 1))
    have h5 := val_nonneg (hd.drop (k + 1))
    by_cases h0 : val (l.drop (k + 1)) = 0
    · rw [h0] at e2
      omega
    · have : 1000000000 ^ (k + 1) * 1 ≤ 1000000000 ^ (k + 1) * val (l.drop (k + 1)) := Int.mul_le_mul_of_nonneg_left (by omega) (Int.le_of_lt (pow_pos9 _))
      omega
  · rw [List.take_of_length_le (show l.length ≤ k + 1 by omega)] at e
    exact e

section
variable {T V t1 t0 t2 v1 v0 P g r : Int}
/-- what the first groups tell: T = (t2 B² + t1 B + t0) P + low, V = (v1 B + v0) P + low; P a power of the base -/
structure Knu (T V P t2 t1 t0 v1 v0 : Int) : Prop where
  hP : 1 ≤ P
  ht : (t2 * 1000000000 * 1000000000 + t1 * 1000000000 + t0) * P ≤ T ∧ T < (t2 * 1000000000 * 1000000000 + t1 * 1000000000 + t0 + 1) * P
  hv : (v1 * 1000000000 + v0) * P ≤ V ∧ V < (v1 * 1000000000 + v0 + 1) * P
  d2 : 0 ≤ t2 ∧ t2 < 1000000000
  d1 : 0 ≤ t1 ∧ t1 < 1000000000
  d0 : 0 ≤ t0 ∧ t0 < 1000000000
  e1 : 1 ≤ v1 ∧ v1 < 1000000000
  e0 : 0 ≤ v0 ∧ v0 < 1000000000
  lt : T < 1000000000 * V
  T0 : 0 ≤ T
theorem Knu.V0 (h : Knu T V P t2 t1 t0 v1 v0) : 1000000000 * P ≤ V := by
  have : 1000000000 * P ≤ (v1 * 1000000000 + v0) * P := Int.mul_le_mul_of_nonneg_right (by have := h.e1; have := h.e0; omega) (by have := h.hP; omega)
  have := h.hv
  omega
theorem Knu.Q (h : Knu T V P t2 t1 t0 v1 v0) : 0 ≤ T / V ∧ T / V < 1000000000 ∧ (T / V) * V ≤ T ∧ T < (T / V + 1) * V := by
  have hV := h.V0
  have hP := h.hP
  have hV0 : 0 < V := by omega
  have e := Int.mul_ediv_add_emod T V
  have h1 := Int.emod_nonneg T (show V ≠ 0 by omega)
  have h2 := Int.emod_lt_of_pos T hV0
  have h3 : T / V < 1000000000 := by
    rw [Int.ediv_lt_iff_lt_mul hV0]
    exact h.lt
  have e2 : V * (T / V) = T / V * V := Int.mul_comm _ _
  refine ⟨Int.ediv_nonneg h.T0 (by omega), h3, by omega, ?_⟩
  rw [Int.add_mul]
  omega
/-- the first two groups of T are at most v1 times B and the next -/
theorem Knu.T2 (h : Knu T V P t2 t1 t0 v1 v0) : t2 * 1000000000 + t1 < 1000000000 * (v1 + 1) := by
  have hP := h.hP
  have h1 := h.ht.1
  have h2 := h.hv.2
  have h3 := h.lt
  have e0 := h.e0
  have d0 := h.d0
  have d1 := h.d1
  have : (t2 * 1000000000 * 1000000000 + t1 * 1000000000 + t0) * P < (1000000000 * (v1 * 1000000000 + v0 + 1)) * P := by
    have e : (1000000000 * (v1 * 1000000000 + v0 + 1)) * P = 1000000000 * ((v1 * 1000000000 + v0 + 1) * P) := Int.mul_assoc _ _ _
    omega
  have := mul_lt_cancel (by omega) this
  omega
/-- the guess is not too small -/
def GeQ (T V g : Int) : Prop := T < (g + 1) * V
theorem Knu.start (h : Knu T V P t2 t1 t0 v1 v0) (hg : g * v1 + r = t2 * 1000000000 + t1) (hr : r < v1) : GeQ T V g := by
  have hP := h.hP
  have h1 := h.ht.2
  have h2 := h.hv.1
  have e0 := h.e0
  have e1 := h.e1
  have d0 := h.d0
  have d1 := h.d1
  have d2 := h.d2
  have hg0 : 0 ≤ g + 1 := by
    by_cases c : 0 ≤ g + 1
    · exact c
    · have : (g + 1) * v1 ≤ (-1) * v1 := Int.mul_le_mul_of_nonneg_right (by omega) (by omega)
      rw [Int.add_mul] at this
      omega
  have k1 : (g + 1) * ((v1 * 1000000000 + v0) * P) ≤ (g + 1) * V := Int.mul_le_mul_of_nonneg_left h2 hg0
  have k2 : (t2 * 1000000000 * 1000000000 + t1 * 1000000000 + t0 + 1) * P ≤ ((g + 1) * (v1 * 1000000000 + v0)) * P := by
    refine Int.mul_le_mul_of_nonneg_right ?_ (by omega)
    have k3 : 0 ≤ (g + 1) * v0 := Int.mul_nonneg hg0 e0.1
    have k4 : (g + 1) * (v1 * 1000000000 + v0) = (g * v1) * 1000000000 + v1 * 1000000000 + (g + 1) * v0 := by grind
    omega
  unfold GeQ
  have k5 : ((g + 1) * (v1 * 1000000000 + v0)) * P = (g + 1) * ((v1 * 1000000000 + v0) * P) := Int.mul_assoc _ _ _
  omega
/-- a guess that fails the test is too great -/
theorem Knu.less (h : Knu T V P t2 t1 t0 v1 v0) (hg : g * v1 + r = t2 * 1000000000 + t1) (hq : GeQ T V g) (hc : 1000000000 ≤ g ∨ r * 1000000000 + t0 < g * v0) : GeQ T V (g - 1) := by
  have hP := h.hP
  have e0 := h.e0
  unfold GeQ
  have e : g - 1 + 1 = g := by omega
  rw [e]
  rcases hc with hc | hc
  · have hV := h.V0
    have : 1000000000 * V ≤ g * V := Int.mul_le_mul_of_nonneg_right hc (by omega)
    have := h.lt
    omega
  · have hg0 : 0 ≤ g := by
      by_cases c : 0 ≤ g
      · exact c
      · exfalso
        have hV := h.V0
        have : (g + 1) * V ≤ 0 * V := Int.mul_le_mul_of_nonneg_right (by omega) (by omega)
        have := h.T0
        unfold GeQ at hq
        omega
    have k1 : g * ((v1 * 1000000000 + v0) * P) ≤ g * V := Int.mul_le_mul_of_nonneg_left h.hv.1 hg0
    have k2 : (t2 * 1000000000 * 1000000000 + t1 * 1000000000 + t0 + 1) * P ≤ (g * (v1 * 1000000000 + v0)) * P := by
      refine Int.mul_le_mul_of_nonneg_right ?_ (by omega)
      have k4 : g * (v1 * 1000000000 + v0) = (g * v1) * 1000000000 + g * v0 := by grind
      omega
    have k5 : (g * (v1 * 1000000000 + v0)) * P = g * ((v1 * 1000000000 + v0) * P) := Int.mul_assoc _ _ _
    have := h.ht.2
    omega
/-- the guess behind the loop is at most one too great -/
theorem Knu.done (h : Knu T V P t2 t1 t0 v1 v0) (hg : g * v1 + r = t2 * 1000000000 + t1) (hg0 : 0 ≤ g) (hgB : g < 1000000000) (hc : 1000000000 ≤ r ∨ g * v0 ≤ r * 1000000000 + t0) : g * V ≤ T + V := by
  have hP := h.hP
  have e0 := h.e0
  have d0 := h.d0
  have k1 : g * V ≤ g * ((v1 * 1000000000 + v0 + 1) * P) := Int.mul_le_mul_of_nonneg_left (by have := h.hv.2; omega) hg0
  have k5 : g * ((v1 * 1000000000 + v0 + 1) * P) = (g * (v1 * 1000000000 + v0) + g) * P := by grind
  have k4 : g * (v1 * 1000000000 + v0) = (g * v1) * 1000000000 + g * v0 := by grind
  have k6 : g * v0 ≤ g * 999999999 := Int.mul_le_mul_of_nonneg_left (by omega) hg0
  have k7 : (g * (v1 * 1000000000 + v0) + g) * P ≤ (t2 * 1000000000 * 1000000000 + t1 * 1000000000 + t0 + 1000000000) * P := by
    refine Int.mul_le_mul_of_nonneg_right ?_ (by omega)
    rcases hc with hc | hc <;> omega
  have k8 : (t2 * 1000000000 * 1000000000 + t1 * 1000000000 + t0 + 1000000000) * P = (t2 * 1000000000 * 1000000000 + t1 * 1000000000 + t0) * P + 1000000000 * P := Int.add_mul _ _ _
  have := h.V0
  have := h.ht.1
  omega
end
/-- the groups' first ones -/
theorem knu_of {u v : List Int} {n : Nat} (hu : Dig u) (hv : Dig v) (hn : 2 ≤ n) (hl : v.length = n) (htop : 1 ≤ v.getD (n - 1) 0) (hlt : val u < 1000000000 * val v) :
    Knu (val u) (val v) (1000000000 ^ (n - 2)) (u.getD n 0) (u.getD (n - 1) 0) (u.getD (n - 2) 0) (v.getD (n - 1) 0) (v.getD (n - 2) 0) := by
  obtain ⟨k, rfl⟩ : ∃ k, n = k + 2 := ⟨n - 2, by omega⟩
  simp only [show k + 2 - 1 = k + 1 from rfl, show k + 2 - 2 = k from rfl] at *
  have hvlt := val_lt hv
  rw [hl] at hvlt
  have e3 := val_top1 (k := k + 2) hu (by rw [Int.pow_succ]; omega)
  have e4 := val_top1 (k := k + 1) hv (by omega)
  rw [val_take_succ, val_take_succ] at e3
  rw [val_take_succ] at e4
  have p := pow_pos9 k
  have l1 := val_take_le hu k
  have l2 := val_take_le hv k
  have m1 := val_nonneg (hu.take k)
  have m2 := val_nonneg (hv.take k)
  have q1 : (1000000000 : Int) ^ (k + 1) = 1000000000 ^ k * 1000000000 := Int.pow_succ _ _
  have q2 : (1000000000 : Int) ^ (k + 2) = 1000000000 ^ k * 1000000000 * 1000000000 := by rw [Int.pow_succ, Int.pow_succ]
  rw [q1, q2] at e3
  rw [q1] at e4
  refine ⟨by omega, ?_, ?_, hu.getD _, hu.getD _, hu.getD _, ⟨htop, (hv.getD _).2⟩, hv.getD _, hlt, val_nonneg hu⟩
  · generalize (1000000000 : Int) ^ k = A at *
    generalize u.getD (k + 2) 0 = a at *
    generalize u.getD (k + 1) 0 = b at *
    generalize u.getD k 0 = c at *
    have : val u = val (u.take k) + (a * 1000000000 * 1000000000 + b * 1000000000 + c) * A := by rw [e3]; grind
    constructor
    · omega
    · rw [Int.add_mul]; omega
  · generalize (1000000000 : Int) ^ k = A at *
    generalize v.getD (k + 1) 0 = b at *
    generalize v.getD k 0 = c at *
    have : val v = val (v.take k) + (b * 1000000000 + c) * A := by rw [e4]; grind
    constructor
    · omega
    · rw [Int.add_mul]; omega
/-- one group of the difference u - g v, from place j on; U: what u was -/
theorem msub_step {o U v : List Int} {j i : Nat} {g b c d d' b' : Int} (hv : val ((o.drop j).take i) + g * val (v.take i) = val ((U.drop j).take i) + 1000000000 ^ i * (b + c)) (hi : j + i < o.length) (hs : (o.drop (j + i)) = U.drop (j + i)) (hd : d = U.getD (j + i) 0 - b - (g * v.getD i 0 + c) % 1000000000) (he : d' = d + 1000000000 * b') :
    val (((o.set (j + i) d').drop j).take (i + 1)) + g * val (v.take (i + 1)) = val ((U.drop j).take (i + 1)) + 1000000000 ^ (i + 1) * (b' + (g * v.getD i 0 + c) / 1000000000) ∧ (o.set (j + i) d').drop (j + (i + 1)) = U.drop (j + (i + 1)) := by
  constructor
  · have e1 : (o.set (j + i) d').drop j = (o.drop j).set i d' := by
      rw [List.drop_set]
      rw [if_neg (by omega)]
      congr 1
      omega
    have hl : i < (o.drop j).length := by simp; omega
    rw [e1, take_set_succ _ i d' hl, val_append, val_take_succ, val_take_succ (U.drop j), getD_drop0]
    simp only [List.length_take, Nat.min_eq_left (Nat.le_of_lt hl), val, Int.pow_succ]
    have e2 : g * v.getD i 0 + c = (g * v.getD i 0 + c) % 1000000000 + 1000000000 * ((g * v.getD i 0 + c) / 1000000000) := by omega
    generalize (g * v.getD i 0 + c) % 1000000000 = s at *
    generalize (g * v.getD i 0 + c) / 1000000000 = t at *
    generalize (1000000000 : Int) ^ i = A at *
    generalize v.getD i 0 = x at *
    generalize U.getD (j + i) 0 = y at *
    generalize val ((o.drop j).take i) = z at *
    generalize val ((U.drop j).take i) = z2 at *
    generalize val (v.take i) = z3 at *
    clear e1 hl hs hi
    subst hd he
    grind
  · have e : ((o.set (j + i) d').drop (j + (i + 1))) = o.drop (j + i + 1) := by
      rw [← Nat.add_assoc, List.drop_set, if_pos (by omega)]
    rw [e, ← Nat.add_assoc]
    have h1 : o.drop (j + i + 1) = (o.drop (j + i)).drop 1 := by rw [List.drop_drop]
    have h2 : U.drop (j + i + 1) = (U.drop (j + i)).drop 1 := by rw [List.drop_drop]
    rw [h1, h2, hs]
end Go.Proofs.YtdmlebigkakplaaGreat
