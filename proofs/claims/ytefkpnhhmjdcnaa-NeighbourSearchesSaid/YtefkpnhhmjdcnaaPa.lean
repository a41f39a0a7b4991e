/- neighbour, plain: what the mutual matches are; lists exchanged, masked, reversed -/
import Derived.Test.YtefkpnhhmjdcnaaNm
import Derived.Test.YtefkpnhhmjdcnaaRb
namespace Go.Proofs.Ytefkpnhhmjdcnaa
open Go Go.Fx

theorem nr_some (l : List Int) (w but : Int) : ∀ k, 0 ≤ (nr l w but k).1 → ∃ i : Nat, i < k ∧ nr l w but k = ((i : Int), dist (l.getD i 0) w) ∧ (i : Int) ≠ but ∧ (∀ j : Nat, j < k → (j : Int) ≠ but → dist (l.getD i 0) w ≤ dist (l.getD j 0) w) := by
  intro k
  induction k with
  | zero => intro h; simp [nr] at h
  | succ k ih =>
    intro h
    by_cases c : (k : Int) ≠ but ∧ ((nr l w but k).1 < 0 ∨ dist (l.getD k 0) w < (nr l w but k).2)
    · have e : nr l w but (k + 1) = ((k : Int), dist (l.getD k 0) w) := by
        show (if _ then _ else _) = _
        rw [if_pos c]
      refine ⟨k, by omega, e, c.1, fun j hj hb => ?_⟩
      by_cases ejk : j = k
      · subst ejk; omega
      · rcases c.2 with hneg | hlt
        · exact absurd (nr_none' l w but k hneg j (by omega)) hb
        · by_cases hneg : (nr l w but k).1 < 0
          · exact absurd (nr_none' l w but k hneg j (by omega)) hb
          · obtain ⟨i, hi, he, _, hm⟩ := ih (by omega)
            rw [he] at hlt
            have := hm j (by omega) hb
            simp only at hlt
            omega
    · have e : nr l w but (k + 1) = nr l w but k := by
        show (if _ then _ else _) = _
        rw [if_neg c]
      rw [e] at h ⊢
      obtain ⟨i, hi, he, hb, hm⟩ := ih h
      refine ⟨i, by omega, he, hb, fun j hj hjb => ?_⟩
      by_cases ejk : j = k
      · subst ejk
        have : ¬ dist (l.getD j 0) w < (nr l w but j).2 := fun hh => c ⟨hjb, .inr hh⟩
        rw [he] at this
        simp only at this
        omega
      · exact hm j (by omega) hjb
where
  nr_none' (l : List Int) (w but : Int) : ∀ k, (nr l w but k).1 < 0 → ∀ j : Nat, j < k → (j : Int) = but := by
    intro k
    induction k with
    | zero => intro _ j hj; omega
    | succ k ih =>
      intro h j hj
      by_cases c : (k : Int) ≠ but ∧ ((nr l w but k).1 < 0 ∨ dist (l.getD k 0) w < (nr l w but k).2)
      · have e : nr l w but (k + 1) = ((k : Int), dist (l.getD k 0) w) := by
          show (if _ then _ else _) = _
          rw [if_pos c]
        rw [e] at h
        simp only at h
        omega
      · have e : nr l w but (k + 1) = nr l w but k := by
          show (if _ then _ else _) = _
          rw [if_neg c]
        rw [e] at h
        by_cases ejk : j = k
        · subst ejk
          by_cases hb : (j : Int) = but
          · exact hb
          · exact absurd ⟨hb, .inl h⟩ c
        · exact ih h j (by omega)
theorem nr_none (l : List Int) (w but : Int) (k : Nat) (h : (nr l w but k).1 < 0) (j : Nat) (hj : j < k) : (j : Int) = but := nr_some.nr_none' l w but k h j hj

/- ---------- what Matches finds ---------- -/
def Mut (a b : List Int) (num den : Int) (i j : Nat) : Prop :=
  i < a.length ∧ j < b.length ∧ (nr b (a.getD i 0) (-1) b.length).1 = j ∧ (nr a (b.getD j 0) (-1) a.length).1 = i ∧
    Clr b (a.getD i 0) j (dist (b.getD j 0) (a.getD i 0)) num den ∧ Clr a (b.getD j 0) i (dist (b.getD j 0) (a.getD i 0)) num den
def mt (a b : List Int) (i j : Nat) : M3 := ((i : Int), (j : Int), dist (b.getD j 0) (a.getD i 0))

theorem mStep_mem {a b : List Int} {num den : Int} {i : Nat} (hi : i < a.length) (x : M3) : x ∈ mStep a b num den i ↔ ∃ j, Mut a b num den i j ∧ x = mt a b i j := by
  unfold mStep
  dsimp only
  by_cases hneg : (nr b (a.getD i 0) (-1) b.length).1 < 0
  · rw [if_pos hneg]
    constructor
    · intro h; simp at h
    · rintro ⟨j, hm, _⟩
      have := hm.2.2.1
      omega
  · rw [if_neg hneg]
    obtain ⟨j, hj, he, _, _⟩ := nr_some b (a.getD i 0) (-1) b.length (by omega)
    rw [he]
    simp only [Int.toNat_natCast]
    split
    · rename_i hc
      simp only [List.mem_singleton]
      constructor
      · rintro rfl
        exact ⟨j, ⟨hi, hj, by rw [he], hc.1, hc.2.1, hc.2.2⟩, rfl⟩
      · rintro ⟨j', hm, rfl⟩
        have : (j : Int) = j' := by have := hm.2.2.1; rw [he] at this; exact this
        have : j' = j := by omega
        subst this
        rfl
    · rename_i hc
      constructor
      · intro h; simp at h
      · rintro ⟨j', hm, _⟩
        have : (j : Int) = j' := by have := hm.2.2.1; rw [he] at this; exact this
        have : j' = j := by omega
        subst this
        exact absurd ⟨hm.2.2.2.1, hm.2.2.2.2.1, hm.2.2.2.2.2⟩ hc
theorem mK_mem' {a b : List Int} {num den : Int} (x : M3) : ∀ k, k ≤ a.length → (x ∈ mK a b num den k ↔ ∃ i j, i < k ∧ Mut a b num den i j ∧ x = mt a b i j)
  | 0, _ => by simp [mK]
  | k + 1, hk => by
    simp only [mK, List.mem_append, mK_mem' (a := a) (b := b) (num := num) (den := den) x k (by omega), mStep_mem (a := a) (b := b) (num := num) (den := den) (show k < a.length by omega)]
    constructor
    · rintro (⟨i, j, h1, h2, h3⟩ | ⟨j, h2, h3⟩)
      · exact ⟨i, j, by omega, h2, h3⟩
      · exact ⟨k, j, by omega, h2, h3⟩
    · rintro ⟨i, j, h1, h2, h3⟩
      by_cases e : i = k
      · subst e; exact .inr ⟨j, h2, h3⟩
      · exact .inl ⟨i, j, by omega, h2, h3⟩
theorem mK_mem {a b : List Int} {num den : Int} (x : M3) : x ∈ mK a b num den a.length ↔ ∃ i j, Mut a b num den i j ∧ x = mt a b i j := by
  rw [mK_mem' x _ (Nat.le_refl _)]
  constructor
  · rintro ⟨i, j, _, h⟩; exact ⟨i, j, h⟩
  · rintro ⟨i, j, h⟩; exact ⟨i, j, h.1.1, h⟩
theorem mK_nodup {a b : List Int} {num den : Int} : ∀ k, k ≤ a.length → (mK a b num den k).Nodup
  | 0, _ => by simp [mK]
  | k + 1, hk => by
    refine List.nodup_append.2 ⟨mK_nodup k (by omega), ?_, ?_⟩
    · unfold mStep
      dsimp only
      split
      · simp
      · split <;> simp
    · intro x hx y hy e
      subst e
      obtain ⟨i, j, h1, _, h3⟩ := (mK_mem' x k (by omega)).1 hx
      obtain ⟨j', _, h4⟩ := (mStep_mem (show k < a.length by omega) x).1 hy
      rw [h3] at h4
      have : (i : Int) = (k : Int) := congrArg Prod.fst h4
      omega

/- exchange -/
theorem Mut.swap {a b : List Int} {num den : Int} {i j : Nat} (h : Mut a b num den i j) : Mut b a num den j i := by
  obtain ⟨h1, h2, h3, h4, h5, h6⟩ := h
  refine ⟨h2, h1, h4, h3, ?_, ?_⟩
  · rw [dist_comm]; exact h6
  · rw [dist_comm]; exact h5
def sw3 (m : M3) : M3 := (m.2.1, m.1, m.2.2)
theorem sw_mem {a b : List Int} {num den : Int} {x : M3} (h : x ∈ mK a b num den a.length) : sw3 x ∈ mK b a num den b.length := by
  obtain ⟨i, j, hm, rfl⟩ := (mK_mem x).1 h
  refine (mK_mem _).2 ⟨j, i, hm.swap, ?_⟩
  show ((j : Int), (i : Int), dist (b.getD j 0) (a.getD i 0)) = ((j : Int), (i : Int), dist (a.getD i 0) (b.getD j 0))
  rw [dist_comm]
theorem sw_len' {a b : List Int} {num den : Int} : (mK a b num den a.length).length ≤ (mK b a num den b.length).length := by
  have hn : ((mK a b num den a.length).map sw3).Nodup := by
    refine List.Pairwise.map sw3 (R := fun x y => x ≠ y) ?_ (mK_nodup (num := num) (den := den) a.length (Nat.le_refl _))
    rintro ⟨a1, a2, a3⟩ ⟨b1, b2, b3⟩ hne he
    apply hne
    simp only [sw3, Prod.mk.injEq] at he ⊢
    exact ⟨he.2.1, he.1, he.2.2⟩
  have := hn.length_le_of_subset (l₂ := mK b a num den b.length) (fun x hx => by
    obtain ⟨y, hy, rfl⟩ := List.mem_map.1 hx
    exact sw_mem hy)
  simpa using this
theorem sw_len (a b : List Int) (num den : Int) : (mK a b num den a.length).length = (mK b a num den b.length).length := Nat.le_antisymm sw_len' sw_len'

/- a smaller ratio -/
theorem Clr_less {l : List Int} {w i d num den other more : Int} (hd : 0 < den) (hm : 0 < more) (hle : other * den ≤ num * more) (h : Clr l w i d other more) : Clr l w i d num den := by
  rcases h with h | h
  · exact .inl h
  · refine .inr ?_
    have hs := (nr_bd l w i l.length).1
    have h1 : (d * more) * den ≤ (other * (nr l w i l.length).2) * den := Int.mul_le_mul_of_nonneg_right h (by omega)
    have h2 : (other * den) * (nr l w i l.length).2 ≤ (num * more) * (nr l w i l.length).2 := Int.mul_le_mul_of_nonneg_right hle hs
    have h3 : (d * den) * more ≤ (num * (nr l w i l.length).2) * more := by grind
    exact Int.le_of_mul_le_mul_right h3 hm
theorem less_mem {a b : List Int} {num den other more : Int} (hd : 0 < den) (hm : 0 < more) (hle : other * den ≤ num * more) {x : M3} (h : x ∈ mK a b other more a.length) : x ∈ mK a b num den a.length := by
  obtain ⟨i, j, ⟨h1, h2, h3, h4, h5, h6⟩, rfl⟩ := (mK_mem x).1 h
  exact (mK_mem _).2 ⟨i, j, ⟨h1, h2, h3, h4, Clr_less hd hm hle h5, Clr_less hd hm hle h6⟩, rfl⟩

/- masked -/
def xm (mask x : Int) : Int := ((x.toNat ^^^ mask.toNat : Nat) : Int)
theorem dist_xm (x y mask : Int) : dist (xm mask x) (xm mask y) = dist x y := by
  unfold xm
  rw [dist_mask]
  unfold dist
  rw [Int.toNat_natCast, Int.toNat_natCast]
theorem getD_map (f : Int → Int) (l : List Int) (i : Nat) (h : i < l.length) : (l.map f).getD i 0 = f (l.getD i 0) := by simp [List.getD, h]
theorem nr_xm (l : List Int) (w but mask : Int) : ∀ k, k ≤ l.length → nr (l.map (xm mask)) (xm mask w) but k = nr l w but k
  | 0, _ => rfl
  | k + 1, hk => by
    show (if _ then _ else _) = (if _ then _ else _)
    rw [nr_xm l w but mask k (by omega), getD_map _ l k (by omega), dist_xm]
theorem Clr_xm {l : List Int} {w i d num den mask : Int} : Clr (l.map (xm mask)) (xm mask w) i d num den ↔ Clr l w i d num den := by
  unfold Clr
  rw [List.length_map, nr_xm l w i mask _ (Nat.le_refl _)]
theorem Mut_xm {a b : List Int} {num den mask : Int} {i j : Nat} : Mut (a.map (xm mask)) (b.map (xm mask)) num den i j ↔ Mut a b num den i j := by
  unfold Mut
  simp only [List.length_map]
  constructor
  · rintro ⟨h1, h2, h3, h4, h5, h6⟩
    rw [getD_map _ a i h1, getD_map _ b j h2] at *
    rw [nr_xm _ _ _ _ _ (Nat.le_refl _)] at h3 h4
    rw [dist_xm] at h5 h6
    exact ⟨h1, h2, h3, h4, Clr_xm.1 h5, Clr_xm.1 h6⟩
  · rintro ⟨h1, h2, h3, h4, h5, h6⟩
    rw [getD_map _ a i h1, getD_map _ b j h2, nr_xm _ _ _ _ _ (Nat.le_refl _), nr_xm _ _ _ _ _ (Nat.le_refl _), dist_xm]
    exact ⟨h1, h2, h3, h4, Clr_xm.2 h5, Clr_xm.2 h6⟩
theorem mStep_xm {a b : List Int} {num den mask : Int} {i : Nat} (hi : i < a.length) : mStep (a.map (xm mask)) (b.map (xm mask)) num den i = mStep a b num den i := by
  unfold mStep
  dsimp only
  rw [getD_map _ a i hi, List.length_map, nr_xm _ _ _ _ _ (Nat.le_refl _)]
  by_cases hneg : (nr b (a.getD i 0) (-1) b.length).1 < 0
  · rw [if_pos hneg, if_pos hneg]
  · rw [if_neg hneg, if_neg hneg]
    obtain ⟨j, hj, he, _, _⟩ := nr_some b (a.getD i 0) (-1) b.length (by omega)
    rw [he]
    simp only [Int.toNat_natCast, List.length_map]
    rw [getD_map _ b j hj, nr_xm _ _ _ _ _ (Nat.le_refl _)]
    simp only [Clr_xm]
theorem mK_xm {a b : List Int} {num den mask : Int} : ∀ k, k ≤ a.length → mK (a.map (xm mask)) (b.map (xm mask)) num den k = mK a b num den k
  | 0, _ => rfl
  | k + 1, hk => by simp only [mK, mK_xm (a := a) (b := b) k (by omega), mStep_xm (a := a) (b := b) (show k < a.length by omega)]

/- reversed -/
def Dst (l : List Int) (w : Int) : Prop := ∀ i j : Nat, i < l.length → j < l.length → i ≠ j → dist (l.getD i 0) w ≠ dist (l.getD j 0) w
theorem getD_rev (l : List Int) (i : Nat) (h : i < l.length) : l.reverse.getD i 0 = l.getD (l.length - 1 - i) 0 := by
  have h2 : l.length - 1 - i < l.length := by omega
  simp [List.getD, h, h2]
/-- the nearest, from behind -/
theorem nr_rev {l : List Int} {w but but' : Int} (hd : Dst l w) (hb : (but = -1 ∧ but' = -1) ∨ (∃ i : Nat, i < l.length ∧ but = i ∧ but' = l.length - 1 - i)) :
    ((nr l w but l.length).1 < 0 ∧ (nr l.reverse w but' l.length).1 < 0) ∨
    (0 ≤ (nr l w but l.length).1 ∧ nr l.reverse w but' l.length = (l.length - 1 - (nr l w but l.length).1, (nr l w but l.length).2)) := by
  have hb2 : ∀ j : Nat, j < l.length → ((j : Int) = but ↔ ((l.length - 1 - j : Nat) : Int) = but') := by
    intro j hj
    rcases hb with ⟨rfl, rfl⟩ | ⟨i, hi, rfl, rfl⟩
    · omega
    · omega
  by_cases h : (nr l w but l.length).1 < 0
  · refine .inl ⟨h, ?_⟩
    by_cases h' : (nr l.reverse w but' l.length).1 < 0
    · exact h'
    · exfalso
      obtain ⟨i, hi, _, hbi, _⟩ := nr_some l.reverse w but' l.length (by omega)
      have h1 := nr_none l w but l.length h (l.length - 1 - i) (by omega)
      have h2 := (hb2 _ (by omega)).1 h1
      apply hbi
      rw [← h2]
      omega
  · refine .inr ⟨by omega, ?_⟩
    obtain ⟨i, hi, he, hbi, hm⟩ := nr_some l w but l.length (by omega)
    by_cases h' : (nr l.reverse w but' l.length).1 < 0
    · exfalso
      have h1 := nr_none l.reverse w but' l.length h' (l.length - 1 - i) (by omega)
      exact hbi ((hb2 i hi).2 h1)
    · obtain ⟨i', hi', he', hbi', hm'⟩ := nr_some l.reverse w but' l.length (by omega)
      have e1 := hm (l.length - 1 - i') (by omega) (fun hh => hbi' (by have := (hb2 _ (by omega)).1 hh; rw [← this]; omega))
      have e2 := hm' (l.length - 1 - i) (by omega) (fun hh => hbi ((hb2 i hi).2 hh))
      rw [getD_rev l _ hi', getD_rev l _ (by omega)] at e2
      have e3 : l.length - 1 - (l.length - 1 - i) = i := by omega
      rw [e3] at e2
      have e4 : l.length - 1 - i' = i := by
        by_cases c : l.length - 1 - i' = i
        · exact c
        · exact absurd (Int.le_antisymm e2 e1) (hd _ _ (by omega) hi c)
      rw [he, he', getD_rev l _ hi', e4]
      simp only [Prod.mk.injEq, and_true]
      omega
theorem Clr_rev {l : List Int} {w d num den : Int} {i : Nat} (hd : Dst l w) (hi : i < l.length) : Clr l.reverse w (l.length - 1 - i) d num den ↔ Clr l w i d num den := by
  unfold Clr
  rw [List.length_reverse]
  rcases nr_rev (but := i) (but' := l.length - 1 - i) hd (.inr ⟨i, hi, rfl, rfl⟩) with ⟨h1, h2⟩ | ⟨h1, h2⟩
  · simp [h1, h2]
  · rw [h2]
    have : (nr l w i l.length).1 < l.length := (nearest_lt l w i l.length).2
    constructor
    · rintro (h | h)
      · simp only at h; omega
      · exact .inr h
    · rintro (h | h)
      · omega
      · exact .inr h
def rv3 (n : Nat) (m : M3) : M3 := (m.1, n - 1 - m.2.1, m.2.2)
theorem mStep_rev {a b : List Int} {num den : Int} {i : Nat} (hi : i < a.length) (hd : Dst b (a.getD i 0)) : mStep a b.reverse num den i = (mStep a b num den i).map (rv3 b.length) := by
  unfold mStep
  dsimp only
  rw [List.length_reverse]
  rcases nr_rev (but := -1) (but' := -1) hd (.inl ⟨rfl, rfl⟩) with ⟨h1, h2⟩ | ⟨h1, h2⟩
  · rw [if_pos h1, if_pos h2]; rfl
  · obtain ⟨j, hj, he, _, _⟩ := nr_some b (a.getD i 0) (-1) b.length h1
    rw [h2, he]
    simp only
    rw [if_neg (show ¬ ((b.length : Int) - 1 - j < 0) by omega), if_neg (show ¬ ((j : Int) < 0) by omega)]
    have e1 : ((b.length : Int) - 1 - j).toNat = b.length - 1 - j := by omega
    rw [e1, getD_rev b _ (by omega)]
    have e2 : b.length - 1 - (b.length - 1 - j) = j := by omega
    rw [e2]
    simp only [Int.toNat_natCast]
    have key : ((nr a (b.getD j 0) (-1) a.length).1 = (i : Int) ∧ Clr b.reverse (a.getD i 0) ((b.length : Int) - 1 - j) (dist (b.getD j 0) (a.getD i 0)) num den ∧ Clr a (b.getD j 0) i (dist (b.getD j 0) (a.getD i 0)) num den) ↔
      ((nr a (b.getD j 0) (-1) a.length).1 = (i : Int) ∧ Clr b (a.getD i 0) j (dist (b.getD j 0) (a.getD i 0)) num den ∧ Clr a (b.getD j 0) i (dist (b.getD j 0) (a.getD i 0)) num den) := by
      rw [Clr_rev hd hj]
    by_cases c : ((nr a (b.getD j 0) (-1) a.length).1 = (i : Int) ∧ Clr b (a.getD i 0) j (dist (b.getD j 0) (a.getD i 0)) num den ∧ Clr a (b.getD j 0) i (dist (b.getD j 0) (a.getD i 0)) num den)
    · rw [if_pos (key.2 c), if_pos c]; rfl
    · rw [if_neg (fun h => c (key.1 h)), if_neg c]; rfl
theorem mK_rev {a b : List Int} {num den : Int} (hd : ∀ i, i < a.length → Dst b (a.getD i 0)) : ∀ k, k ≤ a.length → mK a b.reverse num den k = (mK a b num den k).map (rv3 b.length)
  | 0, _ => rfl
  | k + 1, hk => by simp only [mK, mK_rev (num := num) (den := den) hd k (by omega), mStep_rev (num := num) (den := den) (show k < a.length by omega) (hd k (by omega)), List.map_append]
end Go.Proofs.Ytefkpnhhmjdcnaa
