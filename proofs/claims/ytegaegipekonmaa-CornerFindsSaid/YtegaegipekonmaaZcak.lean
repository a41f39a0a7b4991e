/- Stable sorting, plain: merging by a key, the sorted list, how lists of parts change under swaps. -/
import Derived.Test.YtegaegipekonmaaZcae
set_option linter.unusedSimpArgs false
set_option linter.unusedVariables false
namespace Go.Fx

section
variable {α : Type} (key : α → Int)
def mg : List α → List α → List α
  | [], ys => ys
  | x :: xs, [] => x :: xs
  | x :: xs, y :: ys => if key x ≤ key y then x :: mg xs (y :: ys) else y :: mg (x :: xs) ys
termination_by xs ys => xs.length + ys.length
theorem mg_nil (xs : List α) : mg key xs [] = xs := by cases xs <;> simp [mg]
theorem nil_mg (xs : List α) : mg key [] xs = xs := by simp [mg]
theorem mg_cons (x : α) (xs : List α) (y : α) (ys : List α) : mg key (x :: xs) (y :: ys) = if key x ≤ key y then x :: mg key xs (y :: ys) else y :: mg key (x :: xs) ys := by
  rw [mg]
theorem mg_len : ∀ (xs ys : List α), (mg key xs ys).length = xs.length + ys.length
  | [], ys => by simp [mg]
  | x :: xs, [] => by simp [mg]
  | x :: xs, y :: ys => by
    rw [mg_cons]
    split
    · simp [mg_len xs (y :: ys)]; omega
    · simp [mg_len (x :: xs) ys]; omega
termination_by xs ys => xs.length + ys.length
theorem mem_mg : ∀ (xs ys : List α) (z : α), z ∈ mg key xs ys ↔ z ∈ xs ∨ z ∈ ys
  | [], ys, z => by simp [mg]
  | x :: xs, [], z => by simp [mg]
  | x :: xs, y :: ys, z => by
    rw [mg_cons]
    split
    · simp only [List.mem_cons, mem_mg xs (y :: ys) z]
      constructor
      · rintro (h | h | h | h) <;> simp [h]
      · rintro ((h | h) | h | h) <;> simp [h]
    · simp only [List.mem_cons, mem_mg (x :: xs) ys z]
      constructor
      · rintro (h | (h | h) | h) <;> simp [h]
      · rintro ((h | h) | h | h) <;> simp [h]
termination_by xs ys => xs.length + ys.length
theorem mg_split : ∀ (X1 Y1 X2 Y2 : List α), (∀ x ∈ X1, ∀ y ∈ Y2, key x ≤ key y) → (∀ y ∈ Y1, ∀ x ∈ X2, key y < key x) → mg key (X1 ++ X2) (Y1 ++ Y2) = mg key X1 Y1 ++ mg key X2 Y2
  | [], [], X2, Y2, _, _ => by simp [nil_mg]
  | [], y :: Y1, [], Y2, _, _ => by simp [nil_mg]
  | [], y :: Y1, x :: X2, Y2, h1, h2 => by
    have h := h2 y (by simp) x (by simp)
    have ih := mg_split [] Y1 (x :: X2) Y2 (by simp) (fun y' hy => h2 y' (by simp [hy]))
    simp only [List.nil_append, nil_mg] at ih ⊢
    rw [List.cons_append, mg_cons, if_neg (by omega), ih]
    rfl
  | x :: X1, [], X2, [], _, _ => by simp [mg_nil]
  | x :: X1, [], X2, y :: Y2, h1, h2 => by
    have h := h1 x (by simp) y (by simp)
    have ih := mg_split X1 [] X2 (y :: Y2) (fun x' hx => h1 x' (by simp [hx])) (by simp)
    simp only [List.nil_append, mg_nil] at ih ⊢
    rw [List.cons_append, mg_cons, if_pos h, ih]
    rfl
  | x :: X1, y :: Y1, X2, Y2, h1, h2 => by
    rw [List.cons_append, List.cons_append, mg_cons, mg_cons]
    split
    · have ih := mg_split X1 (y :: Y1) X2 Y2 (fun x' hx => h1 x' (by simp [hx])) h2
      rw [← List.cons_append, ih]
      rfl
    · have ih := mg_split (x :: X1) Y1 X2 Y2 h1 (fun y' hy => h2 y' (by simp [hy]))
      rw [← List.cons_append, ih]
      rfl
termination_by X1 Y1 => X1.length + Y1.length
theorem mg_assoc : ∀ (X Y Z : List α), mg key (mg key X Y) Z = mg key X (mg key Y Z)
  | [], Y, Z => by simp [nil_mg]
  | x :: X, [], Z => by simp [mg_nil, nil_mg]
  | x :: X, y :: Y, [] => by simp [mg_nil]
  | x :: X, y :: Y, z :: Z => by
    by_cases hxy : key x ≤ key y
    · by_cases hyz : key y ≤ key z
      · have ih := mg_assoc X (y :: Y) (z :: Z)
        rw [mg_cons key x X y Y, if_pos hxy, mg_cons, if_pos (by omega), ih, mg_cons key y Y z Z, if_pos hyz, mg_cons, if_pos hxy]
      · by_cases hxz : key x ≤ key z
        · have ih := mg_assoc X (y :: Y) (z :: Z)
          rw [mg_cons key x X y Y, if_pos hxy, mg_cons, if_pos hxz, ih, mg_cons key y Y z Z, if_neg hyz, mg_cons, if_pos hxz]
        · have ih := mg_assoc (x :: X) (y :: Y) Z
          rw [mg_cons key x X y Y, if_pos hxy] at ih ⊢
          rw [mg_cons, if_neg hxz, ih, mg_cons key y Y z Z, if_neg hyz, mg_cons, if_neg hxz]
    · by_cases hyz : key y ≤ key z
      · have ih := mg_assoc (x :: X) Y (z :: Z)
        rw [mg_cons key x X y Y, if_neg hxy, mg_cons, if_pos hyz, ih, mg_cons key y Y z Z, if_pos hyz, mg_cons, if_neg hxy]
      · have ih := mg_assoc (x :: X) (y :: Y) Z
        rw [mg_cons key x X y Y, if_neg hxy] at ih ⊢
        rw [mg_cons, if_neg hyz, ih, mg_cons key y Y z Z, if_neg hyz, mg_cons, if_neg (by omega)]
termination_by X Y Z => X.length + Y.length + Z.length

/-- ascending -/
def Asc (l : List α) : Prop := l.Pairwise (fun a b => key a ≤ key b)
theorem Asc.mg : ∀ {X Y : List α}, Asc key X → Asc key Y → Asc key (mg key X Y)
  | [], Y, _, hY => by simpa [nil_mg] using hY
  | x :: X, [], hX, _ => by simpa [mg_nil] using hX
  | x :: X, y :: Y, hX, hY => by
    have hX' := List.pairwise_cons.1 hX
    have hY' := List.pairwise_cons.1 hY
    rw [mg_cons]
    split
    · refine List.pairwise_cons.2 ⟨fun z hz => ?_, Asc.mg hX'.2 hY⟩
      rcases (mem_mg key _ _ _).1 hz with hz | hz
      · exact hX'.1 z hz
      · rcases List.mem_cons.1 hz with rfl | hz
        · assumption
        · have := hY'.1 z hz; omega
    · refine List.pairwise_cons.2 ⟨fun z hz => ?_, Asc.mg hX hY'.2⟩
      rcases (mem_mg key _ _ _).1 hz with hz | hz
      · rcases List.mem_cons.1 hz with rfl | hz
        · omega
        · have := hX'.1 z hz; omega
      · exact hY'.1 z hz
termination_by X Y => X.length + Y.length
/-- the stable order -/
def srt (l : List α) : List α := l.foldl (fun acc x => mg key acc [x]) []
theorem srt_nil : srt key ([] : List α) = [] := rfl
theorem srt_snoc (l : List α) (x : α) : srt key (l ++ [x]) = mg key (srt key l) [x] := by simp [srt, List.foldl_append]
theorem srt_append (A : List α) : ∀ (n : Nat) (B : List α), B.length = n → srt key (A ++ B) = mg key (srt key A) (srt key B)
  | 0, B, hB => by
    have : B = [] := List.eq_nil_of_length_eq_zero hB
    subst this
    simp [srt_nil, mg_nil]
  | n + 1, B, hB => by
    have hne : B ≠ [] := by intro h; subst h; simp at hB
    obtain ⟨B', x, rfl⟩ : ∃ B' x, B = B' ++ [x] := ⟨B.dropLast, B.getLast hne, (List.dropLast_concat_getLast hne).symm⟩
    rw [← List.append_assoc, srt_snoc, srt_snoc, srt_append A n B' (by simpa using hB), mg_assoc]
theorem srt_asc_n : ∀ (n : Nat) (l : List α), l.length = n → Asc key (srt key l) ∧ (srt key l).length = l.length
  | 0, l, h => by
    have : l = [] := List.eq_nil_of_length_eq_zero h
    subst this
    exact ⟨List.Pairwise.nil, rfl⟩
  | n + 1, l, h => by
    have hne : l ≠ [] := by intro e; subst e; simp at h
    obtain ⟨B', x, rfl⟩ : ∃ B' x, l = B' ++ [x] := ⟨l.dropLast, l.getLast hne, (List.dropLast_concat_getLast hne).symm⟩
    have ih := srt_asc_n n B' (by simpa using h)
    rw [srt_snoc]
    exact ⟨Asc.mg key ih.1 (List.pairwise_singleton _ _), by rw [mg_len, ih.2]; simp⟩
theorem srt_asc (l : List α) : Asc key (srt key l) := (srt_asc_n key _ l rfl).1
theorem srt_len (l : List α) : (srt key l).length = l.length := (srt_asc_n key _ l rfl).2
theorem srt_mem (z : α) : ∀ (n : Nat) (l : List α), l.length = n → (z ∈ srt key l ↔ z ∈ l)
  | 0, l, h => by
    have : l = [] := List.eq_nil_of_length_eq_zero h
    subst this
    simp [srt_nil]
  | n + 1, l, h => by
    have hne : l ≠ [] := by intro e; subst e; simp at h
    obtain ⟨B', x, rfl⟩ : ∃ B' x, l = B' ++ [x] := ⟨l.dropLast, l.getLast hne, (List.dropLast_concat_getLast hne).symm⟩
    rw [srt_snoc, mem_mg, srt_mem z n B' (by simpa using h)]
    simp
/-- where one element belongs -/
theorem mg_one {P1 P2 : List α} {x : α} (h1 : ∀ y ∈ P1, key y ≤ key x) (h2 : ∀ y ∈ P2, key x < key y) : mg key (P1 ++ P2) [x] = P1 ++ x :: P2 := by
  have := mg_split key P1 [] P2 [x] (fun a ha b hb => by simp at hb; subst hb; exact h1 a ha) (by simp)
  simp only [List.nil_append, mg_nil] at this
  rw [this]
  congr 1
  have := mg_split key [] [x] P2 [] (by simp) (fun y hy a ha => by simp at hy; subst hy; exact h2 a ha)
  simpa [nil_mg, mg_nil] using this
theorem one_mg {P1 P2 : List α} {x : α} (h1 : ∀ y ∈ P1, key y < key x) (h2 : ∀ y ∈ P2, key x ≤ key y) : mg key [x] (P1 ++ P2) = P1 ++ x :: P2 := by
  have := mg_split key [] P1 [x] P2 (by simp) (fun y hy a ha => by simp at ha; subst ha; exact h1 y hy)
  simp only [List.nil_append, nil_mg] at this
  rw [this]
  congr 1
  have := mg_split key [x] [] [] P2 (fun a ha b hb => by simp at ha; subst ha; exact h2 b hb) (by simp)
  simpa [nil_mg, mg_nil] using this
theorem Asc.left {A B : List α} (h : Asc key (A ++ B)) : Asc key A := (List.pairwise_append.1 h).1
theorem Asc.right {A B : List α} (h : Asc key (A ++ B)) : Asc key B := (List.pairwise_append.1 h).2.1
theorem Asc.cross {A B : List α} (h : Asc key (A ++ B)) : ∀ a ∈ A, ∀ b ∈ B, key a ≤ key b := (List.pairwise_append.1 h).2.2
theorem Asc.at [Inhabited α] {l : List α} (h : Asc key l) {i j : Nat} (hij : i ≤ j) (hj : j < l.length) : key (gt l (i : Int)) ≤ key (gt l (j : Int)) := by
  rw [gt_get hj, gt_get (show i < l.length by omega)]
  by_cases e : i = j
  · subst e; exact Int.le_refl _
  · exact List.pairwise_iff_getElem.1 h i j _ _ (by omega)

/- parts -/
theorem gt_app [Inhabited α] (A B : List α) (k : Nat) : gt (A ++ B) (k : Int) = if k < A.length then gt A (k : Int) else gt B ((k - A.length : Nat) : Int) := by
  rw [gt_nat, gt_nat, gt_nat]
  simp only [List.getD]
  split
  · rename_i h; rw [List.getElem?_append_left h]
  · rename_i h; rw [List.getElem?_append_right (by omega)]
theorem gt_at [Inhabited α] {A B : List α} {x : α} {i : Int} (h : i = A.length) : gt (A ++ x :: B) i = x := by
  subst h
  rw [gt_app, if_neg (by omega)]
  simp [gt]
theorem st_at {A B : List α} {x y : α} {i : Int} (h : i = A.length) : st (A ++ x :: B) i y = A ++ y :: B := by
  subst h
  simp [st]
/-- neighbours exchanged -/
theorem swap2 {A B : List α} {x y : α} {i j : Int} (hi : i = A.length) (hj : j = A.length + 1) : st (st (A ++ x :: y :: B) i y) j x = A ++ y :: x :: B := by
  rw [st_at hi]
  have : A ++ y :: y :: B = (A ++ [y]) ++ y :: B := by simp
  rw [this, st_at (by simp; omega)]
  simp
theorem swap2' {A B : List α} {x y : α} {i j : Int} (hi : i = A.length) (hj : j = A.length + 1) : st (st (A ++ x :: y :: B) j x) i y = A ++ y :: x :: B := by
  have : A ++ x :: y :: B = (A ++ [x]) ++ y :: B := by simp
  rw [this, st_at (by simp; omega)]
  have : (A ++ [x]) ++ x :: B = A ++ x :: x :: B := by simp
  rw [this, st_at hi]
/-- blocks exchanged, point by point -/
theorem swapBlocks [Inhabited α] {P U V W S D : List α} (hUW : U.length = W.length) (hl : D.length = (P ++ U ++ V ++ W ++ S).length)
    (h : ∀ k : Nat, k < D.length → gt D (k : Int) = if P.length ≤ k ∧ k < P.length + U.length then gt (P ++ U ++ V ++ W ++ S) ((k + U.length + V.length : Nat) : Int)
      else if P.length + U.length + V.length ≤ k ∧ k < P.length + U.length + V.length + W.length then gt (P ++ U ++ V ++ W ++ S) ((k - (U.length + V.length) : Nat) : Int) else gt (P ++ U ++ V ++ W ++ S) (k : Int)) :
    D = P ++ W ++ V ++ U ++ S := by
  have hl2 : D.length = P.length + U.length + V.length + W.length + S.length := by rw [hl]; simp [Nat.add_assoc]
  apply List.ext_getElem
  · rw [hl2]; simp; omega
  intro k h1 h2
  have e := h k h1
  rw [gt_get h1] at e
  rw [e, ← gt_get h2]
  simp only [gt_app, List.length_append]
  split <;> rename_i c1
  · rw [if_neg (show ¬ k + U.length + V.length < P.length + U.length + V.length by omega), if_pos (show k + U.length + V.length < P.length + U.length + V.length + W.length by omega)]
    rw [if_neg (show ¬ k < P.length by omega), if_pos (show k < P.length + W.length by omega), if_pos (show k < P.length + W.length + V.length by omega), if_pos (show k < P.length + W.length + V.length + U.length by omega)]
    congr 2
    omega
  · split <;> rename_i c2
    · rw [if_pos (show k - (U.length + V.length) < P.length + U.length + V.length + W.length by omega), if_pos (show k - (U.length + V.length) < P.length + U.length + V.length by omega), if_pos (show k - (U.length + V.length) < P.length + U.length by omega), if_neg (show ¬ k - (U.length + V.length) < P.length by omega)]
      rw [if_pos (show k < P.length + W.length + V.length + U.length by omega), if_neg (show ¬ k < P.length + W.length + V.length by omega)]
      congr 2
      omega
    · by_cases c3 : k < P.length
      · rw [if_pos (by omega), if_pos (by omega), if_pos (by omega), if_pos c3, if_pos (by omega), if_pos (by omega), if_pos (by omega), if_pos c3]
      · by_cases c4 : k < P.length + U.length + V.length
        · rw [if_pos (by omega), if_pos c4, if_neg (by omega), if_pos (by omega), if_pos (by omega), if_neg (by omega)]
          congr 2
          omega
        · rw [if_neg (by omega), if_neg (by omega)]
          congr 2
          omega
end
end Go.Fx
