/- Stable sorting, plain: merging by a key, the sorted list, how lists of parts change under swaps. Plain: connected nodes, and the least node of each component. Plain: partitions as lists, forests, their sizes. Plain: the spanning forest of least weight. -/
import Derived.Test.YtkhgglkkdnemlaaZhad
set_option linter.unusedSimpArgs false
set_option linter.unusedVariables false
namespace Go.Fx

section
variable {α : Type} (key : α → Int)
def mg : List α → List α → List α
  | [], ys => ys
  | x :: xs, [] => x :: xs
  | x :: xs, y :: ys => if key x ≤ key y then x :: mg xs (y :: ys) else y :: mg (x :: xs) ys
termination_by xs ys => xs.length + ys.length
theorem mg_nil (xs : List α) : mg key xs [] = xs := by cases xs <;> simp [mg]
theorem nil_mg (xs : List α) : mg key [] xs = xs := by simp [mg]
theorem mg_cons (x : α) (xs : List α) (y : α) (ys : List α) : mg key (x :: xs) (y :: ys) = if key x ≤ key y then x :: mg key xs (y :: ys) else y :: mg key (x :: xs) ys := by
  rw [mg]
theorem mg_len : ∀ (xs ys : List α), (mg key xs ys).length = xs.length + ys.length
  | [], ys => by simp [mg]
  | x :: xs, [] => by simp [mg]
  | x :: xs, y :: ys => by
    rw [mg_cons]
    split
    · simp [mg_len xs (y :: ys)]; omega
    · simp [mg_len (x :: xs) ys]; omega
termination_by xs ys => xs.length + ys.length
theorem mem_mg : ∀ (xs ys : List α) (z : α), z ∈ mg key xs ys ↔ z ∈ xs ∨ z ∈ ys
  | [], ys, z => by simp [mg]
  | x :: xs, [], z => by simp [mg]
  | x :: xs, y :: ys, z => by
    rw [mg_cons]
    split
    · simp only [List.mem_cons, mem_mg xs (y :: ys) z]
      constructor
      · rintro (h | h | h | h) <;> simp [h]
      · rintro ((h | h) | h | h) <;> simp [h]
    · simp only [List.mem_cons, mem_mg (x :: xs) ys z]
      constructor
      · rintro (h | (h | h) | h) <;> simp [h]
      · rintro ((h | h) | h | h) <;> simp [h]
termination_by xs ys => xs.length + ys.length
theorem mg_split : ∀ (X1 Y1 X2 Y2 : List α), (∀ x ∈ X1, ∀ y ∈ Y2, key x ≤ key y) → (∀ y ∈ Y1, ∀ x ∈ X2, key y < key x) → mg key (X1 ++ X2) (Y1 ++ Y2) = mg key X1 Y1 ++ mg key X2 Y2
  | [], [], X2, Y2, _, _ => by simp [nil_mg]
  | [], y :: Y1, [], Y2, _, _ => by simp [nil_mg]
  | [], y :: Y1, x :: X2, Y2, h1, h2 => by
    have h := h2 y (by simp) x (by simp)
    have ih := mg_split [] Y1 (x :: X2) Y2 (by simp) (fun y' hy => h2 y' (by simp [hy]))
    simp only [List.nil_append, nil_mg] at ih ⊢
    rw [List.cons_append, mg_cons, if_neg (by omega), ih]
    rfl
  | x :: X1, [], X2, [], _, _ => by simp [mg_nil]
  | x :: X1, [], X2, y :: Y2, h1, h2 => by
    have h := h1 x (by simp) y (by simp)
    have ih := mg_split X1 [] X2 (y :: Y2) (fun x' hx => h1 x' (by simp [hx])) (by simp)
    simp only [List.nil_append, mg_nil] at ih ⊢
    rw [List.cons_append, mg_cons, if_pos h, ih]
    rfl
  | x :: X1, y :: Y1, X2, Y2, h1, h2 => by
    rw [List.cons_append, List.cons_append, mg_cons, mg_cons]
    split
    · have ih := mg_split X1 (y :: Y1) X2 Y2 (fun x' hx => h1 x' (by simp [hx])) h2
      rw [← List.cons_append, ih]
      rfl
    · have ih := mg_split (x :: X1) Y1 X2 Y2 h1 (fun y' hy => h2 y' (by simp [hy]))
      rw [← List.cons_append, ih]
      rfl
termination_by X1 Y1 => X1.length + Y1.length
theorem mg_assoc : ∀ (X Y Z : List α), mg key (mg key X Y) Z = mg key X (mg key Y Z)
  | [], Y, Z => by simp [nil_mg]
  | x :: X, [], Z => by simp [mg_nil, nil_mg]
  | x :: X, y :: Y, [] => by simp [mg_nil]
  | x :: X, y :: Y, z :: Z => by
    by_cases hxy : key x ≤ key y
    · by_cases hyz : key y ≤ key z
      · have ih := mg_assoc X (y :: Y) (z :: Z)
        rw [mg_cons key x X y Y, if_pos hxy, mg_cons, if_pos (by omega), ih, mg_cons key y Y z Z, if_pos hyz, mg_cons, if_pos hxy]
      · by_cases hxz : key x ≤ key z
        · have ih := mg_assoc X (y :: Y) (z :: Z)
          rw [mg_cons key x X y Y, if_pos hxy, mg_cons, if_pos hxz, ih, mg_cons key y Y z Z, if_neg hyz, mg_cons, if_pos hxz]
        · have ih := mg_assoc (x :: X) (y :: Y) Z
          rw [mg_cons key x X y Y, if_pos hxy] at ih ⊢
          rw [mg_cons, if_neg hxz, ih, mg_cons key y Y z Z, if_neg hyz, mg_cons, if_neg hxz]
    · by_cases hyz : key y ≤ key z
      · have ih := mg_assoc (x :: X) Y (z :: Z)
        rw [mg_cons key x X y Y, if_neg hxy, mg_cons, if_pos hyz, ih, mg_cons key y Y z Z, if_pos hyz, mg_cons, if_neg hxy]
      · have ih := mg_assoc (x :: X) (y :: Y) Z
        rw [mg_cons key x X y Y, if_neg hxy] at ih ⊢
        rw [mg_cons, if_neg hyz, ih, mg_cons key y Y z Z, if_neg hyz, mg_cons, if_neg (by omega)]
termination_by X Y Z => X.length + Y.length + Z.length

/-- ascending -/
def Asc (l : List α) : Prop := l.Pairwise (fun a b => key a ≤ key b)
theorem Asc.mg : ∀ {X Y : List α}, Asc key X → Asc key Y → Asc key (mg key X Y)
  | [], Y, _, hY => by simpa [nil_mg] using hY
  | x :: X, [], hX, _ => by simpa [mg_nil] using hX
  | x :: X, y :: Y, hX, hY => by
    have hX' := List.pairwise_cons.1 hX
    have hY' := List.pairwise_cons.1 hY
    rw [mg_cons]
    split
    · refine List.pairwise_cons.2 ⟨fun z hz => ?_, Asc.mg hX'.2 hY⟩
      rcases (mem_mg key _ _ _).1 hz with hz | hz
      · exact hX'.1 z hz
      · rcases List.mem_cons.1 hz with rfl | hz
        · assumption
        · have := hY'.1 z hz; omega
    · refine List.pairwise_cons.2 ⟨fun z hz => ?_, Asc.mg hX hY'.2⟩
      rcases (mem_mg key _ _ _).1 hz with hz | hz
      · rcases List.mem_cons.1 hz with rfl | hz
        · omega
        · have := hX'.1 z hz; omega
      · exact hY'.1 z hz
termination_by X Y => X.length + Y.length
/-- the stable order -/
def srt (l : List α) : List α := l.foldl (fun acc x => mg key acc [x]) []
theorem srt_nil : srt key ([] : List α) = [] := rfl
theorem srt_snoc (l : List α) (x : α) : srt key (l ++ [x]) = mg key (srt key l) [x] := by simp [srt, List.foldl_append]
theorem srt_append (A : List α) : ∀ (n : Nat) (B : List α), B.length = n → srt key (A ++ B) = mg key (srt key A) (srt key B)
  | 0, B, hB => by
    have : B = [] := List.eq_nil_of_length_eq_zero hB
    subst this
    simp [srt_nil, mg_nil]
  | n + 1, B, hB => by
    have hne : B ≠ [] := by intro h; subst h; simp at hB
    obtain ⟨B', x, rfl⟩ : ∃ B' x, B = B' ++ [x] := ⟨B.dropLast, B.getLast hne, (List.dropLast_concat_getLast hne).symm⟩
    rw [← List.append_assoc, srt_snoc, srt_snoc, srt_append A n B' (by simpa using hB), mg_assoc]
theorem srt_asc_n : ∀ (n : Nat) (l : List α), l.length = n → Asc key (srt key l) ∧ (srt key l).length = l.length
  | 0, l, h => by
    have : l = [] := List.eq_nil_of_length_eq_zero h
    subst this
    exact ⟨List.Pairwise.nil, rfl⟩
  | n + 1, l, h => by
    have hne : l ≠ [] := by intro e; subst e; simp at h
    obtain ⟨B', x, rfl⟩ : ∃ B' x, l = B' ++ [x] := ⟨l.dropLast, l.getLast hne, (List.dropLast_concat_getLast hne).symm⟩
    have ih := srt_asc_n n B' (by simpa using h)
    rw [srt_snoc]
    exact ⟨Asc.mg key ih.1 (List.pairwise_singleton _ _), by rw [mg_len, ih.2]; simp⟩
theorem srt_asc (l : List α) : Asc key (srt key l) := (srt_asc_n key _ l rfl).1
theorem srt_len (l : List α) : (srt key l).length = l.length := (srt_asc_n key _ l rfl).2
theorem srt_mem (z : α) : ∀ (n : Nat) (l : List α), l.length = n → (z ∈ srt key l ↔ z ∈ l)
  | 0, l, h => by
    have : l = [] := List.eq_nil_of_length_eq_zero h
    subst this
    simp [srt_nil]
  | n + 1, l, h => by
    have hne : l ≠ [] := by intro e; subst e; simp at h
    obtain ⟨B', x, rfl⟩ : ∃ B' x, l = B' ++ [x] := ⟨l.dropLast, l.getLast hne, (List.dropLast_concat_getLast hne).symm⟩
    rw [srt_snoc, mem_mg, srt_mem z n B' (by simpa using h)]
    simp
/-- where one element belongs -/
theorem mg_one {P1 P2 : List α} {x : α} (h1 : ∀ y ∈ P1, key y ≤ key x) (h2 : ∀ y ∈ P2, key x < key y) : mg key (P1 ++ P2) [x] = P1 ++ x :: P2 := by
  have := mg_split key P1 [] P2 [x] (fun a ha b hb => by simp at hb; subst hb; exact h1 a ha) (by simp)
  simp only [List.nil_append, mg_nil] at this
  rw [this]
  congr 1
  have := mg_split key [] [x] P2 [] (by simp) (fun y hy a ha => by simp at hy; subst hy; exact h2 a ha)
  simpa [nil_mg, mg_nil] using this
theorem one_mg {P1 P2 : List α} {x : α} (h1 : ∀ y ∈ P1, key y < key x) (h2 : ∀ y ∈ P2, key x ≤ key y) : mg key [x] (P1 ++ P2) = P1 ++ x :: P2 := by
  have := mg_split key [] P1 [x] P2 (by simp) (fun y hy a ha => by simp at ha; subst ha; exact h1 y hy)
  simp only [List.nil_append, nil_mg] at this
  rw [this]
  congr 1
  have := mg_split key [x] [] [] P2 (fun a ha b hb => by simp at ha; subst ha; exact h2 b hb) (by simp)
  simpa [nil_mg, mg_nil] using this
theorem Asc.left {A B : List α} (h : Asc key (A ++ B)) : Asc key A := (List.pairwise_append.1 h).1
theorem Asc.right {A B : List α} (h : Asc key (A ++ B)) : Asc key B := (List.pairwise_append.1 h).2.1
theorem Asc.cross {A B : List α} (h : Asc key (A ++ B)) : ∀ a ∈ A, ∀ b ∈ B, key a ≤ key b := (List.pairwise_append.1 h).2.2
theorem Asc.at [Inhabited α] {l : List α} (h : Asc key l) {i j : Nat} (hij : i ≤ j) (hj : j < l.length) : key (gt l (i : Int)) ≤ key (gt l (j : Int)) := by
  rw [gt_get hj, gt_get (show i < l.length by omega)]
  by_cases e : i = j
  · subst e; exact Int.le_refl _
  · exact List.pairwise_iff_getElem.1 h i j _ _ (by omega)

/- parts -/
theorem gt_app [Inhabited α] (A B : List α) (k : Nat) : gt (A ++ B) (k : Int) = if k < A.length then gt A (k : Int) else gt B ((k - A.length : Nat) : Int) := by
  rw [gt_nat, gt_nat, gt_nat]
  simp only [List.getD]
  split
  · rename_i h; rw [List.getElem?_append_left h]
  · rename_i h; rw [List.getElem?_append_right (by omega)]
theorem gt_at [Inhabited α] {A B : List α} {x : α} {i : Int} (h : i = A.length) : gt (A ++ x :: B) i = x := by
  subst h
  rw [gt_app, if_neg (by omega)]
  simp [gt]
theorem st_at {A B : List α} {x y : α} {i : Int} (h : i = A.length) : st (A ++ x :: B) i y = A ++ y :: B := by
  subst h
  simp [st]
/-- neighbours exchanged -/
theorem swap2 {A B : List α} {x y : α} {i j : Int} (hi : i = A.length) (hj : j = A.length + 1) : st (st (A ++ x :: y :: B) i y) j x = A ++ y :: x :: B := by
  rw [st_at hi]
  have : A ++ y :: y :: B = (A ++ [y]) ++ y :: B := by simp
  rw [this, st_at (by simp; omega)]
  simp
theorem swap2' {A B : List α} {x y : α} {i j : Int} (hi : i = A.length) (hj : j = A.length + 1) : st (st (A ++ x :: y :: B) j x) i y = A ++ y :: x :: B := by
  have : A ++ x :: y :: B = (A ++ [x]) ++ y :: B := by simp
  rw [this, st_at (by simp; omega)]
  have : (A ++ [x]) ++ x :: B = A ++ x :: x :: B := by simp
  rw [this, st_at hi]
/-- blocks exchanged, point by point -/
theorem swapBlocks [Inhabited α] {P U V W S D : List α} (hUW : U.length = W.length) (hl : D.length = (P ++ U ++ V ++ W ++ S).length)
    (h : ∀ k : Nat, k < D.length → gt D (k : Int) = if P.length ≤ k ∧ k < P.length + U.length then gt (P ++ U ++ V ++ W ++ S) ((k + U.length + V.length : Nat) : Int)
      else if P.length + U.length + V.length ≤ k ∧ k < P.length + U.length + V.length + W.length then gt (P ++ U ++ V ++ W ++ S) ((k - (U.length + V.length) : Nat) : Int) else gt (P ++ U ++ V ++ W ++ S) (k : Int)) :
    D = P ++ W ++ V ++ U ++ S := by
  have hl2 : D.length = P.length + U.length + V.length + W.length + S.length := by rw [hl]; simp [Nat.add_assoc]
  apply List.ext_getElem
  · rw [hl2]; simp; omega
  intro k h1 h2
  have e := h k h1
  rw [gt_get h1] at e
  rw [e, ← gt_get h2]
  simp only [gt_app, List.length_append]
  split <;> rename_i c1
  · rw [if_neg (show ¬ k + U.length + V.length < P.length + U.length + V.length by omega), if_pos (show k + U.length + V.length < P.length + U.length + V.length + W.length by omega)]
    rw [if_neg (show ¬ k < P.length by omega), if_pos (show k < P.length + W.length by omega), if_pos (show k < P.length + W.length + V.length by omega), if_pos (show k < P.length + W.length + V.length + U.length by omega)]
    congr 2
    omega
  · split <;> rename_i c2
    · rw [if_pos (show k - (U.length + V.length) < P.length + U.length + V.length + W.length by omega), if_pos (show k - (U.length + V.length) < P.length + U.length + V.length by omega), if_pos (show k - (U.length + V.length) < P.length + U.length by omega), if_neg (show ¬ k - (U.length + V.length) < P.length by omega)]
      rw [if_pos (show k < P.length + W.length + V.length + U.length by omega), if_neg (show ¬ k < P.length + W.length + V.length by omega)]
      congr 2
      omega
    · by_cases c3 : k < P.length
      · rw [if_pos (by omega), if_pos (by omega), if_pos (by omega), if_pos c3, if_pos (by omega), if_pos (by omega), if_pos (by omega), if_pos c3]
      · by_cases c4 : k < P.length + U.length + V.length
        · rw [if_pos (by omega), if_pos c4, if_neg (by omega), if_pos (by omega), if_pos (by omega), if_neg (by omega)]
          congr 2
          omega
        · rw [if_neg (by omega), if_neg (by omega)]
          congr 2
          omega
end
end Go.Fx
namespace Go.Proofs.Ytkhgglkkdnemlaa
theorem snocInd {α : Type} {P : List α → Prop} (h0 : P []) (h1 : ∀ l a, P l → P (l ++ [a])) (l : List α) : P l := by
  have : ∀ r : List α, P r.reverse := fun r => by
    induction r with
    | nil => exact h0
    | cons a r ih => rw [List.reverse_cons]; exact h1 _ _ ih
  rw [← List.reverse_reverse l]
  exact this _
/-- connected by some links -/
inductive Con (E : List (Int × Int)) : Int → Int → Prop
  | refl (x : Int) : Con E x x
  | link {a b : Int} : (a, b) ∈ E → Con E a b
  | symm {a b : Int} : Con E a b → Con E b a
  | trans {a b c : Int} : Con E a b → Con E b c → Con E a c
theorem Con.mono {E E' : List (Int × Int)} (h : ∀ e ∈ E, Con E' e.1 e.2) {x y : Int} (hc : Con E x y) : Con E' x y := by
  induction hc with
  | refl x => exact .refl x
  | link h1 => exact h _ h1
  | symm _ ih => exact ih.symm
  | trans _ _ ih1 ih2 => exact ih1.trans ih2
theorem Con.sub {E E' : List (Int × Int)} (h : ∀ e ∈ E, e ∈ E') {x y : Int} (hc : Con E x y) : Con E' x y := hc.mono (fun e he => .link (h e he))
/-- two components become one -/
def mrg (f : Int → Int) (e : Int × Int) (x : Int) : Int := if f x = max (f e.1) (f e.2) then min (f e.1) (f e.2) else f x
/-- the least node of the component -/
def lo (E : List (Int × Int)) : Int → Int := E.foldl mrg id
theorem lo_nil (x : Int) : lo [] x = x := rfl
theorem lo_snoc (E : List (Int × Int)) (e : Int × Int) : lo (E ++ [e]) = mrg (lo E) e := by simp [lo, List.foldl_append]
theorem lo_le (E : List (Int × Int)) (x : Int) : lo E x ≤ x := by
  induction E using snocInd with
  | h0 => exact Int.le_refl _
  | h1 E e ih =>
    rw [lo_snoc]
    unfold mrg
    split
    · rename_i h
      omega
    · exact ih
theorem lo_con (E : List (Int × Int)) (x : Int) : Con E x (lo E x) := by
  induction E using snocInd generalizing x with
  | h0 => exact .refl _
  | h1 E e ih =>
    have hs : ∀ {a b : Int}, Con E a b → Con (E ++ [e]) a b := fun h => h.sub (fun e he => by simp [he])
    have hl : Con (E ++ [e]) e.1 e.2 := .link (by simp)
    have h1 := hs (ih e.1)
    have h2 := hs (ih e.2)
    have hx := hs (ih x)
    have h12 : Con (E ++ [e]) (lo E e.1) (lo E e.2) := h1.symm.trans (hl.trans h2)
    rw [lo_snoc]
    unfold mrg
    split
    · rename_i h
      rcases Int.le_total (lo E e.1) (lo E e.2) with h3 | h3
      · rw [Int.max_eq_right h3] at h
        rw [Int.min_eq_left h3]
        rw [h] at hx
        exact hx.trans h12.symm
      · rw [Int.max_eq_left h3] at h
        rw [Int.min_eq_right h3]
        rw [h] at hx
        exact hx.trans h12
    · exact hx
theorem mg_eq {f : Int → Int} {e : Int × Int} {x y : Int} (h : f x = f y) : mrg f e x = mrg f e y := by unfold mrg; rw [h]
theorem mg_link (f : Int → Int) (e : Int × Int) : mrg f e e.1 = mrg f e e.2 := by
  unfold mrg
  split <;> split <;> omega
theorem lo_link {E : List (Int × Int)} {e : Int × Int} (h : e ∈ E) : lo E e.1 = lo E e.2 := by
  induction E using snocInd with
  | h0 => simp at h
  | h1 E d ih =>
    rw [lo_snoc]
    rcases List.mem_append.1 h with h | h
    · exact mg_eq (ih h)
    · simp only [List.mem_cons, List.not_mem_nil, or_false] at h
      subst h
      exact mg_link _ _
theorem lo_of {E : List (Int × Int)} {x y : Int} (h : Con E x y) : lo E x = lo E y := by
  induction h with
  | refl x => rfl
  | link h => exact lo_link h
  | symm _ ih => exact ih.symm
  | trans _ _ i1 i2 => exact i1.trans i2
theorem lo_iff {E : List (Int × Int)} {x y : Int} : lo E x = lo E y ↔ Con E x y := ⟨fun h => (lo_con E x).trans (h ▸ (lo_con E y).symm), lo_of⟩
theorem lo_lo (E : List (Int × Int)) (x : Int) : lo E (lo E x) = lo E x := (lo_of (lo_con E x)).symm
theorem lo_min {E : List (Int × Int)} {x y : Int} (h : Con E x y) : lo E x ≤ y := by rw [lo_of h]; exact lo_le E y
theorem lo_congr {E E' : List (Int × Int)} (h : ∀ x y, Con E x y ↔ Con E' x y) (x : Int) : lo E x = lo E' x :=
  Int.le_antisymm (lo_min ((h _ _).2 (lo_con E' x))) (lo_min ((h _ _).1 (lo_con E x)))
/-- links join nodes only -/
def Nds (n : Int) (E : List (Int × Int)) : Prop := ∀ e ∈ E, (0 ≤ e.1 ∧ e.1 < n) ∧ (0 ≤ e.2 ∧ e.2 < n)
theorem lo_rng {n : Int} {E : List (Int × Int)} (hE : Nds n E) {x : Int} (hx : 0 ≤ x ∧ x < n) : 0 ≤ lo E x ∧ lo E x < n := by
  have h := lo_con E x
  have key : ∀ {a b : Int}, Con E a b → ((0 ≤ a ∧ a < n) ↔ (0 ≤ b ∧ b < n)) := fun hc => by
    induction hc with
    | refl x => rfl
    | link h => exact ⟨fun _ => (hE _ h).2, fun _ => (hE _ h).1⟩
    | symm _ ih => exact ih.symm
    | trans _ _ i1 i2 => exact i1.trans i2
  exact (key h).1 hx
/-- how many of the first n nodes have a property -/
def cnt (n : Nat) (p : Int → Bool) : Nat := ((List.range n).filter (fun i : Nat => p (i : Int))).length
theorem cnt_succ (n : Nat) (p : Int → Bool) : cnt (n + 1) p = cnt n p + (if p (n : Int) then 1 else 0) := by
  unfold cnt
  rw [List.range_succ, List.filter_append, List.length_append]
  congr 1
  by_cases h : p (n : Int) <;> simp [List.filter, h]
theorem cnt_le (n : Nat) (p : Int → Bool) : cnt n p ≤ n := by
  have := List.length_filter_le (fun i => p ((i : Nat) : Int)) (List.range n)
  rwa [List.length_range] at this
theorem cnt_true (n : Nat) : cnt n (fun _ => true) = n := by
  unfold cnt
  rw [List.filter_eq_self.2 (fun _ _ => rfl), List.length_range]
theorem cnt_mono {n : Nat} {p q : Int → Bool} (h : ∀ x : Int, 0 ≤ x → x < n → p x = true → q x = true) : cnt n p ≤ cnt n q := by
  induction n with
  | zero => exact Nat.le_refl _
  | succ n ih =>
    rw [cnt_succ, cnt_succ]
    have h1 := ih (fun x h0 hx => h x h0 (by omega))
    have h2 := h (n : Int) (by omega) (by omega)
    cases hp : p (n : Int) <;> cases hq : q (n : Int) <;> simp_all <;> omega
theorem cnt_lt {n : Nat} {p q : Int → Bool} (h : ∀ x : Int, 0 ≤ x → x < n → p x = true → q x = true) {z : Int} (h0 : 0 ≤ z) (hz : z < n) (hp : p z = false) (hq : q z = true) : cnt n p < cnt n q := by
  induction n with
  | zero => omega
  | succ n ih =>
    rw [cnt_succ, cnt_succ]
    have h1 := cnt_mono (n := n) (fun x h0 hx => h x h0 (by omega))
    by_cases e : z = n
    · subst e; rw [hp, hq]; simp; omega
    · have h2 := ih (fun x h0 hx => h x h0 (by omega)) (by omega)
      have h3 := h (n : Int) (by omega) (by omega)
      cases hp : p (n : Int) <;> cases hq : q (n : Int) <;> simp_all <;> omega
theorem cnt_all {n : Nat} {p : Int → Bool} (h : n ≤ cnt n p) : ∀ x : Int, 0 ≤ x → x < n → p x = true := by
  intro x h0 hx
  cases e : p x
  · exfalso
    have := cnt_lt (n := n) (p := p) (q := fun _ => true) (fun _ _ _ _ => rfl) h0 hx e rfl
    have := cnt_le n (fun _ => true)
    omega
  · rfl
/-- one round more makes more nodes right -/
theorem con_cross {E : List (Int × Int)} (p : Int → Bool) {x y : Int} (h : Con E x y) (hne : p x ≠ p y) : ∃ e ∈ E, Con E x e.1 ∧ p e.1 ≠ p e.2 := by
  induction h with
  | refl x => exact absurd rfl hne
  | link h => exact ⟨_, h, .refl _, hne⟩
  | @symm a b h ih =>
    obtain ⟨e, he, h1, h2⟩ := ih (fun e => hne e.symm)
    exact ⟨e, he, h.symm.trans h1, h2⟩
  | @trans a b c h1 h2 i1 i2 =>
    by_cases e : p a = p b
    · obtain ⟨d, hd, h3, h4⟩ := i2 (fun e2 => hne (e.trans e2))
      exact ⟨d, hd, h1.trans h3, h4⟩
    · exact i1 e
/-- what low holds: numbers that are not below the least node -/
structure Lw (n : Nat) (E : List (Int × Int)) (l : Int → Int) : Prop where
  le : ∀ x : Int, 0 ≤ x → x < n → l x ≤ x
  ge : ∀ x : Int, 0 ≤ x → x < n → lo E x ≤ l x
def atL (E : List (Int × Int)) (l : Int → Int) (x : Int) : Bool := decide (l x = lo E x)
theorem Lw.round {n : Nat} {E : List (Int × Int)} {l l' : Int → Int} (hE : Nds n E) (h : Lw n E l) (h' : Lw n E l') (hd : ∀ x : Int, 0 ≤ x → x < n → l' x ≤ l x) (he : ∀ e ∈ E, l' e.1 ≤ l e.2 ∧ l' e.2 ≤ l e.1) {t : Nat} (ht : t ≤ n) (hc : t ≤ cnt n (atL E l)) : min (t + 1) n ≤ cnt n (atL E l') := by
  have hm : ∀ x : Int, 0 ≤ x → x < n → atL E l x = true → atL E l' x = true := fun x h0 hx e => by
    have e := of_decide_eq_true e
    have := h'.ge x h0 hx
    have := hd x h0 hx
    exact decide_eq_true (by omega)
  by_cases ha : n ≤ cnt n (atL E l)
  · have := cnt_mono hm
    omega
  · have : ∃ z : Int, 0 ≤ z ∧ z < n ∧ atL E l z = false := by
      apply Classical.byContradiction
      intro hn
      apply ha
      have h1 : cnt n (fun _ => true) ≤ cnt n (atL E l) := cnt_mono (fun x h0 hx _ => by
        cases e : atL E l x
        · exact absurd ⟨x, h0, hx, e⟩ hn
        · rfl)
      have h2 := cnt_true n
      omega
    obtain ⟨z, h0, hz, hf⟩ := this
    have hlz := lo_rng hE ⟨h0, hz⟩
    have ht1 : atL E l (lo E z) = true := by
      refine decide_eq_true ?_
      have h1 := h.le _ hlz.1 hlz.2
      have h2 := h.ge _ hlz.1 hlz.2
      rw [lo_lo] at h2 ⊢
      omega
    obtain ⟨e, hm1, hc1, hne⟩ := con_cross (atL E l) (lo_con E z) (by rw [hf, ht1]; decide)
    obtain ⟨r1, r2⟩ := hE e hm1
    obtain ⟨g1, g2⟩ := he e hm1
    have hl12 := lo_link hm1
    have : cnt n (atL E l) < cnt n (atL E l') := by
      by_cases e1 : atL E l e.1 = true
      · have e2 : atL E l e.2 = false := by
          cases e2 : atL E l e.2
          · rfl
          · exact absurd (e1.trans e2.symm) hne
        refine cnt_lt hm r2.1 r2.2 e2 (decide_eq_true ?_)
        have := of_decide_eq_true e1
        have := h'.ge _ r2.1 r2.2
        omega
      · have e1 : atL E l e.1 = false := by simpa using e1
        have e2 : atL E l e.2 = true := by
          cases e2 : atL E l e.2
          · exact absurd (e1.trans e2.symm) hne
          · rfl
        refine cnt_lt hm r1.1 r1.2 e1 (decide_eq_true ?_)
        have := of_decide_eq_true e2
        have := h'.ge _ r1.1 r1.2
        omega
    omega
theorem Lw.full {n : Nat} {E : List (Int × Int)} {l : Int → Int} (hc : n ≤ cnt n (atL E l)) : ∀ x : Int, 0 ≤ x → x < n → l x = lo E x := fun x h0 hx => of_decide_eq_true (cnt_all hc x h0 hx)
end Go.Proofs.Ytkhgglkkdnemlaa
namespace Go.Proofs.Ytkhgglkkdnemlaa
open Go Go.Fx
/-- a partition: each node points towards the least of its class -/
structure Rp (n : Nat) (u : List Int) (f : Int → Int) : Prop where
  len : u.length = n
  dn : ∀ x : Int, 0 ≤ x → x < n → 0 ≤ gt u x ∧ gt u x ≤ x
  up : ∀ x : Int, 0 ≤ x → x < n → f (gt u x) = f x
  fx : ∀ x : Int, 0 ≤ x → x < n → gt u x = x → f x = x
theorem Rp.rootN {n : Nat} {u : List Int} {f : Int → Int} (h : Rp n u f) : ∀ m : Nat, ∀ x : Int, 0 ≤ x → x < n → x.toNat < m → (0 ≤ f x ∧ f x ≤ x) ∧ gt u (f x) = f x := by
  intro m
  induction m with
  | zero => intro x _ _ hm; omega
  | succ m ih =>
    intro x h0 hx hm
    by_cases e : gt u x = x
    · rw [h.fx x h0 hx e]
      exact ⟨⟨h0, Int.le_refl _⟩, e⟩
    · have h1 := h.dn x h0 hx
      have h2 := ih (gt u x) h1.1 (by omega) (by omega)
      rw [h.up x h0 hx] at h2
      exact ⟨⟨h2.1.1, by omega⟩, h2.2⟩
theorem Rp.root {n : Nat} {u : List Int} {f : Int → Int} (h : Rp n u f) {x : Int} (h0 : 0 ≤ x) (hx : x < n) : (0 ≤ f x ∧ f x ≤ x) ∧ gt u (f x) = f x := h.rootN (x.toNat + 1) x h0 hx (by omega)
theorem Rp.halve {n : Nat} {u : List Int} {f : Int → Int} (h : Rp n u f) {x : Int} (h0 : 0 ≤ x) (hx : x < n) : Rp n (st u x (gt u (gt u x))) f := by
  have h1 := h.dn x h0 hx
  have h2 := h.dn (gt u x) h1.1 (by omega)
  have hl : 0 ≤ x ∧ x < u.length := by rw [h.len]; exact ⟨h0, hx⟩
  have key : ∀ y : Int, 0 ≤ y → y < n → gt (st u x (gt u (gt u x))) y = if y = x then gt u (gt u x) else gt u y := fun y hy _ => gt_st _ hl hy
  refine ⟨by rw [st_len, h.len], fun y hy0 hy => ?_, fun y hy0 hy => ?_, fun y hy0 hy e => ?_⟩
  · rw [key y hy0 hy]
    have := h.dn y hy0 hy
    split <;> omega
  · rw [key y hy0 hy]
    split
    · rename_i e; subst e
      rw [h.up _ h1.1 (by omega), h.up _ hy0 hy]
    · exact h.up y hy0 hy
  · rw [key y hy0 hy] at e
    split at e
    · rename_i e2; subst e2
      exact h.fx _ hy0 hy (by omega)
    · exact h.fx y hy0 hy e
theorem Rp.join {n : Nat} {u : List Int} {f : Int → Int} (h : Rp n u f) {e : Int × Int} (h1 : 0 ≤ e.1 ∧ e.1 < n) (h2 : 0 ≤ e.2 ∧ e.2 < n) : Rp n (st u (max (f e.1) (f e.2)) (min (f e.1) (f e.2))) (mrg f e) := by
  have r1 := h.root h1.1 h1.2
  have r2 := h.root h2.1 h2.2
  obtain ⟨a, ha⟩ : ∃ a, f e.1 = a := ⟨_, rfl⟩
  obtain ⟨b, hb⟩ : ∃ b, f e.2 = b := ⟨_, rfl⟩
  unfold mrg
  rw [ha] at r1
  rw [hb] at r2
  rw [ha, hb]
  have hM : 0 ≤ max a b ∧ max a b < n := by omega
  have hl : 0 ≤ max a b ∧ max a b < u.length := by rw [h.len]; exact hM
  have key : ∀ y : Int, 0 ≤ y → y < n → gt (st u (max a b) (min a b)) y = if y = max a b then min a b else gt u y := fun y hy _ => gt_st _ hl hy
  have fa : f a = a := h.fx a r1.1.1 (by omega) r1.2
  have fb : f b = b := h.fx b r2.1.1 (by omega) r2.2
  have fM : f (max a b) = max a b := by
    rcases Int.le_total a b with h3 | h3
    · rw [Int.max_eq_right h3]; exact fb
    · rw [Int.max_eq_left h3]; exact fa
  have fm : f (min a b) = min a b := by
    rcases Int.le_total a b with h3 | h3
    · rw [Int.min_eq_left h3]; exact fa
    · rw [Int.min_eq_right h3]; exact fb
  refine ⟨by rw [st_len, h.len], fun y hy0 hy => ?_, fun y hy0 hy => ?_, fun y hy0 hy e => ?_⟩
  · rw [key y hy0 hy]
    have := h.dn y hy0 hy
    split <;> omega
  · rw [key y hy0 hy]
    split
    · rename_i e; subst e
      rw [fM, fm]
      simp
    · rw [h.up y hy0 hy]
  · rw [key y hy0 hy] at e
    split at e
    · rename_i e2
      rw [e2, fM, if_pos rfl]
      omega
    · have := h.fx y hy0 hy e
      rw [this, if_neg (by assumption)]
/-- the partition into single nodes -/
theorem Rp.new (n : Nat) : Rp n ((List.range n).map (fun i => ((i : Nat) : Int))) id := by
  have key : ∀ x : Int, 0 ≤ x → x < n → gt ((List.range n).map (fun i => ((i : Nat) : Int))) x = x := fun x h0 hx => by
    obtain ⟨y, rfl⟩ : ∃ y : Nat, x = y := ⟨x.toNat, by omega⟩
    rw [gt_get (by simp; omega)]
    simp
  refine ⟨by simp, fun x h0 hx => ?_, fun x h0 hx => ?_, fun x h0 hx _ => rfl⟩
  · rw [key x h0 hx]; omega
  · rw [key x h0 hx]
/-- each link joins two components -/
def Fst : List (Int × Int) → List (Int × Int) → Prop
  | _, [] => True
  | E, e :: F => ¬ Con E e.1 e.2 ∧ Fst (E ++ [e]) F
theorem Fst.snoc {E F : List (Int × Int)} {e : Int × Int} : Fst E (F ++ [e]) ↔ Fst E F ∧ ¬ Con (E ++ F) e.1 e.2 := by
  induction F generalizing E with
  | nil => simp [Fst]
  | cons d F ih =>
    rw [List.cons_append, Fst, Fst, ih, List.append_assoc, List.singleton_append]
    exact ⟨fun ⟨a, b, c⟩ => ⟨⟨a, b⟩, c⟩, fun ⟨⟨a, b⟩, c⟩ => ⟨a, b, c⟩⟩
/-- the number of components -/
def cmps (n : Nat) (E : List (Int × Int)) : Nat := cnt n (fun x => decide (lo E x = x))
theorem cmps_nil (n : Nat) : cmps n [] = n := by
  rw [cmps, show (fun x => decide (lo [] x = x)) = (fun _ => true) from funext (fun x => decide_eq_true (lo_nil x))]
  exact cnt_true n
theorem cnt_congr {n : Nat} {p q : Int → Bool} (h : ∀ x : Int, 0 ≤ x → x < n → p x = q x) : cnt n p = cnt n q :=
  Nat.le_antisymm (cnt_mono (fun x h0 hx e => (h x h0 hx) ▸ e)) (cnt_mono (fun x h0 hx e => (h x h0 hx).symm ▸ e))
theorem cnt_del {n : Nat} {p q : Int → Bool} {z : Int} (h0 : 0 ≤ z) (hz : z < n) (hp : p z = false) (hq : q z = true) (h : ∀ x : Int, 0 ≤ x → x < n → x ≠ z → p x = q x) : cnt n p + 1 = cnt n q := by
  induction n with
  | zero => omega
  | succ n ih =>
    rw [cnt_succ, cnt_succ]
    by_cases e : z = n
    · subst e
      rw [hp, hq, cnt_congr (n := n) (fun x h0 hx => h x h0 (by omega) (by omega))]
      rfl
    · have h1 := ih (by omega) (fun x h0 hx hn => h x h0 (by omega) hn)
      rw [h (n : Int) (by omega) (by omega) (fun e2 => e e2.symm)]
      omega
theorem cmps_snoc {n : Nat} {E : List (Int × Int)} {e : Int × Int} (hE : Nds n E) (h1 : 0 ≤ e.1 ∧ e.1 < n) (h2 : 0 ≤ e.2 ∧ e.2 < n) (hn : ¬ Con E e.1 e.2) : cmps n (E ++ [e]) + 1 = cmps n E := by
  have r1 := lo_rng hE h1
  have r2 := lo_rng hE h2
  have hne : lo E e.1 ≠ lo E e.2 := fun h => hn (lo_iff.1 h)
  refine cnt_del (z := max (lo E e.1) (lo E e.2)) (by omega) (by omega) (decide_eq_false ?_) (decide_eq_true ?_) (fun x h0 hx hxz => ?_)
  · rw [lo_snoc]
    unfold mrg
    split
    · omega
    · rename_i h
      exact fun h3 => h h3
  · rcases Int.le_total (lo E e.1) (lo E e.2) with h3 | h3
    · rw [Int.max_eq_right h3, lo_lo]
    · rw [Int.max_eq_left h3, lo_lo]
  · apply decide_eq_decide.2
    rw [lo_snoc]
    unfold mrg
    split
    · rename_i h
      constructor
      · intro h3
        exfalso
        have hl := lo_le E x
        omega
      · intro h3
        exact absurd (h3.symm.trans h) hxz
    · exact Iff.rfl
theorem Nds.snoc {n : Int} {E : List (Int × Int)} {e : Int × Int} : Nds n (E ++ [e]) ↔ Nds n E ∧ ((0 ≤ e.1 ∧ e.1 < n) ∧ (0 ≤ e.2 ∧ e.2 < n)) := by
  simp only [Nds, List.mem_append, List.mem_cons, List.not_mem_nil, or_false]
  exact ⟨fun h => ⟨fun d hd => h d (.inl hd), h e (.inr rfl)⟩, fun h d hd => hd.elim (h.1 d) (fun e2 => e2 ▸ h.2)⟩
theorem forest_size {n : Nat} {F : List (Int × Int)} (hF : Nds n F) (hf : Fst [] F) : F.length + cmps n F = n := by
  induction F using snocInd with
  | h0 => rw [cmps_nil]; simp
  | h1 F e ih =>
    obtain ⟨h1, h2, h3⟩ := Nds.snoc.1 hF
    obtain ⟨h4, h5⟩ := Fst.snoc.1 hf
    have := ih h1 h4
    have := cmps_snoc h1 h2 h3 h5
    rw [List.length_append, List.length_singleton]
    omega
/-- sums of numbers cut off at t -/
def cutS (t : Int) : List Int → Int
  | [] => 0
  | x :: r => min x t + cutS t r
def sumI : List Int → Int
  | [] => 0
  | x :: r => x + sumI r
def upTo (t : Int) (l : List Int) : Nat := (l.filter (fun x => decide (x ≤ t))).length
end Go.Proofs.Ytkhgglkkdnemlaa
namespace Go.Proofs.Ytkhgglkkdnemlaa
open Go Go.Fx
structure LK where
  a : Int
  b : Int
  w : Int
instance : Inhabited LK := ⟨⟨0, 0, 0⟩⟩
/-- the ends of a link -/
def pr (ms : List LK) (k : Int) : Int × Int := ((gt ms k).a, (gt ms k).b)
def es (ms : List LK) (l : List Int) : List (Int × Int) := l.map (pr ms)
def wt (ms : List LK) (k : Int) : Int := (gt ms k).w
def rg (n : Nat) : List Int := (List.range n).map (fun i => ((i : Nat) : Int))
theorem mem_rg {n : Nat} {k : Int} : k ∈ rg n ↔ 0 ≤ k ∧ k < n := by
  simp only [rg, List.mem_map, List.mem_range]
  exact ⟨fun ⟨i, h1, h2⟩ => by omega, fun h => ⟨k.toNat, by omega, by omega⟩⟩
theorem rg_len (n : Nat) : (rg n).length = n := by simp [rg]
theorem rg_succ (n : Nat) : rg (n + 1) = rg n ++ [(n : Int)] := by simp [rg, List.range_succ]
theorem rg_pw (n : Nat) : (rg n).Pairwise (· < ·) := by
  induction n with
  | zero => exact List.Pairwise.nil
  | succ n ih =>
    rw [rg_succ, List.pairwise_append]
    exact ⟨ih, List.pairwise_singleton _ _, fun a ha b hb => by
      rw [mem_rg] at ha
      simp only [List.mem_cons, List.not_mem_nil, or_false] at hb
      omega⟩
/-- sorted lists with the same elements are equal -/
theorem sorted_eq {α : Type} {r : α → α → Prop} (ir : ∀ a, ¬ r a a) (as : ∀ a b, r a b → ¬ r b a) {l l' : List α} (h : l.Pairwise r) (h' : l'.Pairwise r) (hm : ∀ x, x ∈ l ↔ x ∈ l') : l = l' := by
  induction l generalizing l' with
  | nil =>
    cases l' with
    | nil => rfl
    | cons b l' => exact absurd ((hm b).2 (by simp)) (by simp)
  | cons a l ih =>
    cases l' with
    | nil => exact absurd ((hm a).1 (by simp)) (by simp)
    | cons b l' =>
      obtain ⟨h1, h2⟩ := List.pairwise_cons.1 h
      obtain ⟨h3, h4⟩ := List.pairwise_cons.1 h'
      have hab : a = b := by
        rcases List.mem_cons.1 ((hm a).1 (by simp)) with e | e
        · exact e
        · rcases List.mem_cons.1 ((hm b).2 (by simp)) with e2 | e2
          · exact e2.symm
          · exact absurd (h1 b e2) (as _ _ (h3 a e))
      subst hab
      congr 1
      refine ih h2 h4 (fun x => ⟨fun hx => ?_, fun hx => ?_⟩)
      · rcases List.mem_cons.1 ((hm x).1 (by simp [hx])) with e | e
        · subst e; exact absurd (h1 x hx) (ir x)
        · exact e
      · rcases List.mem_cons.1 ((hm x).2 (by simp [hx])) with e | e
        · subst e; exact absurd (h3 x hx) (ir x)
        · exact e
/-- the order of the links -/
def kl (ms : List LK) (a b : Int) : Prop := wt ms a < wt ms b ∨ wt ms a = wt ms b ∧ a < b
theorem kl_ir (ms : List LK) (a : Int) : ¬ kl ms a a := by unfold kl; omega
theorem kl_as (ms : List LK) (a b : Int) : kl ms a b → ¬ kl ms b a := by unfold kl; omega
/-- the links that join components, one after the other -/
def kst (ms : List LK) (c : List Int) (k : Int) : List Int := if lo (es ms c) (pr ms k).1 = lo (es ms c) (pr ms k).2 then c else c ++ [k]
def kr (ms : List LK) (l : List Int) : List Int := l.foldl (kst ms) []
theorem kr_snoc (ms : List LK) (l : List Int) (k : Int) : kr ms (l ++ [k]) = kst ms (kr ms l) k := by simp [kr, List.foldl_append]
theorem es_snoc (ms : List LK) (l : List Int) (k : Int) : es ms (l ++ [k]) = es ms l ++ [pr ms k] := by simp [es]
theorem es_len (ms : List LK) (l : List Int) : (es ms l).length = l.length := by simp [es]
theorem es_mem {ms : List LK} {l l' : List Int} (h : ∀ k ∈ l, k ∈ l') : ∀ e ∈ es ms l, e ∈ es ms l' := fun e he => by
  obtain ⟨k, hk, rfl⟩ := List.mem_map.1 he
  exact List.mem_map_of_mem (h k hk)
theorem kr_mem {ms : List LK} {l : List Int} {k : Int} (h : k ∈ kr ms l) : k ∈ l := by
  induction l using snocInd with
  | h0 => exact h
  | h1 l a ih =>
    rw [kr_snoc] at h
    unfold kst at h
    split at h
    · exact List.mem_append.2 (.inl (ih h))
    · rcases List.mem_append.1 h with h | h
      · exact List.mem_append.2 (.inl (ih h))
      · exact List.mem_append.2 (.inr h)
theorem kr_fst (ms : List LK) (l : List Int) : Fst [] (es ms (kr ms l)) := by
  induction l using snocInd with
  | h0 => trivial
  | h1 l a ih =>
    rw [kr_snoc]
    unfold kst
    split
    · exact ih
    · rename_i h
      rw [es_snoc]
      exact Fst.snoc.2 ⟨ih, fun hc => h (lo_iff.2 hc)⟩
theorem kr_nodup {ms : List LK} {l : List Int} (h : l.Nodup) : (kr ms l).Nodup := by
  induction l using snocInd with
  | h0 => exact List.nodup_nil
  | h1 l a ih =>
    rw [List.nodup_append] at h
    rw [kr_snoc]
    unfold kst
    split
    · exact ih h.1
    · rw [List.nodup_append]
      exact ⟨ih h.1, by simp, fun x hx y hy => h.2.2 x (kr_mem hx) y hy⟩
end Go.Proofs.Ytkhgglkkdnemlaa
