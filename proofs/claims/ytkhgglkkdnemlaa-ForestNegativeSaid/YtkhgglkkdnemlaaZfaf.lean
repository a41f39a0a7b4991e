/- Plain: least weights of walks. Plain: a cycle of negative weight by the links that lowered last. The symbolic heap, continued: regions with stores behind all reads, cells with a tail, rows as blocks. The symbolic heap, continued: drawn regions that lean on a part of the heap. -/
import Derived.Test.YtkhgglkkdnemlaaZfae
import Derived.Test.YtkhgglkkdnemlaaZfad
set_option linter.unusedSimpArgs false
set_option linter.unusedVariables false
namespace Go.Proofs.Ytkhgglkkdnemlaa
open Go Go.Fx
/-- walks from some nodes: number of links, end, weight -/
inductive Wk (ms : List LK) (S : Int → Prop) : Nat → Int → Int → Prop
  | src {s : Int} : S s → Wk ms S 0 s 0
  | step {k : Nat} {u x i : Int} : Wk ms S k u x → 0 ≤ i → i < ms.length → (gt ms i).a = u → Wk ms S (k + 1) (gt ms i).b (x + wt ms i)
/-- links join nodes -/
structure Gd (ms : List LK) (n : Nat) : Prop where
  a : ∀ k : Int, 0 ≤ k → k < ms.length → 0 ≤ (gt ms k).a ∧ (gt ms k).a < n
  b : ∀ k : Int, 0 ≤ k → k < ms.length → 0 ≤ (gt ms k).b ∧ (gt ms k).b < n
  w : ∀ k : Int, 0 ≤ k → k < ms.length → (wt ms k).natAbs ≤ 1073741824
/-- the least weights -/
structure Fix (ms : List LK) (S : Int → Prop) (F : Int → Option Int) : Prop where
  sound : ∀ v x, F v = some x → ∃ j, Wk ms S j v x
  src : ∀ s, S s → ∃ y, F s = some y ∧ y ≤ 0
  closed : ∀ i : Int, 0 ≤ i → i < ms.length → ∀ x, F (gt ms i).a = some x → ∃ y, F (gt ms i).b = some y ∧ y ≤ x + wt ms i
theorem Fix.le {ms : List LK} {S : Int → Prop} {F : Int → Option Int} (hF : Fix ms S F) {j : Nat} {v x : Int} (h : Wk ms S j v x) : ∃ y, F v = some y ∧ y ≤ x := by
  induction h with
  | src h => exact hF.src _ h
  | @step k u x i h h0 hi e ih =>
    obtain ⟨y, h1, h2⟩ := ih
    subst e
    obtain ⟨z, h3, h4⟩ := hF.closed i h0 hi y h1
    exact ⟨z, h3, by omega⟩
theorem Fix.uniq {ms : List LK} {S : Int → Prop} {F G : Int → Option Int} (hF : Fix ms S F) (hG : Fix ms S G) (v : Int) : F v = G v := by
  cases e : F v with
  | none =>
    cases e2 : G v with
    | none => rfl
    | some y =>
      obtain ⟨j, h⟩ := hG.sound _ _ e2
      obtain ⟨z, h1, _⟩ := hF.le h
      rw [e] at h1; simp at h1
  | some x =>
    obtain ⟨j, h⟩ := hF.sound _ _ e
    obtain ⟨y, h1, h2⟩ := hG.le h
    obtain ⟨j2, h3⟩ := hG.sound _ _ h1
    obtain ⟨z, h4, h5⟩ := hF.le h3
    rw [e] at h4
    rw [h1]
    simp only [Option.some.injEq] at h4 ⊢
    omega
/-- one round -/
structure Rnd (ms : List LK) (D D' : Int → Option Int) : Prop where
  dec : ∀ v x, D v = some x → ∃ y, D' v = some y ∧ y ≤ x
  prog : ∀ i : Int, 0 ≤ i → i < ms.length → ∀ x, D (gt ms i).a = some x → ∃ y, D' (gt ms i).b = some y ∧ y ≤ x + wt ms i
def Snd (ms : List LK) (S : Int → Prop) (T : Nat) (D : Int → Option Int) : Prop := ∀ v x, D v = some x → ∃ j, j ≤ T ∧ Wk ms S j v x
def Src (S : Int → Prop) (D : Int → Option Int) : Prop := ∀ s, S s → ∃ y, D s = some y ∧ y ≤ 0
theorem Rnd.src {ms : List LK} {S : Int → Prop} {D D' : Int → Option Int} (r : Rnd ms D D') (h : Src S D) : Src S D' := fun s hs => by
  obtain ⟨y, h1, h2⟩ := h s hs
  obtain ⟨z, h3, h4⟩ := r.dec s y h1
  exact ⟨z, h3, by omega⟩
theorem fix_keep {ms : List LK} {S : Int → Prop} {F D D' : Int → Option Int} {T : Nat} (hF : Fix ms S F) (hs : Snd ms S T D') (hd : ∀ v x, D v = some x → ∃ y, D' v = some y ∧ y ≤ x) {v : Int} (e : D v = F v) : D' v = F v := by
  cases e2 : D' v with
  | none =>
    cases e3 : D v with
    | none => rw [← e, e3]
    | some x => obtain ⟨y, h1, _⟩ := hd v x e3; rw [e2] at h1; simp at h1
  | some y =>
    obtain ⟨j, _, h⟩ := hs _ _ e2
    obtain ⟨z, h1, h2⟩ := hF.le h
    rw [h1] at e
    obtain ⟨y2, h3, h4⟩ := hd v z e
    rw [e2] at h3
    rw [h1]
    simp only [Option.some.injEq] at h3 ⊢
    omega
theorem fix_cross {ms : List LK} {S : Int → Prop} {F D D' : Int → Option Int} {T T' n : Nat} (hg : Gd ms n) (hF : Fix ms S F) (hs : Snd ms S T D) (hs' : Snd ms S T' D') (h0 : Src S D) (r : Rnd ms D D') {j : Nat} {v x : Int} (h : Wk ms S j v x) (hv : F v = some x) (hne : D v ≠ F v) : ∃ z : Int, 0 ≤ z ∧ z < n ∧ D z ≠ F z ∧ D' z = F z := by
  induction h with
  | @src s hs1 =>
    obtain ⟨y, h1, h2⟩ := h0 s hs1
    obtain ⟨j, _, h3⟩ := hs _ _ h1
    obtain ⟨z, h4, h5⟩ := hF.le h3
    rw [hv] at h4
    exfalso
    apply hne
    rw [h1, hv]
    simp only [Option.some.injEq] at h4 ⊢
    omega
  | @step k u x i h h0i hi e ih =>
    subst e
    obtain ⟨y, h1, h2⟩ := hF.le h
    obtain ⟨z, h3, h4⟩ := hF.closed i h0i hi y h1
    rw [hv] at h3
    simp only [Option.some.injEq] at h3
    have hyx : y = x := by omega
    subst hyx
    by_cases hu : D (gt ms i).a = F (gt ms i).a
    · rw [h1] at hu
      obtain ⟨t, h5, h6⟩ := r.prog i h0i hi y hu
      obtain ⟨j2, _, h7⟩ := hs' _ _ h5
      obtain ⟨q, h8, h9⟩ := hF.le h7
      rw [hv] at h8
      simp only [Option.some.injEq] at h8
      refine ⟨(gt ms i).b, (hg.b i h0i hi).1, (hg.b i h0i hi).2, hne, ?_⟩
      rw [h5, hv]
      simp only [Option.some.injEq]
      omega
    · exact ih h1 hu
def gdF (F D : Int → Option Int) (v : Int) : Bool := decide (D v = F v)
theorem fix_grow {ms : List LK} {S : Int → Prop} {F D D' : Int → Option Int} {T T' n : Nat} (hg : Gd ms n) (hF : Fix ms S F) (hs : Snd ms S T D) (hs' : Snd ms S T' D') (h0 : Src S D) (r : Rnd ms D D') {t : Nat} (ht : t ≤ n) (hc : t ≤ cnt n (gdF F D)) : min (t + 1) n ≤ cnt n (gdF F D') := by
  have hm : ∀ x : Int, 0 ≤ x → x < n → gdF F D x = true → gdF F D' x = true := fun x _ _ e => decide_eq_true (fix_keep hF hs' r.dec (of_decide_eq_true e))
  by_cases ha : n ≤ cnt n (gdF F D)
  · have := cnt_mono hm
    omega
  · have : ∃ v : Int, 0 ≤ v ∧ v < n ∧ D v ≠ F v := by
      apply Classical.byContradiction
      intro hn
      apply ha
      have h1 : cnt n (fun _ => true) ≤ cnt n (gdF F D) := cnt_mono (fun x h0 hx _ => decide_eq_true (Classical.byContradiction (fun e => hn ⟨x, h0, hx, e⟩)))
      have h2 := cnt_true n
      omega
    obtain ⟨v, hv0, hvn, hne⟩ := this
    have : ∃ x, F v = some x := by
      cases e : F v with
      | some x => exact ⟨x, rfl⟩
      | none =>
        exfalso
        apply hne
        rw [e]
        cases e2 : D v with
        | none => rfl
        | some y =>
          obtain ⟨j, _, h⟩ := hs _ _ e2
          obtain ⟨z, h1, _⟩ := hF.le h
          rw [e] at h1; simp at h1
    obtain ⟨x, hx⟩ := this
    obtain ⟨j, hw⟩ := hF.sound _ _ hx
    obtain ⟨z, z0, zn, h1, h2⟩ := fix_cross hg hF hs hs' h0 r hw hx hne
    have := cnt_lt hm z0 zn (decide_eq_false h1) (decide_eq_true h2)
    omega
theorem fix_full {n : Nat} {F D : Int → Option Int} (hc : n ≤ cnt n (gdF F D)) : ∀ v : Int, 0 ≤ v → v < n → D v = F v := fun v h0 hv => of_decide_eq_true (cnt_all hc v h0 hv)
/-- reached nodes -/
def rcd (D : Int → Option Int) (v : Int) : Bool := (D v).isSome
theorem rch_grow {ms : List LK} {S : Int → Prop} {D D' : Int → Option Int} {n : Nat} (hg : Gd ms n) (h0 : Src S D) (r : Rnd ms D D') {t : Nat} (ht : t ≤ n) (hc : t ≤ cnt n (rcd D) ∨ ∀ j v x, Wk ms S j v x → rcd D v = true) : min (t + 1) n ≤ cnt n (rcd D') ∨ ∀ j v x, Wk ms S j v x → rcd D' v = true := by
  have hm0 : ∀ x : Int, rcd D x = true → rcd D' x = true := fun x e => by
    obtain ⟨y, hy⟩ := Option.isSome_iff_exists.1 e
    obtain ⟨z, h1, _⟩ := r.dec x y hy
    simp [rcd, h1]
  rcases hc with hc | hc
  · by_cases hall : ∀ j v x, Wk ms S j v x → rcd D v = true
    · exact .inr (fun j v x h => hm0 v (hall j v x h))
    · left
      have : ∃ z : Int, 0 ≤ z ∧ z < n ∧ rcd D z = false ∧ rcd D' z = true := by
        apply Classical.byContradiction
        intro hn
        apply hall
        intro j v x h
        induction h with
        | src h => obtain ⟨y, h1, _⟩ := h0 _ h; simp [rcd, h1]
        | @step k u x i h h0i hi e ih =>
          subst e
          cases e : rcd D (gt ms i).b with
          | true => rfl
          | false =>
            exfalso
            obtain ⟨y, hy⟩ := Option.isSome_iff_exists.1 ih
            obtain ⟨z, h1, _⟩ := r.prog i h0i hi y hy
            exact hn ⟨_, (hg.b i h0i hi).1, (hg.b i h0i hi).2, e, by simp [rcd, h1]⟩
      obtain ⟨z, z0, zn, h1, h2⟩ := this
      have := cnt_lt (fun x _ _ e => hm0 x e) z0 zn h1 h2
      omega
  · exact .inr (fun j v x h => hm0 v (hc j v x h))
/-- least weights exist if the weights are bounded from below -/
theorem fix_exists {ms : List LK} {S : Int → Prop} (hb : ∀ v, ∃ B : Int, ∀ j x, Wk ms S j v x → B ≤ x) : ∃ F, Fix ms S F := by
  have key : ∀ v, (∃ j x, Wk ms S j v x) → ∃ x, (∃ j, Wk ms S j v x) ∧ ∀ j' x', Wk ms S j' v x' → x ≤ x' := fun v => by
    obtain ⟨B, hB⟩ := hb v
    have : ∀ m : Nat, ∀ j x, Wk ms S j v x → (x - B).toNat < m → ∃ x, (∃ j, Wk ms S j v x) ∧ ∀ j' x', Wk ms S j' v x' → x ≤ x' := by
      intro m
      induction m with
      | zero => intro j x _ h; omega
      | succ m ih =>
        intro j x h hm
        by_cases hl : ∃ j' x', Wk ms S j' v x' ∧ x' < x
        · obtain ⟨j', x', h1, h2⟩ := hl
          have := hB _ _ h1
          exact ih j' x' h1 (by omega)
        · exact ⟨x, ⟨j, h⟩, fun j' x' h1 => by
            apply Classical.byContradiction
            intro h2
            exact hl ⟨j', x', h1, by omega⟩⟩
    rintro ⟨j, x, h⟩
    exact this _ j x h (Nat.lt_succ_self _)
  have hch : ∀ v, ∃ o : Option Int, (∀ x, o = some x → (∃ j, Wk ms S j v x) ∧ ∀ j' x', Wk ms S j' v x' → x ≤ x') ∧ ((∃ j x, Wk ms S j v x) → ∃ x, o = some x) := fun v => by
    by_cases h : ∃ j x, Wk ms S j v x
    · obtain ⟨x, h1⟩ := key v h
      exact ⟨some x, fun y e => by simp only [Option.some.injEq] at e; subst e; exact h1, fun _ => ⟨x, rfl⟩⟩
    · exact ⟨none, fun y e => by simp at e, fun h2 => absurd h2 h⟩
  obtain ⟨F, hF⟩ := Classical.axiomOfChoice hch
  refine ⟨F, fun v x e => ((hF v).1 x e).1, fun s hs => ?_, fun i h0 hi x e => ?_⟩
  · obtain ⟨x, hx⟩ := (hF s).2 ⟨0, 0, .src hs⟩
    exact ⟨x, hx, ((hF s).1 x hx).2 _ _ (.src hs)⟩
  · obtain ⟨j, h⟩ := ((hF _).1 x e).1
    have h2 := Wk.step h h0 hi rfl
    obtain ⟨y, hy⟩ := (hF _).2 ⟨_, _, h2⟩
    exact ⟨y, hy, ((hF _).1 y hy).2 _ _ h2⟩
/-- potentials -/
def Pot (ms : List LK) (p : Int → Int) : Prop := ∀ i : Int, 0 ≤ i → i < ms.length → p (gt ms i).b ≤ p (gt ms i).a + wt ms i
theorem Pot.wk {ms : List LK} {S : Int → Prop} {p : Int → Int} {M : Int} (hp : Pot ms p) (hM : ∀ s, S s → p s ≤ M) {j : Nat} {v x : Int} (h : Wk ms S j v x) : p v ≤ M + x := by
  induction h with
  | src h => have := hM _ h; omega
  | @step k u x i h h0 hi e ih => subst e; have := hp i h0 hi; omega
theorem Pot.fix {ms : List LK} {S : Int → Prop} {p : Int → Int} {M : Int} (hp : Pot ms p) (hM : ∀ s, S s → p s ≤ M) : ∃ F, Fix ms S F := fix_exists (fun v => ⟨p v - M, fun j x h => by have := hp.wk hM h; omega⟩)
theorem Wk.bound {ms : List LK} {S : Int → Prop} {n : Nat} (hg : Gd ms n) {j : Nat} {v x : Int} (h : Wk ms S j v x) : x.natAbs ≤ j * 1073741824 := by
  induction h with
  | src h => simp
  | @step k u x i h h0 hi e ih => have := hg.w i h0 hi; omega
/-- a round of numbers from those before -/
def jst (ms : List LK) (D D' : Int → Option Int) (i : Int) (v : Int) : Option Int :=
  if v = (gt ms i).b then
    match D (gt ms i).a with
    | none => D' v
    | some x => match D' v with
      | none => some (x + wt ms i)
      | some y => some (if x + wt ms i < y then x + wt ms i else y)
  else D' v
def jr (ms : List LK) (D : Int → Option Int) : Nat → Int → Option Int
  | 0 => D
  | k + 1 => jst ms D (jr ms D k) (k : Int)
def DK (ms : List LK) (D0 : Int → Option Int) : Nat → Int → Option Int
  | 0 => D0
  | k + 1 => jr ms (DK ms D0 k) ms.length
theorem jst_dec {ms : List LK} {D D' : Int → Option Int} {i v x : Int} (h : D' v = some x) : ∃ y, jst ms D D' i v = some y ∧ y ≤ x := by
  unfold jst
  rw [h]
  split
  · split
    · exact ⟨x, rfl, Int.le_refl _⟩
    · refine ⟨_, rfl, ?_⟩
      split <;> omega
  · exact ⟨x, rfl, Int.le_refl _⟩
theorem jr_dec {ms : List LK} {D : Int → Option Int} {k : Nat} {v x : Int} (h : D v = some x) : ∃ y, jr ms D k v = some y ∧ y ≤ x := by
  induction k with
  | zero => exact ⟨x, h, Int.le_refl _⟩
  | succ k ih =>
    obtain ⟨y, h1, h2⟩ := ih
    obtain ⟨z, h3, h4⟩ := jst_dec (ms := ms) (D := D) (i := (k : Int)) h1
    exact ⟨z, h3, by omega⟩
theorem jst_prog {ms : List LK} {D D' : Int → Option Int} {i x : Int} (h : D (gt ms i).a = some x) : ∃ y, jst ms D D' i (gt ms i).b = some y ∧ y ≤ x + wt ms i := by
  unfold jst
  rw [if_pos rfl, h]
  dsimp only
  split
  · exact ⟨_, rfl, Int.le_refl _⟩
  · refine ⟨_, rfl, ?_⟩
    split <;> omega
theorem jr_prog {ms : List LK} {D : Int → Option Int} {k : Nat} {i : Int} (h0 : 0 ≤ i) (hi : i < k) {x : Int} (h : D (gt ms i).a = some x) : ∃ y, jr ms D k (gt ms i).b = some y ∧ y ≤ x + wt ms i := by
  induction k with
  | zero => omega
  | succ k ih =>
    by_cases e : i = (k : Int)
    · subst e
      exact jst_prog h
    · obtain ⟨y, h1, h2⟩ := ih (by omega)
      obtain ⟨z, h3, h4⟩ := jst_dec (ms := ms) (D := D) (i := (k : Int)) h1
      exact ⟨z, h3, by omega⟩
theorem jr_rnd (ms : List LK) (D : Int → Option Int) : Rnd ms D (jr ms D ms.length) := ⟨fun v x h => jr_dec h, fun i h0 hi x h => jr_prog h0 hi h⟩
theorem jr_snd {ms : List LK} {S : Int → Prop} {D : Int → Option Int} {T : Nat} (h : Snd ms S T D) {k : Nat} (hk : k ≤ ms.length) : Snd ms S (T + 1) (jr ms D k) := by
  induction k with
  | zero =>
    intro v x e
    obtain ⟨j, h1, h2⟩ := h v x e
    exact ⟨j, by omega, h2⟩
  | succ k ih =>
    have ih := ih (by omega)
    intro v x e
    rw [jr, jst] at e
    split at e
    · rename_i hv
      split at e
      · exact ih v x e
      · rename_i y hy
        obtain ⟨j, h1, h2⟩ := h _ _ hy
        have h3 := Wk.step h2 (Int.natCast_nonneg k) (by omega) rfl
        rw [← hv] at h3
        split at e
        · simp only [Option.some.injEq] at e
          subst e
          exact ⟨_, by omega, h3⟩
        · rename_i z hz
          simp only [Option.some.injEq] at e
          split at e
          · subst e; exact ⟨_, by omega, h3⟩
          · subst e; exact ih v _ hz
    · exact ih v x e
theorem DK_snd {ms : List LK} {S : Int → Prop} {D0 : Int → Option Int} (h : Snd ms S 0 D0) (k : Nat) : Snd ms S k (DK ms D0 k) := by
  induction k with
  | zero => exact h
  | succ k ih => exact jr_snd ih (Nat.le_refl _)
theorem DK_rnd (ms : List LK) (D0 : Int → Option Int) (k : Nat) : Rnd ms (DK ms D0 k) (DK ms D0 (k + 1)) := jr_rnd _ _
theorem DK_src {ms : List LK} {S : Int → Prop} {D0 : Int → Option Int} (h : Src S D0) (k : Nat) : Src S (DK ms D0 k) := by
  induction k with
  | zero => exact h
  | succ k ih => exact (DK_rnd ms D0 k).src ih
theorem DK_fix {ms : List LK} {S : Int → Prop} {F D0 : Int → Option Int} {n : Nat} (hg : Gd ms n) (hF : Fix ms S F) (hs : Snd ms S 0 D0) (h0 : Src S D0) {k : Nat} (hk : n ≤ k) : ∀ v : Int, 0 ≤ v → v < n → DK ms D0 k v = F v := by
  have key : ∀ t, t ≤ n → t ≤ cnt n (gdF F (DK ms D0 t)) := fun t => by
    induction t with
    | zero => intro _; omega
    | succ t ih =>
      intro h
      have := fix_grow hg hF (DK_snd hs t) (DK_snd hs (t + 1)) (DK_src h0 t) (DK_rnd ms D0 t) (by omega) (ih (by omega))
      omega
  have key2 : ∀ t, n ≤ cnt n (gdF F (DK ms D0 (n + t))) := fun t => by
    induction t with
    | zero => exact key n (Nat.le_refl _)
    | succ t ih =>
      have := fix_grow hg hF (DK_snd hs _) (DK_snd hs _) (DK_src h0 _) (DK_rnd ms D0 (n + t)) (Nat.le_refl n) ih
      rw [← Nat.add_assoc]
      omega
  obtain ⟨t, rfl⟩ := Nat.exists_eq_add_of_le hk
  exact fix_full (key2 t)
/-- numbers that no round changes are the least weights -/
theorem fix_of {ms : List LK} {S : Int → Prop} {D D' : Int → Option Int} {T n : Nat} (hg : Gd ms n) (hs : Snd ms S T D) (h0 : Src S D) (r : Rnd ms D D') (he : ∀ v : Int, 0 ≤ v → v < n → D' v = D v) : Fix ms S D :=
  ⟨fun v x e => by obtain ⟨j, _, h⟩ := hs v x e; exact ⟨j, h⟩, h0, fun i hi0 hi x e => by
    have := r.prog i hi0 hi x e
    rwa [he _ (hg.b i hi0 hi).1 (hg.b i hi0 hi).2] at this⟩
theorem DK_rch {ms : List LK} {S : Int → Prop} {D0 : Int → Option Int} {n : Nat} (hg : Gd ms n) (hSn : ∀ s, S s → 0 ≤ s ∧ s < n) (hs : Snd ms S 0 D0) (h0 : Src S D0) {v : Int} (hv0 : 0 ≤ v) (hv : v < n) : rcd (DK ms D0 n) v = true ↔ rcd (DK ms D0 (n + 1)) v = true := by
  have key : ∀ t, t ≤ n → (t ≤ cnt n (rcd (DK ms D0 t)) ∨ ∀ j v x, Wk ms S j v x → rcd (DK ms D0 t) v = true) := fun t => by
    induction t with
    | zero => intro _; exact .inl (Nat.zero_le _)
    | succ t ih =>
      intro h
      rcases rch_grow hg (DK_src h0 t) (DK_rnd ms D0 t) (by omega) (ih (by omega)) with h1 | h1
      · exact .inl (by omega)
      · exact .inr h1
  constructor
  · intro h
    obtain ⟨y, hy⟩ := Option.isSome_iff_exists.1 h
    obtain ⟨z, h1, _⟩ := (DK_rnd ms D0 n).dec v y hy
    simp [rcd, h1]
  · intro h
    obtain ⟨y, hy⟩ := Option.isSome_iff_exists.1 h
    obtain ⟨j, _, hw⟩ := DK_snd hs (n + 1) v y hy
    rcases key n (Nat.le_refl _) with h1 | h1
    · exact cnt_all h1 v hv0 hv
    · exact h1 _ _ _ hw
end Go.Proofs.Ytkhgglkkdnemlaa
namespace Go.Proofs.Ytkhgglkkdnemlaa
open Go Go.Fx
/-- the state of a search: numbers, the link that lowered last, when (in links), in which round (0: never) -/
structure NS (ms : List LK) (n : Nat) (r : Nat) (i : Int) (T : Nat) (d ls : Int → Int) (ti rd : Int → Nat) : Prop where
  idx : ∀ v : Int, 0 ≤ v → v < n → 0 < rd v → (0 ≤ ls v ∧ ls v < ms.length) ∧ (gt ms (ls v)).b = v
  inv : ∀ v : Int, 0 ≤ v → v < n → 0 < rd v → d (gt ms (ls v)).a + wt ms (ls v) ≤ d v ∧ (ti v ≤ ti (gt ms (ls v)).a → d (gt ms (ls v)).a + wt ms (ls v) < d v)
  tim : ∀ v : Int, ti v ≤ T
  rnd : ∀ v : Int, 0 ≤ v → v < n → rd v ≤ rd (gt ms (ls v)).a + 1 ∨ rd v = 0
  old : ∀ j : Int, 0 ≤ j → j < ms.length → ∀ q : Nat, q = (if j < i then r else r - 1) → 0 < q → rd (gt ms j).a < q → d (gt ms j).b ≤ d (gt ms j).a + wt ms j
  max : ∀ v : Int, rd v ≤ r
def fset {α : Type} (f : Int → α) (z : Int) (x : α) (v : Int) : α := if v = z then x else f v
theorem fset_at {α : Type} (f : Int → α) (z : Int) (x : α) : fset f z x z = x := if_pos rfl
theorem fset_ne {α : Type} (f : Int → α) {z v : Int} (x : α) (h : v ≠ z) : fset f z x v = f v := if_neg h
theorem NS.next {ms : List LK} {n r T : Nat} {d ls : Int → Int} {ti rd : Int → Nat} (h : NS ms n r (ms.length : Int) T d ls ti rd) : NS ms n (r + 1) 0 T d ls ti rd :=
  ⟨h.idx, h.inv, h.tim, h.rnd, fun j h0 hj q hq => h.old j h0 hj q (by rw [if_neg (by omega)] at hq; rw [if_pos hj, hq]; omega), fun v => Nat.le_succ_of_le (h.max v)⟩
theorem NS.same {ms : List LK} {n r T : Nat} {i : Int} {d ls : Int → Int} {ti rd : Int → Nat} (h : NS ms n r i T d ls ti rd) (hi : ¬ d (gt ms i).a + wt ms i < d (gt ms i).b) : NS ms n r (i + 1) T d ls ti rd :=
  ⟨h.idx, h.inv, h.tim, h.rnd, fun j h0 hj q hq hq0 hlt => by
    by_cases e : j = i
    · subst e; omega
    · refine h.old j h0 hj q ?_ hq0 hlt
      rw [hq]
      by_cases h1 : j < i
      · rw [if_pos (by omega), if_pos h1]
      · rw [if_neg (by omega), if_neg h1], h.max⟩
theorem NS.low {ms : List LK} {n r T : Nat} {i : Int} {d ls : Int → Int} {ti rd : Int → Nat} (hg : Gd ms n) (h : NS ms n r i T d ls ti rd) (hr : 0 < r) (h0 : 0 ≤ i) (hi : i < ms.length) (hl : d (gt ms i).a + wt ms i < d (gt ms i).b) :
    NS ms n r (i + 1) (T + 1) (fset d (gt ms i).b (d (gt ms i).a + wt ms i)) (fset ls (gt ms i).b i) (fset ti (gt ms i).b (T + 1)) (fset rd (gt ms i).b r) := by
  obtain ⟨z, hz⟩ : ∃ z, (gt ms i).b = z := ⟨_, rfl⟩
  obtain ⟨u, hu⟩ : ∃ u, (gt ms i).a = u := ⟨_, rfl⟩
  rw [hz, hu] at hl
  rw [hz, hu]
  have hdle : ∀ v, fset d z (d u + wt ms i) v ≤ d v := fun v => by
    unfold fset; split
    · rename_i e; subst e; omega
    · exact Int.le_refl _
  have hrle : ∀ v, rd v ≤ fset rd z r v := fun v => by
    unfold fset; split
    · exact h.max v
    · exact Nat.le_refl _
  refine ⟨fun v v0 vn hv => ?_, fun v v0 vn hv => ?_, fun v => ?_, fun v v0 vn => ?_, fun j j0 hj q hq hq0 hlt => ?_, fun v => ?_⟩
  · by_cases e : v = z
    · subst e; rw [fset_at]; exact ⟨⟨h0, hi⟩, hz⟩
    · rw [fset_ne _ _ e] at hv ⊢; exact h.idx v v0 vn hv
  · by_cases e : v = z
    · subst e
      rw [fset_at, fset_at, fset_at, hu]
      by_cases e2 : u = v
      · subst e2
        rw [fset_at, fset_at]
        omega
      · rw [fset_ne _ _ e2, fset_ne _ _ e2]
        have := h.tim u
        omega
    · rw [fset_ne _ _ e] at hv
      rw [fset_ne _ _ e, fset_ne _ _ e, fset_ne _ _ e]
      have h1 := h.inv v v0 vn hv
      by_cases e2 : (gt ms (ls v)).a = z
      · rw [e2] at h1 ⊢
        rw [fset_at, fset_at]
        omega
      · rw [fset_ne _ _ e2, fset_ne _ _ e2]
        exact h1
  · unfold fset; split
    · exact Nat.le_refl _
    · exact Nat.le_succ_of_le (h.tim v)
  · by_cases e : v = z
    · subst e
      rw [fset_at, fset_at, hu]
      left
      by_cases h2 : r = 1
      · omega
      · have := hrle u
        apply Classical.byContradiction
        intro hn
        have h3 := h.old i h0 hi (r - 1) (by rw [if_neg (by omega)]) (by omega) (by rw [hu]; omega)
        rw [hz, hu] at h3
        omega
    · rw [fset_ne _ _ e, fset_ne _ _ e]
      have := h.rnd v v0 vn
      have := hrle (gt ms (ls v)).a
      omega
  · by_cases ea : (gt ms j).a = z
    · rw [ea, fset_at] at hlt
      split at hq <;> omega
    · rw [fset_ne _ _ ea] at hlt ⊢
      have h3 := hdle (gt ms j).b
      by_cases e : j = i
      · subst e
        rw [hz, hu, fset_at]
        exact Int.le_refl _
      · have := h.old j j0 hj q (by
          rw [hq]
          by_cases h1 : j < i
          · rw [if_pos (by omega), if_pos h1]
          · rw [if_neg (by omega), if_neg h1]) hq0 hlt
        omega
  · unfold fset; split
    · exact Nat.le_refl _
    · exact h.max v
/-- back along the links that lowered last -/
def bk (ms : List LK) (ls : Int → Int) : Nat → Int → Int
  | 0, v => v
  | k + 1, v => (gt ms (ls (bk ms ls k v))).a
theorem bk_add (ms : List LK) (ls : Int → Int) (a b : Nat) (v : Int) : bk ms ls (a + b) v = bk ms ls b (bk ms ls a v) := by
  induction b with
  | zero => rfl
  | succ b ih => rw [← Nat.add_assoc, bk, bk, ih]
/-- the weight of the first k links on the way back -/
def bw (ms : List LK) (ls : Int → Int) : Nat → Int → Int
  | 0, _ => 0
  | k + 1, v => bw ms ls k v + wt ms (ls (bk ms ls k v))
theorem NS.back {ms : List LK} {n r T : Nat} {i : Int} {d ls : Int → Int} {ti rd : Int → Nat} (h : NS ms n r i T d ls ti rd) {v : Int} {k : Nat} (hk : ∀ j, j < k → (0 ≤ bk ms ls j v ∧ bk ms ls j v < n) ∧ 0 < rd (bk ms ls j v)) :
    d (bk ms ls k v) + bw ms ls k v ≤ d v ∧ (d (bk ms ls k v) + bw ms ls k v < d v ∨ ti (bk ms ls k v) + k ≤ ti v) := by
  induction k with
  | zero => simp [bk, bw]
  | succ k ih =>
    have ih := ih (fun j hj => hk j (by omega))
    obtain ⟨h1, h2⟩ := hk k (by omega)
    have h3 := h.inv _ h1.1 h1.2 h2
    rw [bk, bw]
    by_cases h4 : ti (bk ms ls k v) ≤ ti (gt ms (ls (bk ms ls k v))).a
    · have := h3.2 h4
      omega
    · have := h3.1
      omega
/-- a way back to where it began has a negative weight -/
theorem NS.neg {ms : List LK} {n r T : Nat} {i : Int} {d ls : Int → Int} {ti rd : Int → Nat} (h : NS ms n r i T d ls ti rd) {v : Int} {k : Nat} (hk : ∀ j, j < k → (0 ≤ bk ms ls j v ∧ bk ms ls j v < n) ∧ 0 < rd (bk ms ls j v)) (h0 : 0 < k) (hc : bk ms ls k v = v) : bw ms ls k v < 0 := by
  have := h.back hk
  rw [hc] at this
  omega
theorem NS.chain {ms : List LK} {n r T : Nat} {i : Int} {d ls : Int → Int} {ti rd : Int → Nat} (hg : Gd ms n) (h : NS ms n r i T d ls ti rd) {v : Int} (hv : 0 ≤ v ∧ v < n) (hr : n + 1 ≤ rd v) : ∀ j, j ≤ n → (0 ≤ bk ms ls j v ∧ bk ms ls j v < n) ∧ n + 1 ≤ rd (bk ms ls j v) + j := by
  intro j
  induction j with
  | zero => intro _; exact ⟨hv, hr⟩
  | succ j ih =>
    intro hj
    obtain ⟨h1, h2⟩ := ih (by omega)
    have h3 := h.idx _ h1.1 h1.2 (by omega)
    have h4 := h.rnd _ h1.1 h1.2
    rw [bk]
    exact ⟨hg.a _ h3.1.1 h3.1.2, by omega⟩
/-- among n + 1 nodes two are equal -/
theorem pigeon {n : Nat} {f : Nat → Int} (h : ∀ j, j ≤ n → 0 ≤ f j ∧ f j < n) : ∃ a b, a < b ∧ b ≤ n ∧ f a = f b := by
  apply Classical.byContradiction
  intro hn
  have key : ∀ k, k ≤ n + 1 → k ≤ cnt n (fun x => decide (∃ j, j < k ∧ f j = x)) := fun k => by
    induction k with
    | zero => intro _; omega
    | succ k ih =>
      intro hk
      have h1 := ih (by omega)
      have h2 := h k (by omega)
      have := cnt_lt (n := n) (p := fun x => decide (∃ j, j < k ∧ f j = x)) (q := fun x => decide (∃ j, j < k + 1 ∧ f j = x)) (fun x _ _ e => by
        obtain ⟨j, h3, h4⟩ := of_decide_eq_true e
        exact decide_eq_true ⟨j, by omega, h4⟩) h2.1 h2.2 (decide_eq_false (fun ⟨j, h3, h4⟩ => hn ⟨j, k, h3, by omega, h4⟩)) (decide_eq_true ⟨k, by omega, rfl⟩)
      omega
  have := key (n + 1) (Nat.le_refl _)
  have := cnt_le n (fun x => decide (∃ j, j < n + 1 ∧ f j = x))
  omega
/-- after n steps back one stands on a cycle -/
theorem NS.cycle {ms : List LK} {n r T : Nat} {i : Int} {d ls : Int → Int} {ti rd : Int → Nat} (hg : Gd ms n) (h : NS ms n r i T d ls ti rd) {v : Int} (hv : 0 ≤ v ∧ v < n) (hr : n + 1 ≤ rd v) :
    ∃ p, 0 < p ∧ p ≤ n ∧ bk ms ls p (bk ms ls n v) = bk ms ls n v ∧ (∀ j, j < p → j = 0 ∨ bk ms ls j (bk ms ls n v) ≠ bk ms ls n v) ∧ ∀ j, (0 ≤ bk ms ls j (bk ms ls n v) ∧ bk ms ls j (bk ms ls n v) < n) ∧ 0 < rd (bk ms ls j (bk ms ls n v)) := by
  have hc := h.chain hg hv hr
  obtain ⟨a, b, hab, hb, he⟩ := pigeon (f := fun j => bk ms ls j v) (fun j hj => (hc j hj).1)
  have per : ∀ t, bk ms ls (a + t + (b - a)) v = bk ms ls (a + t) v := fun t => by
    rw [show a + t + (b - a) = b + t from by omega, bk_add, bk_add ms ls a t]
    rw [show bk ms ls b v = bk ms ls a v from he.symm]
  have hex : ∃ p, 0 < p ∧ p ≤ n ∧ bk ms ls p (bk ms ls n v) = bk ms ls n v := ⟨b - a, by omega, by omega, by
    rw [← bk_add]
    have := per (n - a)
    rw [show a + (n - a) = n from by omega] at this
    exact this⟩
  have small : ∀ t, ∃ j, j ≤ n ∧ bk ms ls (a + t) v = bk ms ls j v := fun t => by
    induction t using Nat.strongRecOn with
    | _ t ih =>
      by_cases h1 : a + t ≤ n
      · exact ⟨a + t, h1, rfl⟩
      · obtain ⟨j, h2, h3⟩ := ih (t - (b - a)) (by omega)
        refine ⟨j, h2, ?_⟩
        rw [← h3, ← per (t - (b - a))]
        congr 1
        omega
  have hall : ∀ j, (0 ≤ bk ms ls j (bk ms ls n v) ∧ bk ms ls j (bk ms ls n v) < n) ∧ 0 < rd (bk ms ls j (bk ms ls n v)) := fun j => by
    rw [← bk_add]
    obtain ⟨t, h1, h2⟩ := small (n + j - a)
    rw [show a + (n + j - a) = n + j from by omega] at h2
    rw [h2]
    have := hc t h1
    exact ⟨this.1, by omega⟩
  have hmin : ∀ m : Nat, ∀ p, p < m → 0 < p → p ≤ n → bk ms ls p (bk ms ls n v) = bk ms ls n v → ∃ p, 0 < p ∧ p ≤ n ∧ bk ms ls p (bk ms ls n v) = bk ms ls n v ∧ ∀ j, j < p → j = 0 ∨ bk ms ls j (bk ms ls n v) ≠ bk ms ls n v := by
    intro m
    induction m with
    | zero => intro p h; omega
    | succ m ih =>
      intro p hp h0 hpn he
      by_cases hx : ∃ j, j < p ∧ j ≠ 0 ∧ bk ms ls j (bk ms ls n v) = bk ms ls n v
      · obtain ⟨j, h1, h2, h3⟩ := hx
        exact ih j (by omega) (by omega) (by omega) h3
      · exact ⟨p, h0, hpn, he, fun j hj => by
          apply Classical.byContradiction
          intro hn
          exact hx ⟨j, hj, fun e => hn (.inl e), Classical.byContradiction (fun e => hn (.inr e))⟩⟩
  obtain ⟨p, h0, h1, h2⟩ := hex
  obtain ⟨q, h3, h4, h5, h6⟩ := hmin _ p (Nat.lt_succ_self p) h0 h1 h2
  exact ⟨q, h3, h4, h5, h6, hall⟩
end Go.Proofs.Ytkhgglkkdnemlaa
namespace Go.Fx

/-- a region whose reads all come ahead of what it turns -/
def Cs1 (X : List Nat) (w0 : World) (M : List Ent) (I : List Imm) : Nat → World → Prop
  | 0, w => Mem X w0 M I w
  | _ + 1, _ => True
section
variable {P : Program} {n : Nat} {Q Q' : Exit → Act → World → Prop} {G : Env} {X : List Nat} {w0 : World} {M M' M1 : List Ent} {I I' I1 : List Imm}
theorem TD_drawn1 {id : Nat} {l : List Oper} (p ms : List Nat) (hx : P.follows .mixedOrders = true)
    (hp : (Region.noSelect l.toArray && orderOk l.toArray p ms (Array.replicate l.length false) && p.length == l.length) = true)
    (h : RD P n l Q (.any (Cs1 X w0 M I) 0 ms) (pick l p) G X w0 M I) : TD P n (.region id l.toArray true) Q G X w0 M I :=
  TD_drawnS (Cs1 X w0 M I) p ms hx (fun _ _ _ => True.intro) hp (fun _ h => h) h
theorem View.one {k : Nat} {ms : List Nat} (h : k + ms.headD 0 = 0) : View (.any (Cs1 X w0 M1 I1) k ms) X w0 M I M1 I1 := ⟨fun w w' _ hc => by
  have hc' : Cs1 X w0 M1 I1 (k + ms.headD 0) w' := hc
  rw [h] at hc'
  exact hc'⟩
theorem OkD.one {k : Nat} {ms : List Nat} : OkD (.any (Cs1 X w0 M1 I1) k ms) X w0 M I := ⟨fun _ _ => True.intro⟩

/- cells with a tail -/
theorem At.app {cs tl : List Value} {o : Nat} {v : Value} (h : At cs o v) : At (cs ++ tl) o v := ⟨by
  have := h.get
  rw [List.getElem?_append_left (List.getElem?_eq_some_iff.1 this).1]; exact this⟩
theorem Ats.app {cs tl vs : List Value} {o : Nat} (h : Ats cs o vs) : Ats (cs ++ tl) o vs := ⟨fun j v hj => by
  have := h.get j v hj
  rw [List.getElem?_append_left (List.getElem?_eq_some_iff.1 this).1]; exact this⟩
theorem StAt.app {cs cs' tl : List Value} {o : Nat} {v : Value} (h : StAt cs o v cs') : StAt (cs ++ tl) o v (cs' ++ tl) := by
  obtain ⟨h1, h2⟩ := h.out
  exact ⟨by rw [List.set_append_left _ _ h2, h1], by rw [List.length_append]; omega⟩
theorem StAts.app {cs cs' tl vs : List Value} {o : Nat} (h : StAts cs o vs cs') : StAts (cs ++ tl) o vs (cs' ++ tl) := by
  obtain ⟨h1, h2⟩ := h.out
  refine ⟨?_, by rw [List.length_append]; omega⟩
  unfold splice at *
  rw [List.take_append_of_le_length (by omega), List.drop_append_of_le_length (by omega), ← h1]
  simp
/-- what a row's slice holds, as a block -/
theorem Mem.rowBlk {w : World} {a : Option Addr} {mm c : Nat} {cs : List Value} {e : TypeId} {sz : Nat} (h : Mem X w0 (.row a mm c cs e sz :: M) I w) : (a = none ∧ mm = 0 ∧ cs = []) ∨ ∃ b tl, a = some ⟨b, 0, none⟩ ∧ mm ≤ c ∧ Mem X w0 (.blk b (cs ++ tl) e :: M) I w := by
  have ho : w.ownsRow 0 e sz (.slice a mm c) mm cs := h.ent _ List.mem_cons_self
  rcases ho.2 with ⟨h1, h2⟩ | ⟨g, cap, cur, hv, _, hg, hmc, _, hsz, htake⟩
  · injection h1 with e1 e2 e3
    exact .inl ⟨e1, h2, List.eq_nil_of_length_eq_zero (by rw [ho.1, h2]; simp)⟩
  · injection hv with e1 e2 e3
    subst e1; subst e3
    refine .inr ⟨g, cur.toList.drop (mm * sz), rfl, hmc, ?_⟩
    have hcs : cs ++ cur.toList.drop (mm * sz) = cur.toList := by rw [← htake, List.take_append_drop]
    rw [hcs]
    refine h.upd (en := .row (some ⟨g, 0, none⟩) mm c cs e sz) (en' := .blk g cur.toList e) .here (Ext.refl _ _) (fun b hb => .inl (by simpa [Ent.blocks] using hb)) (by simp [Ent.blocks]) ?_
    show Blk w g cur.toList e
    simpa [Blk] using hg
theorem RD_rowBlk {ops l : List Oper} {m : Mode} {a : Option Addr} {mm c : Nat} {cs : List Value} {e : TypeId} {sz : Nat} (h0 : a = none → mm = 0 → cs = [] → RD P n ops Q m l G X w0 (.row a mm c cs e sz :: M) I) (h1 : ∀ b tl, a = some ⟨b, 0, none⟩ → mm ≤ c → RD P n ops Q m l G X w0 (.blk b (cs ++ tl) e :: M) I) : RD P n ops Q m l G X w0 (.row a mm c cs e sz :: M) I :=
  ⟨fun w hw => by
    rcases hw.rowBlk with ⟨e1, e2, e3⟩ | ⟨b, tl, e1, e2, hm⟩
    · exact (h0 e1 e2 e3).go w hw
    · exact (h1 b tl e1 e2).go w hm⟩
/-- a part of what is read -/
theorem Mem.takeI {w : World} {a : Option Addr} {cs tl : List Value} (h : Mem X w0 M I w) (hm : slI a (cs ++ tl) ∈ I) : Mem X w0 M (slI a cs :: I) w :=
  h.add (φ := slI a cs) ⟨by
    have := (h.sl hm).take cs.length
    rwa [List.take_left] at this⟩
theorem ND_takeI {ex : Exit} {a : Option Addr} {cs tl : List Value} (hm : slI a (cs ++ tl) ∈ I) (h : ND n Q ex G X w0 M (slI a cs :: I)) : ND n Q ex G X w0 M I := ND_m (fun _ hw => hw.takeI hm) h
theorem RD_fact {φ : Prop} {ops l : List Oper} {m : Mode} (h : ∀ w, Mem X w0 M I w → φ) (k : φ → RD P n ops Q m l G X w0 M I) : RD P n ops Q m l G X w0 M I := ⟨fun w hw => (k (h w hw)).go w hw⟩
/-- a call with entries brought to the front -/
theorem CD.sub {f : FuncId} {vs : List Value} {K : Value → List Ent → List Imm → Prop} (hM : SubP M M') (h : CD P f vs X w0 M' I K) : CD P f vs X w0 M I K := h.weak hM .refl
/-- a shift by one to the right -/
theorem Const_half {C : World → Prop} {ty : TypeId} {t t' : TypeId} {x y : Operand} {k k' : IntKind} {a : Int} (hx : ev G x = some (.int k a)) (hy : ev G y = some (.int k' 1)) : Const P n G (.binOp .shr t x y t') ty C (.int k (a / 2)) := by
  refine Const_shift hx hy (by omega) (.inr ⟨rfl, ?_⟩)
  have : min ((1 : Int).toNat) k.bits = 1 := by cases k <;> decide
  rw [this, Int.fdiv_eq_ediv_of_nonneg _ (by decide)]
  rfl
theorem Const_notB {C : World → Prop} {ty : TypeId} {t : TypeId} {x : Operand} {p : Prop} [Decidable p] (hx : ev G x = some (.bool (B p))) : Const P n G (.unOp .not t x) ty C (.bool (B (¬ p))) := by
  have := Const_pure (P := P) (n := n) (G := G) (ty := ty) (C := C) (op := .unOp .not t x) (v := .bool (!(B p))) (by simp [pureV, hx])
  rwa [show (!(B p)) = B (¬ p) by rw [B_eq, B_eq]; simp] at this
/-- reading what is only read, at a block's own address -/
theorem RD_ldIB {ops l : List Oper} {m : Mode} {ty : TypeId} {pos : String} {af : Array Edge} {g : Option (Nat × Bool)} {d : Nat} {t : TypeId} {x : Operand} {b o : Nat} {cs : List Value} {v : Value} [ScalarTy P t] (hv : View m X w0 M I M1 I1) (hx : ev G x = some (.pointer (some ⟨b, o, none⟩))) (hm : slI (some ⟨b, 0, none⟩) cs ∈ I1) (hc : At cs o v) (hg : gst ops G g = some true)
    (hd : Nat.ble (d + 1) n = true) (k : RD P n ops Q m.next l ((d, v) :: G) X w0 M I) : RD P n ops Q m (⟨some d, .load t x, ty, pos, af, g⟩ :: l) G X w0 M I :=
  RD_v hv hg (fun w hw => Const_load hx (fun w' e => by
    subst e
    have := (hw.sl hm).cell hc.get
    simpa [pt, bl, of] using this)) rfl hd k
theorem RD_ldNIB {ops l : List Oper} {m : Mode} {ty : TypeId} {pos : String} {af : Array Edge} {g : Option (Nat × Bool)} {d : Nat} {t : TypeId} {sz : Nat} {x : Operand} {b o : Nat} {cs vs : List Value} [AggTy P t sz] (hv : View m X w0 M I M1 I1) (hx : ev G x = some (.pointer (some ⟨b, o, none⟩))) (hm : slI (some ⟨b, 0, none⟩) cs ∈ I1) (hc : Ats cs o vs) (hl : vs.length = sz) (hg : gst ops G g = some true)
    (hd : Nat.ble (d + 1) n = true) (k : RD P n ops Q m.next l ((d, .agg vs.toArray) :: G) X w0 M I) : RD P n ops Q m (⟨some d, .load t x, ty, pos, af, g⟩ :: l) G X w0 M I :=
  RD_v hv hg (fun w hw => Const_loadN hx hl (fun w' e => by
    subst e
    have := Sl.rowAt (hw.sl hm) o vs hc.get
    simpa [bl, of] using this)) rfl hd k
end
end Go.Fx
namespace Go.Fx
section
variable {P : Program} {n : Nat} {Q Q' : Exit → Act → World → Prop} {G : Env} {X : List Nat} {w0 : World} {M M' M1 : List Ent} {I I' I1 : List Imm}
theorem TD_drawnW {id : Nat} {l : List Oper} (Ms : List Ent) (Is : List Imm) (p ms : List Nat) (hM : SubP M Ms) (hI : Inc I Is) (hx : P.follows .mixedOrders = true)
    (hp : (Region.noSelect l.toArray && orderOk l.toArray p ms (Array.replicate l.length false) && p.length == l.length) = true)
    (h : RD P n l Q (.any (Cst X w0 Ms Is) 0 ms) (pick l p) G X w0 M I) : TD P n (.region id l.toArray true) Q G X w0 M I :=
  TD_drawnS (Cst X w0 Ms Is) p ms hx (fun _ _ h => h) hp (fun _ h => h.weak hM hI) h
/- slices from the start -/
theorem Mem.rowC {w : World} {mm c : Nat} {cs : List Value} {e : TypeId} {sz : Nat} (h : Mem X w0 (.row none mm c cs e sz :: M) I w) : c = 0 := by
  have ho : w.ownsRow 0 e sz (.slice none mm c) mm cs := h.ent _ List.mem_cons_self
  rcases ho.2 with ⟨h1, h2⟩ | ⟨g, cap, cur, hv, _⟩
  · injection h1
  · injection hv with e1; cases e1
end
end Go.Fx
