/- Elimination, plain: what a step does to products, determinants, solutions; the reduced form; inverse matrices. -/
import Derived.Test.YtdmlebigkakplaaGreatZmbl
set_option linter.unusedSimpArgs false
set_option linter.unusedVariables false
namespace Go.Proofs.YtdmlebigkakplaaGreat
/-- the product, over n -/
def mulF (n : Nat) (f g : Nat → Nat → Rat) : Nat → Nat → Rat := fun i j => sm n (fun k => f i k * g k j)
def dlt (i j : Nat) : Rat := if i = j then 1 else 0
theorem mulF_congr {n : Nat} {f f' g g' : Nat → Nat → Rat} {i j : Nat} (h1 : ∀ k, k < n → f i k = f' i k) (h2 : ∀ k, k < n → g k j = g' k j) : mulF n f g i j = mulF n f' g' i j := sm_congr (fun k hk => by rw [h1 k hk, h2 k hk])
theorem mulF_one {n : Nat} {f : Nat → Nat → Rat} {i j : Nat} (hj : j < n) : mulF n f dlt i j = f i j := by
  unfold mulF
  rw [sm_one hj (fun k _ hne => by simp only [dlt]; rw [if_neg hne]; grind)]
  simp only [dlt, if_true]; grind
theorem one_mulF {n : Nat} {f : Nat → Nat → Rat} {i j : Nat} (hi : i < n) : mulF n dlt f i j = f i j := by
  unfold mulF
  rw [sm_one hi (fun k _ hne => by simp only [dlt]; rw [if_neg (fun e => hne e.symm)]; grind)]
  simp only [dlt, if_true]; grind
theorem tr_tr (r k a : Nat) : tr r k (tr r k a) = a := by
  simp only [tr]
  repeat' split
  all_goals omega
theorem elm_mul {n r k : Nat} {κ : Rat} {c : Nat → Rat} {f g : Nat → Nat → Rat} : mulF n (elm r k κ c f) g = elm r k κ c (mulF n f g) := by
  funext a b
  simp only [mulF, elm]
  by_cases e : a = r
  · simp only [if_pos e]
    rw [← sm_mul]
    exact sm_congr (fun i _ => by grind)
  · simp only [if_neg e]
    have h1 : ∀ i, (f (tr r k a) i - c a * (κ * f (tr r k r) i)) * g i b = 1 * (f (tr r k a) i * g i b) + (- (c a * κ)) * (f (tr r k r) i * g i b) := fun i => by grind
    simp only [h1]
    rw [sm_lin]; grind
/-- z solves -/
def ker (R C : Nat) (f : Nat → Nat → Rat) (z : Nat → Rat) : Prop := ∀ i, i < R → sm C (fun j => f i j * z j) = 0
theorem ker_congr {R C : Nat} {f g : Nat → Nat → Rat} {z : Nat → Rat} (h : ∀ a b, a < R → b < C → f a b = g a b) : ker R C f z ↔ ker R C g z := by
  unfold ker
  constructor
  · intro hk i hi; rw [← hk i hi]; exact sm_congr (fun j hj => by rw [h i j hi hj])
  · intro hk i hi; rw [← hk i hi]; exact sm_congr (fun j hj => by rw [h i j hi hj])
theorem ker_elm {R C r k : Nat} {κ : Rat} {c : Nat → Rat} {f : Nat → Nat → Rat} {z : Nat → Rat} (hr : r < R) (hk : k < R) (hκ : κ ≠ 0) : ker R C (elm r k κ c f) z ↔ ker R C f z := by
  obtain ⟨φ, hφ⟩ : ∃ φ : Nat → Rat, φ = fun i => sm C (fun j => f i j * z j) := ⟨_, rfl⟩
  have h1 : ∀ a, sm C (fun j => elm r k κ c f a j * z j) = if a = r then κ * φ (tr r k r) else φ (tr r k a) - c a * (κ * φ (tr r k r)) := fun a => by
    have := congrFun (congrFun (elm_mul (n := C) (r := r) (k := k) (κ := κ) (c := c) (f := f) (g := fun j _ => z j)) a) 0
    simp only [mulF] at this
    rw [this, hφ]; rfl
  unfold ker
  constructor
  · intro hz
    have h0 : φ (tr r k r) = 0 := by
      have := hz r hr
      rw [h1, if_pos rfl] at this
      rcases Rat.mul_eq_zero.1 this with e | e
      · exact absurd e hκ
      · exact e
    intro i hi
    have hφi : sm C (fun j => f i j * z j) = φ i := by rw [hφ]
    rw [hφi]
    by_cases e : tr r k i = r
    · have : i = tr r k r := by have := tr_tr r k i; rw [e] at this; exact this.symm
      rw [this]; exact h0
    · have := hz (tr r k i) (tr_lt hr hk hi)
      rw [h1, if_neg e, tr_tr, h0] at this
      grind
  · intro hz i hi
    have hφ0 : ∀ i, i < R → φ i = 0 := fun i hi => by rw [hφ]; exact hz i hi
    rw [h1, hφ0 _ (tr_lt hr hk hr), hφ0 _ (tr_lt hr hk hi)]
    split <;> grind
/-- what holds after so many columns -/
structure Red (R C j : Nat) (f0 f : Nat → Nat → Rat) (pv : List Nat) (s : Rat) : Prop where
  hs : s ≠ 0
  det : ∀ m g, m ≤ C → dt R (mulF m f g) = s * dt R (mulF m f0 g)
  ker : ∀ z, ker R C f z ↔ ker R C f0 z
  len : pv.length ≤ R
  inc : ∀ t, t < pv.length → pv.getD t 0 < j ∧ t ≤ pv.getD t 0 ∧ ∀ u, u < t → pv.getD u 0 < pv.getD t 0
  unit : ∀ t i, t < pv.length → i < R → f i (pv.getD t 0) = dlt i t
  zero : ∀ i b, pv.length ≤ i → i < R → b < j → f i b = 0
theorem Red.start {R C : Nat} {f : Nat → Nat → Rat} : Red R C 0 f f [] 1 :=
  ⟨by decide, fun m g _ => by grind, fun z => Iff.rfl, by simp, fun t ht => by simp at ht, fun t i ht => by simp at ht, fun i b _ _ hb => by omega⟩
theorem Red.none {R C j : Nat} {f0 f : Nat → Nat → Rat} {pv : List Nat} {s : Rat} (h : Red R C j f0 f pv s) (hz : ∀ i, pv.length ≤ i → i < R → f i j = 0) : Red R C (j + 1) f0 f pv s :=
  ⟨h.hs, h.det, h.ker, h.len, fun t ht => ⟨by have := (h.inc t ht).1; omega, (h.inc t ht).2⟩, h.unit, fun i b hi hR hb => by
    by_cases e : b = j
    · subst e; exact hz i hi hR
    · exact h.zero i b hi hR (by omega)⟩
theorem Red.step {R C j x : Nat} {f0 f f' : Nat → Nat → Rat} {pv : List Nat} {s : Rat} (h : Red R C j f0 f pv s) (hj : j < C) (hx : pv.length ≤ x) (hxR : x < R) (hn : f x j ≠ 0)
    (hf : ∀ a b, a < R → b < C → f' a b = elm pv.length x (1 / f x j) (fun a => f (tr pv.length x a) j) f a b) : Red R C (j + 1) f0 f' (pv ++ [j]) (esg pv.length x * (1 / f x j) * s) := by
  obtain ⟨r, hr⟩ : ∃ r, r = pv.length := ⟨_, rfl⟩
  rw [← hr] at hf hx ⊢
  obtain ⟨κ, hκ⟩ : ∃ κ, κ = 1 / f x j := ⟨_, rfl⟩
  have hκ1 : κ * f x j = 1 := by rw [hκ]; grind
  have hκ0 : κ ≠ 0 := fun e => by rw [e] at hκ1; grind
  rw [← hκ] at hf ⊢
  have hrR : r < R := by omega
  have hes : esg r x ≠ 0 := by unfold esg; split <;> decide
  have htr : tr r x r = x := by simp [tr]
  have hf1 : ∀ b, b < C → f' r b = κ * f x b := fun b hb => by rw [hf r b hrR hb]; simp only [elm, if_true, htr]
  have hf2 : ∀ a b, a < R → b < C → a ≠ r → f' a b = f (tr r x a) b - f (tr r x a) j * (κ * f x b) := fun a b ha hb hne => by rw [hf a b ha hb]; simp only [elm, if_neg hne, htr]
  have hcol : ∀ i, i < R → f' i j = dlt i r := fun i hi => by
    by_cases e : i = r
    · subst e; rw [hf1 j hj, hκ1]; simp [dlt]
    · rw [hf2 i j hi hj e, hκ1]; simp only [dlt, if_neg e]; grind
  have hxz : ∀ b, b < j → f x b = 0 := fun b hb => h.zero x b (by omega) hxR hb
  have hlow : ∀ i b, i < R → b < j → i ≠ r → f' i b = f (tr r x i) b := fun i b hi hb hne => by
    rw [hf2 i b hi (by omega) hne, hxz b hb]; grind
  refine ⟨fun e => ?_, fun m g hm => ?_, fun z => ?_, ?_, fun t ht => ?_, fun t i ht hi => ?_, fun i b hi hR hb => ?_⟩
  · rcases Rat.mul_eq_zero.1 e with e | e
    · rcases Rat.mul_eq_zero.1 e with e | e
      · exact hes e
      · exact hκ0 e
    · exact h.hs e
  · have h1 : dt R (mulF m f' g) = dt R (mulF m (elm r x κ (fun a => f (tr r x a) j) f) g) := dt_congr (fun i k hi _ => mulF_congr (fun t ht => hf i t hi (by omega)) (fun _ _ => rfl))
    rw [h1, elm_mul, dt_elm hrR hxR, h.det m g hm]
    grind
  · exact (ker_congr hf).trans ((ker_elm hrR hxR hκ0).trans (h.ker z))
  · simp; omega
  · have hl : (pv ++ [j]).length = r + 1 := by simp [hr]
    by_cases e : t = r
    · subst e
      have e1 : (pv ++ [j]).getD t 0 = j := by simp [List.getD, hr]
      rw [e1]
      refine ⟨by omega, ?_, fun u hu => ?_⟩
      · by_cases e0 : t = 0
        · omega
        · have := h.inc (t - 1) (by omega); omega
      · have e2 : (pv ++ [j]).getD u 0 = pv.getD u 0 := by simp [List.getD, List.getElem?_append_left (show u < pv.length by omega)]
        rw [e2]; exact (h.inc u (by omega)).1
    · have ht' : t < pv.length := by omega
      have e2 : ∀ u, u ≤ t → (pv ++ [j]).getD u 0 = pv.getD u 0 := fun u hu => by simp [List.getD, List.getElem?_append_left (show u < pv.length by omega)]
      obtain ⟨a1, a2, a3⟩ := h.inc t ht'
      rw [e2 t (Nat.le_refl _)]
      exact ⟨by omega, a2, fun u hu => by rw [e2 u (by omega)]; exact a3 u hu⟩
  · have hl : (pv ++ [j]).length = r + 1 := by simp [hr]
    by_cases e : t = r
    · subst e
      have e1 : (pv ++ [j]).getD t 0 = j := by simp [List.getD, hr]
      rw [e1]; exact hcol i hi
    · have ht' : t < pv.length := by omega
      have e2 : (pv ++ [j]).getD t 0 = pv.getD t 0 := by simp [List.getD, List.getElem?_append_left ht']
      have hp := (h.inc t ht').1
      rw [e2]
      by_cases er : i = r
      · subst er
        rw [hf1 _ (by omega), hxz _ hp]
        simp only [dlt, if_neg (fun e' : i = t => e e'.symm)]; grind
      · rw [hlow i _ hi hp er, h.unit t _ ht' (tr_lt hrR hxR hi)]
        have : tr r x i = t ↔ i = t := by
          simp only [tr, if_neg er]
          split <;> omega
        simp only [dlt]
        by_cases e3 : i = t
        · rw [if_pos e3, if_pos (this.2 e3)]
        · rw [if_neg e3, if_neg (fun e' => e3 (this.1 e'))]
  · have hl : (pv ++ [j]).length = r + 1 := by simp [hr]
    rw [hl] at hi
    by_cases e : b = j
    · subst e; rw [hcol i hR]; simp only [dlt, if_neg (show ¬ i = r by omega)]
    · rw [hlow i b hR (by omega) (by omega)]
      refine h.zero _ b ?_ (tr_lt hrR hxR hR) (by omega)
      simp only [tr]; rw [← hr]
      repeat' split
      all_goals omega
theorem Red.full {n C : Nat} {f0 f : Nat → Nat → Rat} {pv : List Nat} {s : Rat} (h : Red n C n f0 f pv s) (hl : pv.length = n) : ∀ i t, i < n → t < n → f i t = dlt i t := by
  intro i t hi ht
  have hp : ∀ d t, t + d + 1 = n → pv.getD t 0 = t := by
    intro d
    induction d with
    | zero => intro t he; have := h.inc t (by omega); omega
    | succ d ih =>
      intro t he
      have h1 := ih (t + 1) (by omega)
      have h2 := h.inc (t + 1) (by omega)
      have h3 := h2.2.2 t (by omega)
      have h4 := h.inc t (by omega)
      omega
  have := h.unit t i (by omega) hi
  rwa [hp (n - t - 1) t (by omega)] at this
theorem Red.short {n C : Nat} {f0 f : Nat → Nat → Rat} {pv : List Nat} {s : Rat} (h : Red n C n f0 f pv s) (hl : pv.length < n) : ∀ t, t < n → f (n - 1) t = 0 := fun t ht => h.zero (n - 1) t (by omega) (by omega) ht
theorem dt_one : ∀ {n : Nat}, dt n dlt = 1
  | 0 => rfl
  | n + 1 => by
    rw [dt_first (fun i hi _ => by simp only [dlt]; rw [if_neg (by omega)])]
    have : (fun i k => dlt (i + 1) (k + 1)) = dlt := by funext i k; simp [dlt]
    rw [this, dt_one]
    simp only [dlt, if_true]; grind
theorem Red.dt {n C : Nat} {f0 f : Nat → Nat → Rat} {pv : List Nat} {s : Rat} (h : Red n C n f0 f pv s) (hC : n ≤ C) : dt n f = s * dt n f0 := by
  have := h.det n dlt hC
  rwa [dt_congr (fun i j _ hj => mulF_one hj), dt_congr (f := mulF n f0 dlt) (fun i j _ hj => mulF_one hj)] at this
/-- as many pivots as rows exactly if the determinant is not 0 -/
theorem Red.iff {n C : Nat} {f0 f : Nat → Nat → Rat} {pv : List Nat} {s : Rat} (h : Red n C n f0 f pv s) (hC : n ≤ C) : pv.length = n ↔ Go.Proofs.YtdmlebigkakplaaGreat.dt n f0 ≠ 0 := by
  have h1 := h.dt hC
  constructor
  · intro hl e
    rw [dt_congr (h.full hl), dt_one, e] at h1
    grind
  · intro hne
    by_cases hl : pv.length < n
    · rw [dt_row0 (i := n - 1) (by omega) (h.short hl)] at h1
      rcases Rat.mul_eq_zero.1 h1.symm with e | e
      · exact absurd e h.hs
      · exact absurd e hne
    · have := h.len; omega
/-- the determinant of a product -/
theorem Red.mul {n C : Nat} {f0 f g : Nat → Nat → Rat} {pv : List Nat} {s : Rat} (h : Red n C n f0 f pv s) (hC : n ≤ C) : Go.Proofs.YtdmlebigkakplaaGreat.dt n (mulF n f0 g) = Go.Proofs.YtdmlebigkakplaaGreat.dt n f0 * Go.Proofs.YtdmlebigkakplaaGreat.dt n g := by
  have h1 := h.dt hC
  have h2 := h.det n g hC
  have hinv : ∀ x y : Rat, s * x = s * y → x = y := fun x y e => by
    have h0 : s * (x - y) = 0 := by grind
    rcases Rat.mul_eq_zero.1 h0 with e | e
    · exact absurd e h.hs
    · grind
  apply hinv
  rw [← h2]
  by_cases hl : pv.length < n
  · rw [dt_row0 (i := n - 1) (by omega) (fun j _ => sm_zero (fun k hk => by rw [h.short hl k hk]; grind))]
    rw [dt_row0 (i := n - 1) (by omega) (h.short hl)] at h1
    grind
  · have hl' : pv.length = n := by have := h.len; omega
    rw [dt_congr (f := mulF n f g) (g := g) (fun i j hi _ => by rw [mulF_congr (f' := dlt) (g' := g) (fun k hk => h.full hl' i k hi hk) (fun _ _ => rfl), one_mulF hi])]
    rw [dt_congr (h.full hl'), dt_one] at h1
    grind
theorem sm_split {n m : Nat} {f : Nat → Rat} : sm (n + m) f = sm n f + sm m (fun k => f (n + k)) := by
  induction m with
  | zero => simp only [sm, Nat.add_zero]; grind
  | succ m ih => rw [← Nat.add_assoc]; simp only [sm]; rw [ih]; grind
/-- the unit matrix beside: the inverse, from both sides -/
theorem Red.inv {n : Nat} {a f0 f : Nat → Nat → Rat} {pv : List Nat} {s : Rat} (h : Red n (n + n) n f0 f pv s) (hl : pv.length = n) (h1 : ∀ i j, i < n → j < n → f0 i j = a i j) (h2 : ∀ i j, i < n → j < n → f0 i (n + j) = dlt i j) :
    (∀ i j, i < n → j < n → mulF n a (fun i j => f i (n + j)) i j = dlt i j) ∧ (∀ i j, i < n → j < n → mulF n (fun i j => f i (n + j)) a i j = dlt i j) := by
  have hf := h.full hl
  have k0 : ∀ (x y : Nat → Rat), Go.Proofs.YtdmlebigkakplaaGreat.ker n (n + n) f0 (fun t => if t < n then x t else y (t - n)) ↔ ∀ i, i < n → sm n (fun k => a i k * x k) + y i = 0 := fun x y => by
    unfold Go.Proofs.YtdmlebigkakplaaGreat.ker
    have e : ∀ i, i < n → sm (n + n) (fun j => f0 i j * (if j < n then x j else y (j - n))) = sm n (fun k => a i k * x k) + y i := fun i hi => by
      rw [sm_split, sm_congr (n := n) (f := fun j => f0 i j * (if j < n then x j else y (j - n))) (g := fun k => a i k * x k) (fun k hk => by rw [h1 i k hi hk, if_pos hk])]
      rw [sm_one (f := fun k => f0 i (n + k) * (if n + k < n then x (n + k) else y (n + k - n))) hi (fun k hk hne => by rw [h2 i k hi hk]; simp only [dlt]; rw [if_neg (fun e => hne e.symm)]; grind)]
      rw [h2 i i hi hi, if_neg (by omega), Nat.add_sub_cancel_left]; simp only [dlt, if_true]; grind
    exact ⟨fun hk i hi => by rw [← e i hi]; exact hk i hi, fun hk i hi => by rw [e i hi]; exact hk i hi⟩
  have k1 : ∀ (x y : Nat → Rat), Go.Proofs.YtdmlebigkakplaaGreat.ker n (n + n) f (fun t => if t < n then x t else y (t - n)) ↔ ∀ i, i < n → x i + sm n (fun k => f i (n + k) * y k) = 0 := fun x y => by
    unfold Go.Proofs.YtdmlebigkakplaaGreat.ker
    have e : ∀ i, i < n → sm (n + n) (fun j => f i j * (if j < n then x j else y (j - n))) = x i + sm n (fun k => f i (n + k) * y k) := fun i hi => by
      rw [sm_split, sm_congr (n := n) (f := fun k => f i (n + k) * (if n + k < n then x (n + k) else y (n + k - n))) (g := fun k => f i (n + k) * y k) (fun k _ => by rw [if_neg (by omega), Nat.add_sub_cancel_left])]
      rw [sm_one (f := fun j => f i j * (if j < n then x j else y (j - n))) hi (fun k hk hne => by rw [hf i k hi hk]; simp only [dlt]; rw [if_neg (fun e => hne e.symm)]; grind)]
      rw [hf i i hi hi, if_pos hi]; simp only [dlt, if_true]; grind
    exact ⟨fun hk i hi => by rw [← e i hi]; exact hk i hi, fun hk i hi => by rw [e i hi]; exact hk i hi⟩
  have kk : ∀ (x y : Nat → Rat), (∀ i, i < n → x i + sm n (fun k => f i (n + k) * y k) = 0) ↔ ∀ i, i < n → sm n (fun k => a i k * x k) + y i = 0 := fun x y => (k1 x y).symm.trans ((h.ker _).trans (k0 x y))
  have neg : ∀ (g : Nat → Nat → Rat) (x : Nat → Rat) i, sm n (fun k => g i k * (-1 * x k)) = -1 * sm n (fun k => g i k * x k) := fun g x i => by
    rw [← sm_mul]; exact sm_congr (fun k _ => by grind)
  constructor
  · intro i j hi hj
    -- x = - column j of the inverse, y = the unit vector
    have := (kk (fun t => -1 * f t (n + j)) (fun t => dlt t j)).1 (fun t ht => by
      rw [sm_one hj (fun k _ hne => by simp only [dlt]; rw [if_neg hne]; grind)]
      simp only [dlt, if_true]; grind) i hi
    rw [neg a (fun t => f t (n + j))] at this
    show sm n (fun k => a i k * f k (n + j)) = dlt i j
    grind
  · intro i j hi hj
    have := (kk (fun t => dlt t j) (fun t => -1 * a t j)).2 (fun t ht => by
      rw [sm_one hj (fun k _ hne => by simp only [dlt]; rw [if_neg hne]; grind)]
      simp only [dlt, if_true]; grind) i hi
    rw [neg (fun i k => f i (n + k)) (fun t => a t j)] at this
    show sm n (fun k => f i (n + k) * a k j) = dlt i j
    grind
end Go.Proofs.YtdmlebigkakplaaGreat
