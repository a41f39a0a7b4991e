/- Determinants, plain: sums, expansion along the first row, what operations on rows do to it. Elimination, plain: what a step does to products, determinants, solutions; the reduced form; inverse matrices. matrix: the functions that the elements are made by; dot. matrix: Add, Sub, Scale, Mul, Transpose, Apply, Identity, of matrices and of what is none. matrix: Mul, Apply, of matrices and of what is none. Elimination of lists of rows is elimination of numbers. -/
import Derived.Test.YtgeagiikkeiioaaGreatZdav
import Derived.Test.YtgeagiikkeiioaaGreatZdba
import Derived.Test.YtgeagiikkeiioaaGreatZdax
import Derived.Test.YtgeagiikkeiioaaGreatZday
set_option linter.unusedSimpArgs false
set_option linter.unusedVariables false
set_option maxRecDepth 100000
set_option maxHeartbeats 4000000
namespace Go.Proofs.YtgeagiikkeiioaaGreat
def sm : Nat → (Nat → Rat) → Rat
 | 0, _ => 0
 | n + 1, f => sm n f + f n
theorem iE {n : Nat} {f g : Nat → Rat} (h : ∀ i, i < n → f i = g i) : sm n f = sm n g := by
 induction n with
 | zero => rfl
 | succ n ih => simp only [sm]; rw [ih (fun i hi => h i (by omega)), h n (by omega)]
theorem aDF {n : Nat} {f : Nat → Rat} (h : ∀ i, i < n → f i = 0) : sm n f = 0 := by
 induction n with
 | zero => rfl
 | succ n ih => simp only [sm]; rw [ih (fun i hi => h i (by omega)), h n (by omega)]; grind
theorem aFQ {n : Nat} {f g : Nat → Rat} : sm n (fun i => f i + g i) = sm n f + sm n g := by
 induction n with
 | zero => simp only [sm]; grind
 | succ n ih => simp only [sm]; rw [ih]; grind
theorem sI {n : Nat} {f : Nat → Rat} {c : Rat} : sm n (fun i => c * f i) = c * sm n f := by
 induction n with
 | zero => simp only [sm]; grind
 | succ n ih => simp only [sm]; rw [ih]; grind
theorem aGG {n : Nat} {f g : Nat → Rat} {c d : Rat} : sm n (fun i => c * f i + d * g i) = c * sm n f + d * sm n g := by
 rw [aFQ, sI, sI]
theorem aOA {n m : Nat} {f : Nat → Nat → Rat} : sm n (fun i => sm m (fun j => f i j)) = sm m (fun j => sm n (fun i => f i j)) := by
 induction n with
 | zero => simp only [sm]; rw [aDF (fun _ _ => rfl)]
 | succ n ih => simp only [sm]; rw [ih, ← aFQ]
theorem aLI {n p : Nat} {f : Nat → Rat} (hp : p < n) (h : ∀ i, i < n → i ≠ p → f i = 0) : sm n f = f p := by
 induction n with
 | zero => omega
 | succ n ih =>
  simp only [sm]
  by_cases e : p = n
  ·subst e
   rw [aDF (fun i hi => h i (by omega) (by omega))]; grind
  ·rw [ih (by omega) (fun i hi hne => h i (by omega) hne), h n (by omega) (fun e' => e e'.symm)]; grind
def sk (j k : Nat) : Nat := if k < j then k else k + 1
theorem aOZ {n j : Nat} {g : Nat → Rat} (hj : j ≤ n) : sm (n + 1) g = g j + sm n (fun k => g (sk j k)) := by
 induction n with
 | zero =>
  obtain rfl : j = 0 := by omega
  simp only [sm]; grind
 | succ n ih =>
  by_cases e : j = n + 1
  ·subst e
   have : sm (n + 1) (fun k => g (sk (n + 1) k)) = sm (n + 1) g := iE (fun i hi => by simp only [sk]; rw [if_pos (by omega)])
   rw [this]
   simp only [sm]; grind
  ·have h1 := ih (by omega)
   have h2 : sm (n + 1) (fun k => g (sk j k)) = sm n (fun k => g (sk j k)) + g (n + 1) := by
    simp only [sm]
    have : sk j n = n + 1 := by simp only [sk]; rw [if_neg (by omega)]
    rw [this]
   rw [h2]
   show sm (n + 1) g + g (n + 1) = _
   rw [h1]; grind
def sgd (j : Nat) : Rat := if j % 2 = 0 then 1 else -1
def dt : Nat → (Nat → Nat → Rat) → Rat
 | 0, _ => 1
 | n + 1, f => sm (n + 1) (fun j => sgd j * f 0 j * dt n (fun i k => f (i + 1) (sk j k)))
theorem qJ : ∀ {n : Nat} {f g : Nat → Nat → Rat}, (∀ i j, i < n → j < n → f i j = g i j) → dt n f = dt n g
 | 0, _, _, _ => rfl
 | n + 1, f, g, h => by
  simp only [dt]
  apply iE
  intro j hj
  rw [h 0 j (by omega) hj, qJ (n := n) (f := fun i k => f (i + 1) (sk j k)) (g := fun i k => g (i + 1) (sk j k)) (fun i k hi hk => h _ _ (by omega) (by simp only [sk]; split <;> omega))]
def xD (f : Nat → Nat → Rat) (i : Nat) (r : Nat → Rat) : Nat → Nat → Rat := fun a b => if a = i then r b else f a b
theorem aGS : ∀ {n : Nat} {f : Nat → Nat → Rat} {i : Nat} {r s : Nat → Rat} {x y : Rat}, i < n → dt n (xD f i (fun b => x * r b + y * s b)) = x * dt n (xD f i r) + y * dt n (xD f i s)
 | 0, _, _, _, _, _, _, h => by omega
 | n + 1, f, 0, r, s, x, y, _ => by
  have hm : ∀ (t : Nat → Rat) (j : Nat), (fun i k => xD f 0 t (i + 1) (sk j k)) = fun i k => f (i + 1) (sk j k) := fun t j => by
   funext i k; simp only [xD]; rw [if_neg (by omega)]
  have h0 : ∀ (t : Nat → Rat) (j : Nat), xD f 0 t 0 j = t j := fun t j => by simp [xD]
  simp only [dt, hm, h0]
  rw [← aGG]
  apply iE
  intro j _
  grind
 | n + 1, f, i + 1, r, s, x, y, h => by
  have hm : ∀ (t : Nat → Rat) (j : Nat), (fun a k => xD f (i + 1) t (a + 1) (sk j k)) = xD (fun a k => f (a + 1) (sk j k)) i (fun k => t (sk j k)) := fun t j => by
   funext a k; simp only [xD]
   by_cases e : a = i
   ·rw [if_pos (by omega), if_pos e]
   ·rw [if_neg (by omega), if_neg e]
  have h0 : ∀ (t : Nat → Rat) (j : Nat), xD f (i + 1) t 0 j = f 0 j := fun t j => by simp only [xD]; rw [if_neg (by omega)]
  simp only [dt, hm, h0]
  rw [← aGG]
  apply iE
  intro j _
  rw [aGS (n := n) (f := fun a k => f (a + 1) (sk j k)) (i := i) (r := fun k => r (sk j k)) (s := fun k => s (sk j k)) (by omega)]
  grind
def swn (f : Nat → Nat → Rat) (i : Nat) : Nat → Nat → Rat := fun a b => if a = i then f (i + 1) b else if a = i + 1 then f i b else f a b
def usk (j k : Nat) : Nat := if k < j then k else k - 1
theorem aQR (j k : Nat) : usk j (sk j k) = k := by
 by_cases h : k < j
 ·simp [usk, sk, h]
 ·simp [usk, sk, h, show ¬ k + 1 < j by omega]
theorem aQK {n j : Nat} {g : Nat → Rat} (hj : j ≤ n) : sm n (fun k => g (sk j k)) = sm (n + 1) (fun k => if k = j then 0 else g k) := by
 rw [aOZ (g := fun k => if k = j then 0 else g k) hj, if_pos rfl]
 have : sm n (fun k => (fun k => if k = j then (0 : Rat) else g k) (sk j k)) = sm n (fun k => g (sk j k)) := iE (fun k _ => by
  have : sk j k ≠ j := by simp only [sk]; split <;> omega
  simp only [if_neg this])
 rw [this]; grind
def tw (j k : Nat) : Rat := sgd j * sgd (usk j k)
theorem aDT {j : Nat} (h : 0 < j) : sgd (j - 1) = - sgd j := by
 unfold sgd
 by_cases a : j % 2 = 0
 ·have : ¬ (j - 1) % 2 = 0 := by omega
  simp [a, this]
 ·have : (j - 1) % 2 = 0 := by omega
  simp [a, this]
theorem aNY {j k : Nat} (h : j ≠ k) : tw j k = - tw k j := by
 unfold tw
 rcases Nat.lt_or_ge k j with h1 | h1
 ·have e1 : usk j k = k := by simp [usk, h1]
  have e2 : usk k j = j - 1 := by simp [usk, show ¬ j < k by omega]
  rw [e1, e2, aDT (by omega)]; grind
 ·have e1 : usk j k = k - 1 := by simp [usk, show ¬ k < j by omega]
  have e2 : usk k j = j := by simp [usk, show j < k by omega]
  rw [e1, e2, aDT (by omega)]; grind
theorem aQY {j k l : Nat} (h : j ≠ k) : sk j (sk (usk j k) l) = sk k (sk (usk k j) l) := by
 simp only [sk, usk]
 repeat' split
 all_goals omega
theorem aLZ {n : Nat} {f : Nat → Nat → Rat} : dt (n + 2) f = sm (n + 2) (fun j => sm (n + 2) (fun k => if k = j then 0 else tw j k * f 0 j * f 1 k * dt n (fun i l => f (i + 2) (sk j (sk (usk j k) l))))) := by
 show sm (n + 2) (fun j => sgd j * f 0 j * dt (n + 1) (fun i k => f (i + 1) (sk j k))) = _
 apply iE
 intro j hj
 rw [← aQK (g := fun k => tw j k * f 0 j * f 1 k * dt n (fun i l => f (i + 2) (sk j (sk (usk j k) l)))) (by omega)]
 show sgd j * f 0 j * sm (n + 1) (fun k => sgd k * f 1 (sk j k) * dt n (fun i l => f (i + 2) (sk j (sk k l)))) = _
 rw [← sI]
 apply iE
 intro k _
 simp only [aQR, tw]
 grind
theorem aKY {n : Nat} {f : Nat → Nat → Rat} : dt (n + 2) (swn f 0) = - dt (n + 2) f := by
 rw [aLZ, aLZ, aOA]
 have e : ∀ x : Rat, -x = -1 * x := fun x => by grind
 rw [e, ← sI]
 apply iE
 intro j hj
 rw [← sI]
 apply iE
 intro k hk
 by_cases h : j = k
 ·rw [if_pos h, if_pos h.symm]; grind
 ·rw [if_neg h, if_neg (fun e => h e.symm), aNY (j := k) (k := j) (fun e => h e.symm)]
  have h0 : swn f 0 0 k = f 1 k := by simp [swn]
  have h1 : swn f 0 1 j = f 0 j := by simp [swn]
  have h2 : (fun i l => swn f 0 (i + 2) (sk k (sk (usk k j) l))) = fun i l => f (i + 2) (sk j (sk (usk j k) l)) := by
   funext i l
   rw [aQY h]
   simp only [swn]
   rw [if_neg (by omega), if_neg (by omega)]
  rw [h0, h1, h2]
  grind
theorem aGJ : ∀ {n i : Nat} {f : Nat → Nat → Rat}, i + 1 < n → dt n (swn f i) = - dt n f
 | 0, _, _, h => by omega
 | 1, _, _, h => by omega
 | n + 2, 0, f, _ => aKY
 | n + 2, i + 1, f, h => by
  have hm : ∀ j : Nat, (fun a k => swn f (i + 1) (a + 1) (sk j k)) = swn (fun a k => f (a + 1) (sk j k)) i := fun j => by
   funext a k; simp only [swn]
   by_cases e : a = i
   ·rw [if_pos (by omega), if_pos e]
   ·rw [if_neg (by omega), if_neg e]
    by_cases e2 : a = i + 1
    ·rw [if_pos (by omega), if_pos e2]
    ·rw [if_neg (by omega), if_neg e2]
  have h0 : ∀ j : Nat, swn f (i + 1) 0 j = f 0 j := fun j => by simp only [swn]; rw [if_neg (by omega), if_neg (by omega)]
  show sm (n + 2) (fun j => sgd j * swn f (i + 1) 0 j * dt (n + 1) (fun a k => swn f (i + 1) (a + 1) (sk j k))) = - sm (n + 2) (fun j => sgd j * f 0 j * dt (n + 1) (fun a k => f (a + 1) (sk j k)))
  have e : ∀ x : Rat, -x = -1 * x := fun x => by grind
  rw [e, ← sI]
  apply iE
  intro j _
  rw [hm, h0, aGJ (n := n + 1) (i := i) (by omega)]
  grind
theorem aRF {n i : Nat} {f : Nat → Nat → Rat} (h : i + 1 < n) (he : ∀ b, f i b = f (i + 1) b) : dt n f = 0 := by
 have h1 := aGJ (f := f) h
 have h2 : swn f i = f := by
  funext a b; simp only [swn]
  by_cases e : a = i
  ·rw [if_pos e, e]; exact (he b).symm
  ·rw [if_neg e]
   by_cases e2 : a = i + 1
   ·rw [if_pos e2, e2]; exact he b
   ·rw [if_neg e2]
 rw [h2] at h1
 grind
theorem aHE : ∀ {d n p : Nat} {f : Nat → Nat → Rat}, p + d + 1 < n → (∀ b, f p b = f (p + d + 1) b) → dt n f = 0
 | 0, _, _, _, h, he => aRF h he
 | d + 1, n, p, f, h, he => by
  have h1 := aGJ (n := n) (i := p + d + 1) (f := f) (by omega)
  have h2 : dt n (swn f (p + d + 1)) = 0 := by
   apply aHE (d := d) (p := p) (by omega)
   intro b
   have e1 : swn f (p + d + 1) p b = f p b := by simp [swn, show ¬ p = p + d + 1 by omega, show ¬ p = p + d + 1 + 1 by omega]
   have e2 : swn f (p + d + 1) (p + d + 1) b = f (p + d + 1 + 1) b := by simp [swn]
   rw [e1, e2]
   exact he b
  rw [h2] at h1
  grind
theorem dt_eq {n p q : Nat} {f : Nat → Nat → Rat} (hp : p < n) (hq : q < n) (hpq : p ≠ q) (he : ∀ b, f p b = f q b) : dt n f = 0 := by
 rcases Nat.lt_or_ge p q with h | h
 ·obtain ⟨d, rfl⟩ : ∃ d, q = p + d + 1 := ⟨q - p - 1, by omega⟩
  exact aHE hq he
 ·obtain ⟨d, rfl⟩ : ∃ d, p = q + d + 1 := ⟨p - q - 1, by omega⟩
  exact aHE hp (fun b => (he b).symm)
theorem aEL {f : Nat → Nat → Rat} {i : Nat} : xD f i (f i) = f := by
 funext a b; simp only [xD]; split
 ·rename_i h; rw [h]
 ·rfl
theorem tY {n i p : Nat} {f : Nat → Nat → Rat} {c : Rat} (hi : i < n) (hp : p < n) (hne : p ≠ i) : dt n (xD f i (fun b => f i b + c * f p b)) = dt n f := by
 have h1 := aGS (n := n) (f := f) (i := i) (r := f i) (s := f p) (x := 1) (y := c) hi
 have h2 : (fun b => (1 : Rat) * f i b + c * f p b) = fun b => f i b + c * f p b := by funext b; grind
 have h3 : dt n (xD f i (f p)) = 0 := dt_eq (p := p) (q := i) hp hi hne (fun b => by simp [xD, hne])
 rw [h2, h3, aEL] at h1
 rw [h1]; grind
theorem aEF {n i : Nat} {f : Nat → Nat → Rat} {c : Rat} (hi : i < n) : dt n (xD f i (fun b => c * f i b)) = c * dt n f := by
 have h1 := aGS (n := n) (f := f) (i := i) (r := f i) (s := f i) (x := c) (y := 0) hi
 have h2 : (fun b => c * f i b + 0 * f i b) = fun b => c * f i b := by funext b; grind
 rw [h2, aEL] at h1
 rw [h1]; grind
def tr (r k a : Nat) : Nat := if a = r then k else if a = k then r else a
theorem xY {r k a n : Nat} (hr : r < n) (hk : k < n) (ha : a < n) : tr r k a < n := by simp only [tr]; split; assumption; split <;> assumption
theorem aOC {n r k : Nat} {f : Nat → Nat → Rat} (hr : r < n) (hk : k < n) (h : r ≠ k) : dt n (fun a b => f (tr r k a) b) = - dt n f := by
 have a1 := tY (n := n) (i := r) (p := k) (f := f) (c := 1) hr hk (fun e => h e.symm)
 obtain ⟨f1, hf1⟩ : ∃ f1, f1 = xD f r (fun b => f r b + 1 * f k b) := ⟨_, rfl⟩
 rw [← hf1] at a1
 have a2 := tY (n := n) (i := k) (p := r) (f := f1) (c := -1) hk hr h
 obtain ⟨f2, hf2⟩ : ∃ f2, f2 = xD f1 k (fun b => f1 k b + -1 * f1 r b) := ⟨_, rfl⟩
 rw [← hf2] at a2
 have a3 := tY (n := n) (i := r) (p := k) (f := f2) (c := 1) hr hk (fun e => h e.symm)
 obtain ⟨f3, hf3⟩ : ∃ f3, f3 = xD f2 r (fun b => f2 r b + 1 * f2 k b) := ⟨_, rfl⟩
 rw [← hf3] at a3
 have a4 := aEF (n := n) (i := k) (f := f3) (c := -1) hk
 have e : xD f3 k (fun b => -1 * f3 k b) = fun a b => f (tr r k a) b := by
  funext a b
  simp only [hf3, hf2, hf1, xD, tr]
  have hkr : ¬ k = r := fun e => h e.symm
  by_cases e1 : a = k
  ·subst e1
   simp only [if_true, if_neg hkr, if_neg h]
   grind
  ·by_cases e2 : a = r
   ·subst e2
    simp only [if_neg h, if_neg hkr, if_true]
    grind
   ·simp only [if_neg e1, if_neg e2]
 rw [e, a3, a2, a1] at a4
 rw [a4]; grind
theorem aOK {n r : Nat} {f : Nat → Nat → Rat} {c : Nat → Rat} (hr : r < n) : dt n (fun a b => if a = r then f r b else f a b - c a * f r b) = dt n f := by
 have step : ∀ m, m ≤ n → dt n (fun a b => if a = r then f r b else if a < m then f a b - c a * f r b else f a b) = dt n f := by
  intro m
  induction m with
  | zero => intro _; exact qJ (fun a b _ _ => by by_cases e : a = r <;> simp [e])
  | succ m ih =>
   intro hm
   have h1 := ih (by omega)
   by_cases e : m = r
   ·rw [← h1]
    apply qJ
    intro a b _ _
    by_cases ea : a = r
    ·rw [if_pos ea, if_pos ea]
    ·rw [if_neg ea, if_neg ea]
     by_cases em : a < m
     ·rw [if_pos em, if_pos (by omega)]
     ·rw [if_neg em, if_neg (by omega)]
   ·obtain ⟨g, hg⟩ : ∃ g : Nat → Nat → Rat, g = fun a b => if a = r then f r b else if a < m then f a b - c a * f r b else f a b := ⟨_, rfl⟩
    rw [← hg] at h1
    have h2 := tY (n := n) (i := m) (p := r) (f := g) (c := - c m) (by omega) hr (fun e' => e e'.symm)
    rw [h1] at h2
    rw [← h2]
    apply qJ
    intro a b _ _
    have hgr : ∀ b, g r b = f r b := fun b => by rw [hg]; simp
    have hgm : ∀ b, g m b = f m b := fun b => by rw [hg]; simp [e]
    simp only [xD]
    by_cases ea : a = r
    ·subst ea
     rw [if_pos rfl, if_neg (fun e' => e e'.symm), hgr]
    ·rw [if_neg ea]
     by_cases em : a = m
     ·subst em
      rw [if_pos (by omega), if_pos rfl, hgm, hgr]; grind
     ·rw [if_neg em, hg]
      by_cases el : a < m
      ·simp [ea, el, show a < m + 1 by omega]
      ·simp [ea, el, show ¬ a < m + 1 by omega]
 rw [← step n (Nat.le_refl _)]
 apply qJ
 intro a b ha _
 by_cases ea : a = r
 ·rw [if_pos ea, if_pos ea]
 ·rw [if_neg ea, if_neg ea, if_pos ha]
def elm (r k : Nat) (κ : Rat) (c : Nat → Rat) (f : Nat → Nat → Rat) : Nat → Nat → Rat := fun a b => if a = r then κ * f (tr r k r) b else f (tr r k a) b - c a * (κ * f (tr r k r) b)
def esg (r k : Nat) : Rat := if r = k then 1 else -1
theorem aPZ {n r k : Nat} {κ : Rat} {c : Nat → Rat} {f : Nat → Nat → Rat} (hr : r < n) (hk : k < n) : dt n (elm r k κ c f) = esg r k * κ * dt n f := by
 obtain ⟨g, hg⟩ : ∃ g : Nat → Nat → Rat, g = fun a b => f (tr r k a) b := ⟨_, rfl⟩
 have h1 : dt n g = esg r k * dt n f := by
  rw [hg]
  unfold esg
  by_cases e : r = k
  ·subst e
   rw [if_pos rfl, show (fun a b => f (tr r r a) b) = f by funext a b; simp only [tr]; split <;> simp_all]; grind
  ·rw [if_neg e, aOC hr hk e]; grind
 have h2 := aEF (n := n) (i := r) (f := g) (c := κ) hr
 obtain ⟨s, hs⟩ : ∃ s, s = xD g r (fun b => κ * g r b) := ⟨_, rfl⟩
 rw [← hs] at h2
 have h3 := aOK (n := n) (r := r) (f := s) (c := c) hr
 have h4 : elm r k κ c f = fun a b => if a = r then s r b else s a b - c a * s r b := by
  funext a b
  have hsr : s r b = κ * f (tr r k r) b := by rw [hs, hg]; simp [xD]
  simp only [elm]
  rw [hsr]
  by_cases e : a = r
  ·rw [if_pos e, if_pos e]
  ·rw [if_neg e, if_neg e, hs, hg]; simp [xD, e]
 rw [h4, h3, h2, h1]; grind
end Go.Proofs.YtgeagiikkeiioaaGreat
namespace Go.Proofs.YtgeagiikkeiioaaGreat
def aAT (n : Nat) (f g : Nat → Nat → Rat) : Nat → Nat → Rat := fun i j => sm n (fun k => f i k * g k j)
def dlt (i j : Nat) : Rat := if i = j then 1 else 0
theorem aGD {n : Nat} {f f' g g' : Nat → Nat → Rat} {i j : Nat} (h1 : ∀ k, k < n → f i k = f' i k) (h2 : ∀ k, k < n → g k j = g' k j) : aAT n f g i j = aAT n f' g' i j := iE (fun k hk => by rw [h1 k hk, h2 k hk])
theorem aPR (r k a : Nat) : tr r k (tr r k a) = a := by
 simp only [tr]
 repeat' split
 all_goals omega
theorem aHS {n r k : Nat} {κ : Rat} {c : Nat → Rat} {f g : Nat → Nat → Rat} : aAT n (elm r k κ c f) g = elm r k κ c (aAT n f g) := by
 funext a b
 simp only [aAT, elm]
 by_cases e : a = r
 ·simp only [if_pos e]
  rw [← sI]
  exact iE (fun i _ => by grind)
 ·simp only [if_neg e]
  have h1 : ∀ i, (f (tr r k a) i - c a * (κ * f (tr r k r) i)) * g i b = 1 * (f (tr r k a) i * g i b) + (- (c a * κ)) * (f (tr r k r) i * g i b) := fun i => by grind
  simp only [h1]
  rw [aGG]; grind
def ker (R C : Nat) (f : Nat → Nat → Rat) (z : Nat → Rat) : Prop := ∀ i, i < R → sm C (fun j => f i j * z j) = 0
theorem aJT {R C : Nat} {f g : Nat → Nat → Rat} {z : Nat → Rat} (h : ∀ a b, a < R → b < C → f a b = g a b) : ker R C f z ↔ ker R C g z := by
 unfold ker
 constructor
 ·intro hk i hi; rw [← hk i hi]; exact iE (fun j hj => by rw [h i j hi hj])
 ·intro hk i hi; rw [← hk i hi]; exact iE (fun j hj => by rw [h i j hi hj])
theorem aOS {R C r k : Nat} {κ : Rat} {c : Nat → Rat} {f : Nat → Nat → Rat} {z : Nat → Rat} (hr : r < R) (hk : k < R) (hκ : κ ≠ 0) : ker R C (elm r k κ c f) z ↔ ker R C f z := by
 obtain ⟨φ, hφ⟩ : ∃ φ : Nat → Rat, φ = fun i => sm C (fun j => f i j * z j) := ⟨_, rfl⟩
 have h1 : ∀ a, sm C (fun j => elm r k κ c f a j * z j) = if a = r then κ * φ (tr r k r) else φ (tr r k a) - c a * (κ * φ (tr r k r)) := fun a => by
  have := congrFun (congrFun (aHS (n := C) (r := r) (k := k) (κ := κ) (c := c) (f := f) (g := fun j _ => z j)) a) 0
  simp only [aAT] at this
  rw [this, hφ]; rfl
 unfold ker
 constructor
 ·intro hz
  have h0 : φ (tr r k r) = 0 := by
   have := hz r hr
   rw [h1, if_pos rfl] at this
   rcases Rat.mul_eq_zero.1 this with e | e
   ·exact absurd e hκ
   ·exact e
  intro i hi
  have hφi : sm C (fun j => f i j * z j) = φ i := by rw [hφ]
  rw [hφi]
  by_cases e : tr r k i = r
  ·have : i = tr r k r := by have := aPR r k i; rw [e] at this; exact this.symm
   rw [this]; exact h0
  ·have := hz (tr r k i) (xY hr hk hi)
   rw [h1, if_neg e, aPR, h0] at this
   grind
 ·intro hz i hi
  have hφ0 : ∀ i, i < R → φ i = 0 := fun i hi => by rw [hφ]; exact hz i hi
  rw [h1, hφ0 _ (xY hr hk hr), hφ0 _ (xY hr hk hi)]
  split <;> grind
structure Red (R C j : Nat) (f0 f : Nat → Nat → Rat) (pv : List Nat) (s : Rat) : Prop where
 hs : s ≠ 0
 det : ∀ m g, m ≤ C → dt R (aAT m f g) = s * dt R (aAT m f0 g)
 ker : ∀ z, ker R C f z ↔ ker R C f0 z
 len : pv.length ≤ R
 inc : ∀ t, t < pv.length → pv.getD t 0 < j ∧ t ≤ pv.getD t 0 ∧ ∀ u, u < t → pv.getD u 0 < pv.getD t 0
 unit : ∀ t i, t < pv.length → i < R → f i (pv.getD t 0) = dlt i t
 zero : ∀ i b, pv.length ≤ i → i < R → b < j → f i b = 0
theorem Red.start {R C : Nat} {f : Nat → Nat → Rat} : Red R C 0 f f [] 1 :=
 ⟨by decide, fun m g _ => by grind, fun z => Iff.rfl, by simp, fun t ht => by simp at ht, fun t i ht => by simp at ht, fun i b _ _ hb => by omega⟩
theorem Red.none {R C j : Nat} {f0 f : Nat → Nat → Rat} {pv : List Nat} {s : Rat} (h : Red R C j f0 f pv s) (hz : ∀ i, pv.length ≤ i → i < R → f i j = 0) : Red R C (j + 1) f0 f pv s :=
 ⟨h.hs, h.det, h.ker, h.len, fun t ht => ⟨by have := (h.inc t ht).1; omega, (h.inc t ht).2⟩, h.unit, fun i b hi hR hb => by
  by_cases e : b = j
  ·subst e; exact hz i hi hR
  ·exact h.zero i b hi hR (by omega)⟩
theorem Red.step {R C j x : Nat} {f0 f f' : Nat → Nat → Rat} {pv : List Nat} {s : Rat} (h : Red R C j f0 f pv s) (hj : j < C) (hx : pv.length ≤ x) (hxR : x < R) (hn : f x j ≠ 0)
  (hf : ∀ a b, a < R → b < C → f' a b = elm pv.length x (1 / f x j) (fun a => f (tr pv.length x a) j) f a b) : Red R C (j + 1) f0 f' (pv ++ [j]) (esg pv.length x * (1 / f x j) * s) := by
 obtain ⟨r, hr⟩ : ∃ r, r = pv.length := ⟨_, rfl⟩
 rw [← hr] at hf hx ⊢
 obtain ⟨κ, hκ⟩ : ∃ κ, κ = 1 / f x j := ⟨_, rfl⟩
 have hκ1 : κ * f x j = 1 := by rw [hκ]; grind
 have hκ0 : κ ≠ 0 := fun e => by rw [e] at hκ1; grind
 rw [← hκ] at hf ⊢
 have hrR : r < R := by omega
 have hes : esg r x ≠ 0 := by unfold esg; split <;> decide
 have htr : tr r x r = x := by simp [tr]
 have hf1 : ∀ b, b < C → f' r b = κ * f x b := fun b hb => by rw [hf r b hrR hb]; simp only [elm, if_true, htr]
 have hf2 : ∀ a b, a < R → b < C → a ≠ r → f' a b = f (tr r x a) b - f (tr r x a) j * (κ * f x b) := fun a b ha hb hne => by rw [hf a b ha hb]; simp only [elm, if_neg hne, htr]
 have hcol : ∀ i, i < R → f' i j = dlt i r := fun i hi => by
  by_cases e : i = r
  ·subst e; rw [hf1 j hj, hκ1]; simp [dlt]
  ·rw [hf2 i j hi hj e, hκ1]; simp only [dlt, if_neg e]; grind
 have hxz : ∀ b, b < j → f x b = 0 := fun b hb => h.zero x b (by omega) hxR hb
 have hlow : ∀ i b, i < R → b < j → i ≠ r → f' i b = f (tr r x i) b := fun i b hi hb hne => by
  rw [hf2 i b hi (by omega) hne, hxz b hb]; grind
 refine ⟨fun e => ?_, fun m g hm => ?_, fun z => ?_, ?_, fun t ht => ?_, fun t i ht hi => ?_, fun i b hi hR hb => ?_⟩
 ·rcases Rat.mul_eq_zero.1 e with e | e
  ·rcases Rat.mul_eq_zero.1 e with e | e
   ·exact hes e
   ·exact hκ0 e
  ·exact h.hs e
 ·have h1 : dt R (aAT m f' g) = dt R (aAT m (elm r x κ (fun a => f (tr r x a) j) f) g) := qJ (fun i k hi _ => aGD (fun t ht => hf i t hi (by omega)) (fun _ _ => rfl))
  rw [h1, aHS, aPZ hrR hxR, h.det m g hm]
  grind
 ·exact (aJT hf).trans ((aOS hrR hxR hκ0).trans (h.ker z))
 ·simp; omega
 ·have hl : (pv ++ [j]).length = r + 1 := by simp [hr]
  by_cases e : t = r
  ·subst e
   have e1 : (pv ++ [j]).getD t 0 = j := by simp [List.getD, hr]
   rw [e1]
   refine ⟨by omega, ?_, fun u hu => ?_⟩
   ·by_cases e0 : t = 0
    ·omega
    ·have := h.inc (t - 1) (by omega); omega
   ·have e2 : (pv ++ [j]).getD u 0 = pv.getD u 0 := by simp [List.getD, List.getElem?_append_left (show u < pv.length by omega)]
    rw [e2]; exact (h.inc u (by omega)).1
  ·have ht' : t < pv.length := by omega
   have e2 : ∀ u, u ≤ t → (pv ++ [j]).getD u 0 = pv.getD u 0 := fun u hu => by simp [List.getD, List.getElem?_append_left (show u < pv.length by omega)]
   obtain ⟨a1, a2, a3⟩ := h.inc t ht'
   rw [e2 t (Nat.le_refl _)]
   exact ⟨by omega, a2, fun u hu => by rw [e2 u (by omega)]; exact a3 u hu⟩
 ·have hl : (pv ++ [j]).length = r + 1 := by simp [hr]
  by_cases e : t = r
  ·subst e
   have e1 : (pv ++ [j]).getD t 0 = j := by simp [List.getD, hr]
   rw [e1]; exact hcol i hi
  ·have ht' : t < pv.length := by omega
   have e2 : (pv ++ [j]).getD t 0 = pv.getD t 0 := by simp [List.getD, List.getElem?_append_left ht']
   have hp := (h.inc t ht').1
   rw [e2]
   by_cases er : i = r
   ·subst er
    rw [hf1 _ (by omega), hxz _ hp]
    simp only [dlt, if_neg (fun e' : i = t => e e'.symm)]; grind
   ·rw [hlow i _ hi hp er, h.unit t _ ht' (xY hrR hxR hi)]
    have : tr r x i = t ↔ i = t := by
     simp only [tr, if_neg er]
     split <;> omega
    simp only [dlt]
    by_cases e3 : i = t
    ·rw [if_pos e3, if_pos (this.2 e3)]
    ·rw [if_neg e3, if_neg (fun e' => e3 (this.1 e'))]
 ·have hl : (pv ++ [j]).length = r + 1 := by simp [hr]
  rw [hl] at hi
  by_cases e : b = j
  ·subst e; rw [hcol i hR]; simp only [dlt, if_neg (show ¬ i = r by omega)]
  ·rw [hlow i b hR (by omega) (by omega)]
   refine h.zero _ b ?_ (xY hrR hxR hR) (by omega)
   simp only [tr]; rw [← hr]
   repeat' split
   all_goals omega
end Go.Proofs.YtgeagiikkeiioaaGreat
namespace Go.Proofs.YtgeagiikkeiioaaGreat
open Go Go.Fx
abbrev pb (b : Nat) : Value := .pointer (some ⟨b, 0, none⟩)
abbrev bxX (b : Nat) (m : MX) : bD := bH (some ⟨b, 0, none⟩) [.slice m.p m.rows.length m.c]
def dotQ (n : Nat) (x y : List Rat) : Rat := sm n (fun t => x.getD t 0 * y.getD t 0)
theorem aDE {m : MX} {i : Nat} (hi : i < m.rows.length) : rowAt m.q i = (gt m.rows (i : Int)).q := by
 unfold rowAt
 rw [fA hi]
 simp [List.getD, hi]
section
variable {X : List Nat} {w0 : World} {M0 : List Ent} {I0 : List bD}
theorem aHC {a : MX} {p k i j : Nat} (hi : i < a.rows.length) (hj : j < (gt a.rows (i : Int)).es.length)
  (ha : mW a k ∈ I0) (fa : bxX p a ∈ I0) :
  CD Tryz.prog 208 [.int .i64 (i : Int), .int .i64 (j : Int), pb p] X w0 M0 I0 (RQ (at2 a.q i j) k M0 I0) := by
 rw [wS hi hj]
 refine eX (φ := bH (a).p (recs eL (a).rows)) (Hv.xsl aC) ?_
 refine eX (φ := bH (gt (a).rows (i : Int)).p (recs eR (gt (a).rows (i : Int)).es)) (Hv.xrsl aC (by omega)) ?_
 refine vZ Tryz.func208 rfl Tryz.ntmps208 rfl ?_
 refine aK ?_
 refine aL ?_
 (refine aB rfl rfl ?_; intro br; refine ⟨okF, ?_⟩)
 repeat (refine aI ?_)
 refine bI (φ := bP (gt (gt a.rows (i : Int)).es (j : Int)) k) (Hv.xel aC (by omega) (by omega)) ?_
 refine bK (cs := eR (gt (gt a.rows (i : Int)).es (j : Int))) (.inl rfl) rfl rfl aC rfl M0 (bP (gt (gt a.rows (i : Int)).es (j : Int)) k :: I0) aF aD ⟨rfl, _, rfl, rfl, rfl⟩
end
end Go.Proofs.YtgeagiikkeiioaaGreat
namespace Go.Proofs.YtgeagiikkeiioaaGreat
open Go Go.Fx
theorem zA {M M' : List Ent} (h : SubP M M') : ∀ {xs : List Ent}, SubP (xs ++ M) M'
 | [] => h
 | _ :: _ => .drop (zA h)
def MX.fit (m : MX) (R C : Nat) : Prop := m.dim R C ∧ (1 ≤ R ∧ R ≤ 64) ∧ (1 ≤ C ∧ C ≤ 64)
theorem MX.fit.r0 {m : MX} {R C : Nat} (h : m.fit R C) : (gt m.rows 0).es.length = C := by
 have := h.1.row (i := 0) (by have := h.2.1; omega)
 exact this
theorem MX.fit.ok {m : MX} {R C : Nat} (h : m.fit R C) : m.raw.ok := aQV h.1 h.2.1 h.2.2
theorem MX.raw_rows (m : MX) : m.raw.rows.length = m.rows.length := by show (m.rows.map RL.raw).length = _; rw [List.length_map]
section
variable {P : Program} {f : FuncId} {vs : List Value} {X : List Nat} {w0 : World} {M : List Ent} {I : List bD}
theorem vT {K : Value → List Ent → List bD → Prop} {φ : Prop} (h : ∀ w, Mem X w0 M I w → φ) (k : φ → CD P f vs X w0 M I K) : CD P f vs X w0 M I K := ⟨fun w hw => (k (h w hw)).go w hw⟩
theorem pO {K : Value → Prop} {φ : bD} [Fx.Good φ] (h : Hv I φ) (c : CD P f vs X w0 M (φ :: I) (fun v M' I' => M = M' ∧ φ :: I = I' ∧ K v)) : CD P f vs X w0 M I (fun v M' I' => M = M' ∧ I = I' ∧ K v) :=
 ⟨fun w hw => (c.go w (Mem.hv h hw)).mono (fun _ _ ⟨M', I', ⟨e1, e2, hk⟩, h2⟩ => by subst e1; subst e2; exact ⟨M, I, ⟨rfl, rfl, hk⟩, h2.inc (.of fun φ hφ => List.Mem.tail _ hφ)⟩)⟩
theorem Mem.xsml {w : World} {m : MX} {R C k : Nat} (hm : mW m k ∈ I) (hd : m.fit R C) (hk : k ≤ 20000000000) (hw : Mem X w0 M I w) : m.raw.sml := by
 have h : IsX m k (muts M) w := (hw.imm _ hm).2
 refine ⟨by rw [m.raw_rows, hd.1.1]; have := hd.2.1; omega, fun r hr => ?_⟩
 obtain ⟨s, hs, rfl⟩ := List.mem_map.1 hr
 refine ⟨by show (s.es.map RE.raw).length ≤ _; rw [List.length_map, hd.1.2 s hs]; have := hd.2.2; omega, fun e he => ?_⟩
 obtain ⟨x, hx, rfl⟩ := List.mem_map.1 he
 exact IsR.sml hk ((h.row s hs).el x hx)
theorem Mem.lsml {w : World} {r : RL} {k : Nat} (hm : iW r k ∈ I) (hl : r.es.length ≤ 1000000000) (hk : k ≤ 20000000000) (hw : Mem X w0 M I w) : r.raw.sml := by
 have h : IsL r k (muts M) w := (hw.imm _ hm).2
 refine ⟨by show (r.es.map RE.raw).length ≤ _; rw [List.length_map]; exact hl, fun e he => ?_⟩
 obtain ⟨x, hx, rfl⟩ := List.mem_map.1 he
 exact IsR.sml hk (h.el x hx)
end
section
variable {X : List Nat} {w0 : World} {M0 : List Ent} {I0 : List bD}
theorem aJY {a : MX} {R C k : Nat} (hk : k ≤ 20000000000) (da : a.fit R C) (ha : mW a k ∈ I0) : CD Tryz.prog 160 [mv a] X w0 M0 I0 (fun v M I => M0 = M ∧ I0 = I ∧ v = .int .i64 0) := by
 refine vT (fun w hw => Mem.xsml ha da hk hw) (fun sa => ?_)
 refine pO (φ := aFR a.raw) (Hv.xraw ha hk) ?_
 have := aMU (X := X) (w0 := w0) (M0 := M0) (I0 := aFR a.raw :: I0) (m := a.raw) sa (List.Mem.head _)
 rw [WM.code_ok da.ok, aRC] at this
 exact this
theorem aFK {a : MX} {R C k : Nat} (da : a.fit R C) (ha : mW a k ∈ I0) : CD Tryz.prog 177 [mv a] X w0 M0 I0 (MkP R C (at2 a.q) k M0 I0) := by
 have lR := da.1.1
 have lC := da.r0
 obtain ⟨r1, r2⟩ := da.2.1
 obtain ⟨c1, c2⟩ := da.2.2
 refine eX (φ := bH (a).p (recs eL (a).rows)) (Hv.xsl aC) ?_
 refine bJ Tryz.func177 rfl Tryz.ntmps177 rfl ?_
 refine aK ?_
 refine aL ?_
 (refine yH rfl rfl rfl ?_; intro p1; refine ⟨okF, ?_⟩)
 repeat (refine aI ?_)
 (repeat refine aK ?_); refine fQ [0, 1, 2, 3, 4, 5, 6, 7, 8] [1, 0, 1, 1, 1, 0, 0, 0, 0] mixed (by kernel_rfl) ?_
 repeat (refine aI ?_)
 have hg := fun M I (hI : ∀ φ ∈ bH (some ⟨p1, 0, none⟩) [.slice a.p a.rows.length a.c] :: bH a.p (recs eL a.rows) :: I0, φ ∈ I) (i j : Nat) (hi : i < a.rows.length) (hj : j < (gt a.rows 0).es.length) => aHC (X := X) (w0 := w0) (M0 := M) (I0 := I) (a := a) (p := p1) (k := k) (i := i) (j := j) (by omega) (by rw [da.1.row (by omega)]; omega) (hI _ aC) (hI _ aC)
 (refine aA rfl (aMF (R := a.rows.length) (C := (gt a.rows 0).es.length) (g := 208) (fs := #[]) (cs := #[pb p1]) (k0 := k) (by omega) (by omega) (at2 a.q) hg) rfl rfl ?_; rintro _ _ _ ⟨bo, rows, rfl, h1, h2, h3, rfl, rfl⟩; refine ⟨OkD.any (SubP.drop (zA SubP.refl)) aD, ?_⟩)
 rw [lR] at h1
 rw [lC] at h2
 rw [lR, lC] at h3
 have e1 : (a.rows.length : Int) = R := by omega
 repeat (refine aI ?_)
 refine aN (by first | exact .inl rfl | exact .inr rfl) rfl rfl _ _ aF aD (⟨bo, rows, by rw [lR], h1, h2, h3, rfl, rfl⟩)
end
end Go.Proofs.YtgeagiikkeiioaaGreat
namespace Go.Proofs.YtgeagiikkeiioaaGreat
open Go Go.Fx
def mulC (a b : WM) : Int := if a.ok ∧ b.ok then (if (gt a.rows 0).es.length = b.rows.length then 0 else 4) else 1
def listC (a : WM) (x : WL) (n : Nat) : Int := if a.ok then (if x.good then (if x.es.length = n then 0 else 4) else 1) else 1
section
variable {X : List Nat} {w0 : World} {M0 : List Ent} {I0 : List bD}
end
end Go.Proofs.YtgeagiikkeiioaaGreat
namespace Go.Proofs.YtgeagiikkeiioaaGreat
open Go Go.Fx
def yE (A : Mt) (R C : Nat) : Prop := A.length = R ∧ ∀ i, i < R → (rowAt A i).length = C
theorem rowAt_set {A : Mt} {i a : Nat} {l : List Rat} (hi : i < A.length) : rowAt (A.set i l) a = if a = i then l else rowAt A a := by
 unfold rowAt
 simp only [List.getD, List.getElem?_set]
 by_cases e : a = i
 ·subst e; simp [hi]
 ·have e' : ¬ i = a := fun h => e h.symm
  simp [e, e']
theorem aJK {A : Mt} {a : Nat} {f : Nat → List Rat → List Rat} (h : a < A.length) : rowAt (A.mapIdx f) a = f a (rowAt A a) := by
 simp [rowAt, List.getD, h]
theorem uH {A : Mt} {R C r k a : Nat} (h : yE A R C) (hr : r < R) (hk : k < R) : rowAt (swp A r k) a = rowAt A (tr r k a) := by
 unfold swp
 rw [rowAt_set (by rw [List.length_set, h.1]; exact hk), rowAt_set (by rw [h.1]; exact hr)]
 simp only [tr]
 by_cases e1 : a = k
 ·subst e1
  rw [if_pos rfl]
  by_cases e2 : a = r
  ·rw [if_pos e2, e2]
  ·rw [if_neg e2, if_pos rfl]
 ·rw [if_neg e1, if_neg e1]
  by_cases e2 : a = r
  ·rw [if_pos e2, if_pos e2]
  ·rw [if_neg e2, if_neg e2]
theorem aHQ {A : Mt} {R C r k : Nat} (h : yE A R C) (hr : r < R) (hk : k < R) : yE (swp A r k) R C :=
 ⟨by unfold swp; rw [List.length_set, List.length_set]; exact h.1, fun i hi => by rw [uH h hr hk]; exact h.2 _ (xY hr hk hi)⟩
theorem xX {l : List Rat} {f : Nat → Rat → Rat} {c : Nat} (h : c < l.length) : (l.mapIdx f).getD c 0 = f c (l.getD c 0) := by
 simp [List.getD, h]
theorem yT {B : Mt} {r j a : Nat} {pr : List Rat} (h : a < B.length) : rowAt (uB B r j pr) a = if a = r then rowAt B a else if (rowAt B a).getD j 0 = 0 then rowAt B a else nQ j ((rowAt B a).getD j 0) pr (rowAt B a) := by
 unfold uB
 rw [aJK h]
theorem aLQ {A : Mt} {R C r j x : Nat} (h : yE A R C) (hr : r < R) (hx : x < R) : yE (rV A r j x) R C := by
 have hs := aHQ (r := r) (k := x) h hr hx
 unfold rV
 refine ⟨by unfold uB; rw [List.length_mapIdx, List.length_set]; exact hs.1, fun i hi => ?_⟩
 have hb : rowAt ((swp A r x).set r (iV j (1 / at2 (swp A r x) r j) (rowAt (swp A r x) r))) i = if i = r then iV j (1 / at2 (swp A r x) r j) (rowAt (swp A r x) r) else rowAt (swp A r x) i := rowAt_set (by rw [hs.1]; exact hr)
 rw [yT (by rw [List.length_set, hs.1]; exact hi), hb]
 by_cases e : i = r
 ·rw [if_pos e, if_pos e]; simp only [iV, List.length_mapIdx]; exact hs.2 r hr
 ·rw [if_neg e, if_neg e]
  split
  ·exact hs.2 i hi
  ·simp only [nQ, List.length_mapIdx]; exact hs.2 i hi
theorem aDP {A : Mt} {R C r j x : Nat} (h : yE A R C) (hr : r < R) (hx : x < R) (hj : j < C) (hz : ∀ b, b < j → at2 A x b = 0) : ∀ a b, a < R → b < C →
  at2 (rV A r j x) a b = elm r x (1 / at2 A x j) (fun a => at2 A (tr r x a) j) (at2 A) a b := by
 intro a b ha hb
 have hs := aHQ (r := r) (k := x) h hr hx
 have hat : ∀ i c, at2 (swp A r x) i c = at2 A (tr r x i) c := fun i c => by unfold at2; rw [uH h hr hx]
 have htr : tr r x r = x := by simp [tr]
 have hrow : (rowAt (swp A r x) r) = rowAt A x := by rw [uH h hr hx, htr]
 have hκ : at2 (swp A r x) r j = at2 A x j := by rw [hat, htr]
 obtain ⟨κ, hk⟩ : ∃ κ, κ = 1 / at2 A x j := ⟨_, rfl⟩
 rw [← hk]
 have hpr : ∀ c, c < C → (iV j κ (rowAt A x)).getD c 0 = κ * at2 A x c := fun c hc => by
  unfold iV
  rw [xX (by rw [h.2 x hx]; exact hc)]
  by_cases e : c < j
  ·rw [if_pos e]
   have := hz c e
   rw [this]
   unfold at2 at this
   rw [this]; grind
  ·rw [if_neg e]; rfl
 have e1 : at2 (rV A r j x) a b = (rowAt (rV A r j x) a).getD b 0 := rfl
 rw [e1]
 unfold rV
 rw [hκ, hrow, ← hk]
 have hbb : rowAt ((swp A r x).set r (iV j κ (rowAt A x))) a = if a = r then iV j κ (rowAt A x) else rowAt (swp A r x) a := rowAt_set (by rw [hs.1]; exact hr)
 rw [yT (by rw [List.length_set, hs.1]; exact ha), hbb]
 simp only [elm, htr]
 by_cases e : a = r
 ·rw [if_pos e, if_pos e, if_pos e]; exact hpr b hb
 ·rw [if_neg e, if_neg e, if_neg e, uH h hr hx]
  have hc : (rowAt A (tr r x a)).getD j 0 = at2 A (tr r x a) j := rfl
  rw [hc]
  by_cases e0 : at2 A (tr r x a) j = 0
  ·rw [if_pos e0, e0]
   show at2 A (tr r x a) b = _
   grind
  ·rw [if_neg e0]
   unfold nQ
   rw [xX (by rw [h.2 _ (xY hr hx ha)]; exact hb)]
   show (if b < j then at2 A (tr r x a) b else at2 A (tr r x a) b - _) = _
   by_cases ej : b < j
   ·rw [if_pos ej, hz b ej]; grind
   ·rw [if_neg ej, hpr b hb]
theorem uU {A : Mt} {j : Nat} : ∀ (f k : Nat), k + f = A.length → ∀ i, k ≤ i → i < kS A j f k → at2 A i j = 0
 | 0, k, _, i, h1, h2 => by simp [kS] at h2; omega
 | f + 1, k, h, i, h1, h2 => by
  unfold kS at h2
  by_cases hc : k < A.length ∧ at2 A k j = 0
  ·rw [if_pos hc] at h2
   by_cases e : i = k
   ·subst e; exact hc.2
   ·exact uU f (k + 1) (by omega) i (by omega) h2
  ·rw [if_neg hc] at h2; omega
theorem sO {A : Mt} {R C : Nat} (h : yE A R C) : ∀ n, n ≤ C → yE (kM A n).1 R C ∧ ∃ s, Red R C n (at2 A) (at2 (kM A n).1) (kM A n).2 s
 | 0, _ => ⟨h, 1, Red.start⟩
 | n + 1, hn => by
  obtain ⟨hd, s, hr⟩ := sO h n (by omega)
  rw [qX]
  generalize kM A n = st at hd hr
  obtain ⟨B, pv⟩ := st
  simp only at hd hr
  have hlen := hr.len
  obtain ⟨f1, f2, f3⟩ := wL (A := B) (j := n) (B.length - pv.length) pv.length (by rw [hd.1]; omega)
  have f4 := uU (A := B) (j := n) (B.length - pv.length) pv.length (by rw [hd.1]; omega)
  unfold aFX
  simp only
  generalize kS B n (B.length - pv.length) pv.length = x at f1 f2 f3 f4
  by_cases hx : x < B.length
  ·rw [if_pos hx]
   rw [hd.1] at hx
   refine ⟨aLQ hd (by omega) hx, _, hr.step (x := x) (by omega) f1 hx (f3 (by rw [hd.1]; exact hx)) (aDP hd (by omega) hx (by omega) (fun b hb => hr.zero x b f1 hx hb))⟩
  ·rw [if_neg hx]
   exact ⟨hd, s, hr.none (fun i h1 h2 => f4 i h1 (by rw [hd.1] at hx; omega))⟩
end Go.Proofs.YtgeagiikkeiioaaGreat
