/- Determinants, plain: sums, expansion along the first row, what operations on rows do to it. Elimination, plain: what a step does to products, determinants, solutions; the reduced form; inverse matrices. -/
import Derived.Test.YtjbhdfpjnjedhaaGreatZpaz
set_option linter.unusedSimpArgs false
set_option linter.unusedVariables false
set_option maxRecDepth 100000
set_option maxHeartbeats 4000000
namespace Go.Proofs.YtjbhdfpjnjedhaaGreat
def sm : Nat → (Nat → Rat) → Rat
 | 0, _ => 0
 | n + 1, f => sm n f + f n
theorem dG {n : Nat} {f g : Nat → Rat} (h : ∀ i, i < n → f i = g i) : sm n f = sm n g := by
 induction n with
 | zero => rfl
 | succ n ih => simp only [sm]; rw [ih (fun i hi => h i (by omega)), h n (by omega)]
theorem zG {n : Nat} {f : Nat → Rat} (h : ∀ i, i < n → f i = 0) : sm n f = 0 := by
 induction n with
 | zero => rfl
 | succ n ih => simp only [sm]; rw [ih (fun i hi => h i (by omega)), h n (by omega)]; grind
theorem xG {n : Nat} {f g : Nat → Rat} : sm n (fun i => f i + g i) = sm n f + sm n g := by
 induction n with
 | zero => simp only [sm]; grind
 | succ n ih => simp only [sm]; rw [ih]; grind
theorem mE {n : Nat} {f : Nat → Rat} {c : Rat} : sm n (fun i => c * f i) = c * sm n f := by
 induction n with
 | zero => simp only [sm]; grind
 | succ n ih => simp only [sm]; rw [ih]; grind
theorem aHZ {n : Nat} {f g : Nat → Rat} {c d : Rat} : sm n (fun i => c * f i + d * g i) = c * sm n f + d * sm n g := by
 rw [xG, mE, mE]
theorem zS {n m : Nat} {f : Nat → Nat → Rat} : sm n (fun i => sm m (fun j => f i j)) = sm m (fun j => sm n (fun i => f i j)) := by
 induction n with
 | zero => simp only [sm]; rw [zG (fun _ _ => rfl)]
 | succ n ih => simp only [sm]; rw [ih, ← xG]
theorem vS {n p : Nat} {f : Nat → Rat} (hp : p < n) (h : ∀ i, i < n → i ≠ p → f i = 0) : sm n f = f p := by
 induction n with
 | zero => omega
 | succ n ih =>
  simp only [sm]
  by_cases e : p = n
  ·subst e
   rw [zG (fun i hi => h i (by omega) (by omega))]; grind
  ·rw [ih (by omega) (fun i hi hne => h i (by omega) hne), h n (by omega) (fun e' => e e'.symm)]; grind
def sk (j k : Nat) : Nat := if k < j then k else k + 1
theorem aSA {n j : Nat} {g : Nat → Rat} (hj : j ≤ n) : sm (n + 1) g = g j + sm n (fun k => g (sk j k)) := by
 induction n with
 | zero =>
  obtain rfl : j = 0 := by omega
  simp only [sm]; grind
 | succ n ih =>
  by_cases e : j = n + 1
  ·subst e
   have : sm (n + 1) (fun k => g (sk (n + 1) k)) = sm (n + 1) g := dG (fun i hi => by simp only [sk]; rw [if_pos (by omega)])
   rw [this]
   simp only [sm]; grind
  ·have h1 := ih (by omega)
   have h2 : sm (n + 1) (fun k => g (sk j k)) = sm n (fun k => g (sk j k)) + g (n + 1) := by
    simp only [sm]
    have : sk j n = n + 1 := by simp only [sk]; rw [if_neg (by omega)]
    rw [this]
   rw [h2]
   show sm (n + 1) g + g (n + 1) = _
   rw [h1]; grind
def sgd (j : Nat) : Rat := if j % 2 = 0 then 1 else -1
def dt : Nat → (Nat → Nat → Rat) → Rat
 | 0, _ => 1
 | n + 1, f => sm (n + 1) (fun j => sgd j * f 0 j * dt n (fun i k => f (i + 1) (sk j k)))
theorem kF : ∀ {n : Nat} {f g : Nat → Nat → Rat}, (∀ i j, i < n → j < n → f i j = g i j) → dt n f = dt n g
 | 0, _, _, _ => rfl
 | n + 1, f, g, h => by
  simp only [dt]
  apply dG
  intro j hj
  rw [h 0 j (by omega) hj, kF (n := n) (f := fun i k => f (i + 1) (sk j k)) (g := fun i k => g (i + 1) (sk j k)) (fun i k hi hk => h _ _ (by omega) (by simp only [sk]; split <;> omega))]
def wP (f : Nat → Nat → Rat) (i : Nat) (r : Nat → Rat) : Nat → Nat → Rat := fun a b => if a = i then r b else f a b
theorem aIL : ∀ {n : Nat} {f : Nat → Nat → Rat} {i : Nat} {r s : Nat → Rat} {x y : Rat}, i < n → dt n (wP f i (fun b => x * r b + y * s b)) = x * dt n (wP f i r) + y * dt n (wP f i s)
 | 0, _, _, _, _, _, _, h => by omega
 | n + 1, f, 0, r, s, x, y, _ => by
  have hm : ∀ (t : Nat → Rat) (j : Nat), (fun i k => wP f 0 t (i + 1) (sk j k)) = fun i k => f (i + 1) (sk j k) := fun t j => by
   funext i k; simp only [wP]; rw [if_neg (by omega)]
  have h0 : ∀ (t : Nat → Rat) (j : Nat), wP f 0 t 0 j = t j := fun t j => by simp [wP]
  simp only [dt, hm, h0]
  rw [← aHZ]
  apply dG
  intro j _
  grind
 | n + 1, f, i + 1, r, s, x, y, h => by
  have hm : ∀ (t : Nat → Rat) (j : Nat), (fun a k => wP f (i + 1) t (a + 1) (sk j k)) = wP (fun a k => f (a + 1) (sk j k)) i (fun k => t (sk j k)) := fun t j => by
   funext a k; simp only [wP]
   by_cases e : a = i
   ·rw [if_pos (by omega), if_pos e]
   ·rw [if_neg (by omega), if_neg e]
  have h0 : ∀ (t : Nat → Rat) (j : Nat), wP f (i + 1) t 0 j = f 0 j := fun t j => by simp only [wP]; rw [if_neg (by omega)]
  simp only [dt, hm, h0]
  rw [← aHZ]
  apply dG
  intro j _
  rw [aIL (n := n) (f := fun a k => f (a + 1) (sk j k)) (i := i) (r := fun k => r (sk j k)) (s := fun k => s (sk j k)) (by omega)]
  grind
def swn (f : Nat → Nat → Rat) (i : Nat) : Nat → Nat → Rat := fun a b => if a = i then f (i + 1) b else if a = i + 1 then f i b else f a b
def usk (j k : Nat) : Nat := if k < j then k else k - 1
theorem aVZ (j k : Nat) : usk j (sk j k) = k := by
 by_cases h : k < j
 ·simp [usk, sk, h]
 ·simp [usk, sk, h, show ¬ k + 1 < j by omega]
theorem aVP {n j : Nat} {g : Nat → Rat} (hj : j ≤ n) : sm n (fun k => g (sk j k)) = sm (n + 1) (fun k => if k = j then 0 else g k) := by
 rw [aSA (g := fun k => if k = j then 0 else g k) hj, if_pos rfl]
 have : sm n (fun k => (fun k => if k = j then (0 : Rat) else g k) (sk j k)) = sm n (fun k => g (sk j k)) := dG (fun k _ => by
  have : sk j k ≠ j := by simp only [sk]; split <;> omega
  simp only [if_neg this])
 rw [this]; grind
def tw (j k : Nat) : Rat := sgd j * sgd (usk j k)
theorem aGU {j : Nat} (h : 0 < j) : sgd (j - 1) = - sgd j := by
 unfold sgd
 by_cases a : j % 2 = 0
 ·have : ¬ (j - 1) % 2 = 0 := by omega
  simp [a, this]
 ·have : (j - 1) % 2 = 0 := by omega
  simp [a, this]
theorem aTE {j k : Nat} (h : j ≠ k) : tw j k = - tw k j := by
 unfold tw
 rcases Nat.lt_or_ge k j with h1 | h1
 ·have e1 : usk j k = k := by simp [usk, h1]
  have e2 : usk k j = j - 1 := by simp [usk, show ¬ j < k by omega]
  rw [e1, e2, aGU (by omega)]; grind
 ·have e1 : usk j k = k - 1 := by simp [usk, show ¬ k < j by omega]
  have e2 : usk k j = j := by simp [usk, show j < k by omega]
  rw [e1, e2, aGU (by omega)]; grind
theorem aVD {j k l : Nat} (h : j ≠ k) : sk j (sk (usk j k) l) = sk k (sk (usk k j) l) := by
 simp only [sk, usk]
 repeat' split
 all_goals omega
theorem aOC {n : Nat} {f : Nat → Nat → Rat} : dt (n + 2) f = sm (n + 2) (fun j => sm (n + 2) (fun k => if k = j then 0 else tw j k * f 0 j * f 1 k * dt n (fun i l => f (i + 2) (sk j (sk (usk j k) l))))) := by
 show sm (n + 2) (fun j => sgd j * f 0 j * dt (n + 1) (fun i k => f (i + 1) (sk j k))) = _
 apply dG
 intro j hj
 rw [← aVP (g := fun k => tw j k * f 0 j * f 1 k * dt n (fun i l => f (i + 2) (sk j (sk (usk j k) l)))) (by omega)]
 show sgd j * f 0 j * sm (n + 1) (fun k => sgd k * f 1 (sk j k) * dt n (fun i l => f (i + 2) (sk j (sk k l)))) = _
 rw [← mE]
 apply dG
 intro k _
 simp only [aVZ, tw]
 grind
theorem aRE {n : Nat} {f : Nat → Nat → Rat} : dt (n + 2) (swn f 0) = - dt (n + 2) f := by
 rw [aOC, aOC, zS]
 have e : ∀ x : Rat, -x = -1 * x := fun x => by grind
 rw [e, ← mE]
 apply dG
 intro j hj
 rw [← mE]
 apply dG
 intro k hk
 by_cases h : j = k
 ·rw [if_pos h, if_pos h.symm]; grind
 ·rw [if_neg h, if_neg (fun e => h e.symm), aTE (j := k) (k := j) (fun e => h e.symm)]
  have h0 : swn f 0 0 k = f 1 k := by simp [swn]
  have h1 : swn f 0 1 j = f 0 j := by simp [swn]
  have h2 : (fun i l => swn f 0 (i + 2) (sk k (sk (usk k j) l))) = fun i l => f (i + 2) (sk j (sk (usk j k) l)) := by
   funext i l
   rw [aVD h]
   simp only [swn]
   rw [if_neg (by omega), if_neg (by omega)]
  rw [h0, h1, h2]
  grind
theorem aIE : ∀ {n i : Nat} {f : Nat → Nat → Rat}, i + 1 < n → dt n (swn f i) = - dt n f
 | 0, _, _, h => by omega
 | 1, _, _, h => by omega
 | n + 2, 0, f, _ => aRE
 | n + 2, i + 1, f, h => by
  have hm : ∀ j : Nat, (fun a k => swn f (i + 1) (a + 1) (sk j k)) = swn (fun a k => f (a + 1) (sk j k)) i := fun j => by
   funext a k; simp only [swn]
   by_cases e : a = i
   ·rw [if_pos (by omega), if_pos e]
   ·rw [if_neg (by omega), if_neg e]
    by_cases e2 : a = i + 1
    ·rw [if_pos (by omega), if_pos e2]
    ·rw [if_neg (by omega), if_neg e2]
  have h0 : ∀ j : Nat, swn f (i + 1) 0 j = f 0 j := fun j => by simp only [swn]; rw [if_neg (by omega), if_neg (by omega)]
  show sm (n + 2) (fun j => sgd j * swn f (i + 1) 0 j * dt (n + 1) (fun a k => swn f (i + 1) (a + 1) (sk j k))) = - sm (n + 2) (fun j => sgd j * f 0 j * dt (n + 1) (fun a k => f (a + 1) (sk j k)))
  have e : ∀ x : Rat, -x = -1 * x := fun x => by grind
  rw [e, ← mE]
  apply dG
  intro j _
  rw [hm, h0, aIE (n := n + 1) (i := i) (by omega)]
  grind
theorem aXA {n i : Nat} {f : Nat → Nat → Rat} (h : i + 1 < n) (he : ∀ b, f i b = f (i + 1) b) : dt n f = 0 := by
 have h1 := aIE (f := f) h
 have h2 : swn f i = f := by
  funext a b; simp only [swn]
  by_cases e : a = i
  ·rw [if_pos e, e]; exact (he b).symm
  ·rw [if_neg e]
   by_cases e2 : a = i + 1
   ·rw [if_pos e2, e2]; exact he b
   ·rw [if_neg e2]
 rw [h2] at h1
 grind
theorem aHO : ∀ {d n p : Nat} {f : Nat → Nat → Rat}, p + d + 1 < n → (∀ b, f p b = f (p + d + 1) b) → dt n f = 0
 | 0, _, _, _, h, he => aXA h he
 | d + 1, n, p, f, h, he => by
  have h1 := aIE (n := n) (i := p + d + 1) (f := f) (by omega)
  have h2 : dt n (swn f (p + d + 1)) = 0 := by
   apply aHO (d := d) (p := p) (by omega)
   intro b
   have e1 : swn f (p + d + 1) p b = f p b := by simp [swn, show ¬ p = p + d + 1 by omega, show ¬ p = p + d + 1 + 1 by omega]
   have e2 : swn f (p + d + 1) (p + d + 1) b = f (p + d + 1 + 1) b := by simp [swn]
   rw [e1, e2]
   exact he b
  rw [h2] at h1
  grind
theorem dt_eq {n p q : Nat} {f : Nat → Nat → Rat} (hp : p < n) (hq : q < n) (hpq : p ≠ q) (he : ∀ b, f p b = f q b) : dt n f = 0 := by
 rcases Nat.lt_or_ge p q with h | h
 ·obtain ⟨d, rfl⟩ : ∃ d, q = p + d + 1 := ⟨q - p - 1, by omega⟩
  exact aHO hq he
 ·obtain ⟨d, rfl⟩ : ∃ d, p = q + d + 1 := ⟨p - q - 1, by omega⟩
  exact aHO hp (fun b => (he b).symm)
theorem aGE {f : Nat → Nat → Rat} {i : Nat} : wP f i (f i) = f := by
 funext a b; simp only [wP]; split
 ·rename_i h; rw [h]
 ·rfl
theorem uL {n i p : Nat} {f : Nat → Nat → Rat} {c : Rat} (hi : i < n) (hp : p < n) (hne : p ≠ i) : dt n (wP f i (fun b => f i b + c * f p b)) = dt n f := by
 have h1 := aIL (n := n) (f := f) (i := i) (r := f i) (s := f p) (x := 1) (y := c) hi
 have h2 : (fun b => (1 : Rat) * f i b + c * f p b) = fun b => f i b + c * f p b := by funext b; grind
 have h3 : dt n (wP f i (f p)) = 0 := dt_eq (p := p) (q := i) hp hi hne (fun b => by simp [wP, hne])
 rw [h2, h3, aGE] at h1
 rw [h1]; grind
theorem zX {n i : Nat} {f : Nat → Nat → Rat} {c : Rat} (hi : i < n) : dt n (wP f i (fun b => c * f i b)) = c * dt n f := by
 have h1 := aIL (n := n) (f := f) (i := i) (r := f i) (s := f i) (x := c) (y := 0) hi
 have h2 : (fun b => c * f i b + 0 * f i b) = fun b => c * f i b := by funext b; grind
 rw [h2, aGE] at h1
 rw [h1]; grind
def tr (r k a : Nat) : Nat := if a = r then k else if a = k then r else a
theorem yE {r k a n : Nat} (hr : r < n) (hk : k < n) (ha : a < n) : tr r k a < n := by simp only [tr]; split; assumption; split <;> assumption
theorem aKA {n r k : Nat} {f : Nat → Nat → Rat} (hr : r < n) (hk : k < n) (h : r ≠ k) : dt n (fun a b => f (tr r k a) b) = - dt n f := by
 have a1 := uL (n := n) (i := r) (p := k) (f := f) (c := 1) hr hk (fun e => h e.symm)
 obtain ⟨f1, hf1⟩ : ∃ f1, f1 = wP f r (fun b => f r b + 1 * f k b) := ⟨_, rfl⟩
 rw [← hf1] at a1
 have a2 := uL (n := n) (i := k) (p := r) (f := f1) (c := -1) hk hr h
 obtain ⟨f2, hf2⟩ : ∃ f2, f2 = wP f1 k (fun b => f1 k b + -1 * f1 r b) := ⟨_, rfl⟩
 rw [← hf2] at a2
 have a3 := uL (n := n) (i := r) (p := k) (f := f2) (c := 1) hr hk (fun e => h e.symm)
 obtain ⟨f3, hf3⟩ : ∃ f3, f3 = wP f2 r (fun b => f2 r b + 1 * f2 k b) := ⟨_, rfl⟩
 rw [← hf3] at a3
 have a4 := zX (n := n) (i := k) (f := f3) (c := -1) hk
 have e : wP f3 k (fun b => -1 * f3 k b) = fun a b => f (tr r k a) b := by
  funext a b
  simp only [hf3, hf2, hf1, wP, tr]
  have hkr : ¬ k = r := fun e => h e.symm
  by_cases e1 : a = k
  ·subst e1
   simp only [if_true, if_neg hkr, if_neg h]
   grind
  ·by_cases e2 : a = r
   ·subst e2
    simp only [if_neg h, if_neg hkr, if_true]
    grind
   ·simp only [if_neg e1, if_neg e2]
 rw [e, a3, a2, a1] at a4
 rw [a4]; grind
theorem aFK : ∀ {n : Nat} {f : Nat → Nat → Rat}, (∀ i, i < n + 1 → f i 0 = 0) → dt (n + 1) f = 0
 | 0, f, h => by simp only [dt, sm]; rw [h 0 (by omega)]; grind
 | n + 1, f, h => by
  show sm (n + 2) (fun j => sgd j * f 0 j * dt (n + 1) (fun i k => f (i + 1) (sk j k))) = 0
  apply zG
  intro j hj
  by_cases e : j = 0
  ·subst e; rw [h 0 (by omega)]; grind
  ·rw [aFK (n := n) (fun i hi => by show f (i + 1) (sk j 0) = 0; simp only [sk]; rw [if_pos (by omega)]; exact h _ (by omega))]; grind
theorem aFV {n : Nat} {f : Nat → Nat → Rat} (h : ∀ i, 1 ≤ i → i < n + 1 → f i 0 = 0) : dt (n + 1) f = f 0 0 * dt n (fun i k => f (i + 1) (k + 1)) := by
 show sm (n + 1) (fun j => sgd j * f 0 j * dt n (fun i k => f (i + 1) (sk j k))) = _
 rw [vS (p := 0) (by omega)]
 ·have : (fun i k => f (i + 1) (sk 0 k)) = fun i k => f (i + 1) (k + 1) := by
   funext i k; simp only [sk]; rw [if_neg (by omega)]
  rw [this]
  have : sgd 0 = 1 := by simp [sgd]
  rw [this]; grind
 ·intro j hj hne
  cases n with
  | zero => omega
  | succ n =>
   rw [aFK (n := n) (fun i hi => by show f (i + 1) (sk j 0) = 0; simp only [sk]; rw [if_pos (by omega)]; exact h _ (by omega) (by omega))]; grind
theorem aSO {n i : Nat} {f : Nat → Nat → Rat} (hi : i < n) (h : ∀ j, j < n → f i j = 0) : dt n f = 0 := by
 have h1 := zX (n := n) (i := i) (f := f) (c := 0) hi
 have h2 : dt n (wP f i (fun b => 0 * f i b)) = dt n f := kF (fun a b _ hb => by
  simp only [wP]; split
  ·rename_i e; rw [e, h b hb]; grind
  ·rfl)
 rw [h2] at h1
 rw [h1]; grind
theorem aLB {n r : Nat} {f : Nat → Nat → Rat} {c : Nat → Rat} (hr : r < n) : dt n (fun a b => if a = r then f r b else f a b - c a * f r b) = dt n f := by
 have step : ∀ m, m ≤ n → dt n (fun a b => if a = r then f r b else if a < m then f a b - c a * f r b else f a b) = dt n f := by
  intro m
  induction m with
  | zero => intro _; exact kF (fun a b _ _ => by by_cases e : a = r <;> simp [e])
  | succ m ih =>
   intro hm
   have h1 := ih (by omega)
   by_cases e : m = r
   ·rw [← h1]
    apply kF
    intro a b _ _
    by_cases ea : a = r
    ·rw [if_pos ea, if_pos ea]
    ·rw [if_neg ea, if_neg ea]
     by_cases em : a < m
     ·rw [if_pos em, if_pos (by omega)]
     ·rw [if_neg em, if_neg (by omega)]
   ·obtain ⟨g, hg⟩ : ∃ g : Nat → Nat → Rat, g = fun a b => if a = r then f r b else if a < m then f a b - c a * f r b else f a b := ⟨_, rfl⟩
    rw [← hg] at h1
    have h2 := uL (n := n) (i := m) (p := r) (f := g) (c := - c m) (by omega) hr (fun e' => e e'.symm)
    rw [h1] at h2
    rw [← h2]
    apply kF
    intro a b _ _
    have hgr : ∀ b, g r b = f r b := fun b => by rw [hg]; simp
    have hgm : ∀ b, g m b = f m b := fun b => by rw [hg]; simp [e]
    simp only [wP]
    by_cases ea : a = r
    ·subst ea
     rw [if_pos rfl, if_neg (fun e' => e e'.symm), hgr]
    ·rw [if_neg ea]
     by_cases em : a = m
     ·subst em
      rw [if_pos (by omega), if_pos rfl, hgm, hgr]; grind
     ·rw [if_neg em, hg]
      by_cases el : a < m
      ·simp [ea, el, show a < m + 1 by omega]
      ·simp [ea, el, show ¬ a < m + 1 by omega]
 rw [← step n (Nat.le_refl _)]
 apply kF
 intro a b ha _
 by_cases ea : a = r
 ·rw [if_pos ea, if_pos ea]
 ·rw [if_neg ea, if_neg ea, if_pos ha]
def elm (r k : Nat) (κ : Rat) (c : Nat → Rat) (f : Nat → Nat → Rat) : Nat → Nat → Rat := fun a b => if a = r then κ * f (tr r k r) b else f (tr r k a) b - c a * (κ * f (tr r k r) b)
def esg (r k : Nat) : Rat := if r = k then 1 else -1
theorem aWN {n r k : Nat} {κ : Rat} {c : Nat → Rat} {f : Nat → Nat → Rat} (hr : r < n) (hk : k < n) : dt n (elm r k κ c f) = esg r k * κ * dt n f := by
 obtain ⟨g, hg⟩ : ∃ g : Nat → Nat → Rat, g = fun a b => f (tr r k a) b := ⟨_, rfl⟩
 have h1 : dt n g = esg r k * dt n f := by
  rw [hg]
  unfold esg
  by_cases e : r = k
  ·subst e
   rw [if_pos rfl, show (fun a b => f (tr r r a) b) = f by funext a b; simp only [tr]; split <;> simp_all]; grind
  ·rw [if_neg e, aKA hr hk e]; grind
 have h2 := zX (n := n) (i := r) (f := g) (c := κ) hr
 obtain ⟨s, hs⟩ : ∃ s, s = wP g r (fun b => κ * g r b) := ⟨_, rfl⟩
 rw [← hs] at h2
 have h3 := aLB (n := n) (r := r) (f := s) (c := c) hr
 have h4 : elm r k κ c f = fun a b => if a = r then s r b else s a b - c a * s r b := by
  funext a b
  have hsr : s r b = κ * f (tr r k r) b := by rw [hs, hg]; simp [wP]
  simp only [elm]
  rw [hsr]
  by_cases e : a = r
  ·rw [if_pos e, if_pos e]
  ·rw [if_neg e, if_neg e, hs, hg]; simp [wP, e]
 rw [h4, h3, h2, h1]; grind
end Go.Proofs.YtjbhdfpjnjedhaaGreat
namespace Go.Proofs.YtjbhdfpjnjedhaaGreat
def rP (n : Nat) (f g : Nat → Nat → Rat) : Nat → Nat → Rat := fun i j => sm n (fun k => f i k * g k j)
def pR (i j : Nat) : Rat := if i = j then 1 else 0
theorem vP {n : Nat} {f f' g g' : Nat → Nat → Rat} {i j : Nat} (h1 : ∀ k, k < n → f i k = f' i k) (h2 : ∀ k, k < n → g k j = g' k j) : rP n f g i j = rP n f' g' i j := dG (fun k hk => by rw [h1 k hk, h2 k hk])
theorem aGQ {n : Nat} {f : Nat → Nat → Rat} {i j : Nat} (hj : j < n) : rP n f pR i j = f i j := by
 unfold rP
 rw [vS hj (fun k _ hne => by simp only [pR]; rw [if_neg hne]; grind)]
 simp only [pR, if_true]; grind
theorem aUX (r k a : Nat) : tr r k (tr r k a) = a := by
 simp only [tr]
 repeat' split
 all_goals omega
theorem aKL {n r k : Nat} {κ : Rat} {c : Nat → Rat} {f g : Nat → Nat → Rat} : rP n (elm r k κ c f) g = elm r k κ c (rP n f g) := by
 funext a b
 simp only [rP, elm]
 by_cases e : a = r
 ·simp only [if_pos e]
  rw [← mE]
  exact dG (fun i _ => by grind)
 ·simp only [if_neg e]
  have h1 : ∀ i, (f (tr r k a) i - c a * (κ * f (tr r k r) i)) * g i b = 1 * (f (tr r k a) i * g i b) + (- (c a * κ)) * (f (tr r k r) i * g i b) := fun i => by grind
  simp only [h1]
  rw [aHZ]; grind
def ker (R C : Nat) (f : Nat → Nat → Rat) (z : Nat → Rat) : Prop := ∀ i, i < R → sm C (fun j => f i j * z j) = 0
theorem aNH {R C : Nat} {f g : Nat → Nat → Rat} {z : Nat → Rat} (h : ∀ a b, a < R → b < C → f a b = g a b) : ker R C f z ↔ ker R C g z := by
 unfold ker
 constructor
 ·intro hk i hi; rw [← hk i hi]; exact dG (fun j hj => by rw [h i j hi hj])
 ·intro hk i hi; rw [← hk i hi]; exact dG (fun j hj => by rw [h i j hi hj])
theorem aSM {R C r k : Nat} {κ : Rat} {c : Nat → Rat} {f : Nat → Nat → Rat} {z : Nat → Rat} (hr : r < R) (hk : k < R) (hκ : κ ≠ 0) : ker R C (elm r k κ c f) z ↔ ker R C f z := by
 obtain ⟨φ, hφ⟩ : ∃ φ : Nat → Rat, φ = fun i => sm C (fun j => f i j * z j) := ⟨_, rfl⟩
 have h1 : ∀ a, sm C (fun j => elm r k κ c f a j * z j) = if a = r then κ * φ (tr r k r) else φ (tr r k a) - c a * (κ * φ (tr r k r)) := fun a => by
  have := congrFun (congrFun (aKL (n := C) (r := r) (k := k) (κ := κ) (c := c) (f := f) (g := fun j _ => z j)) a) 0
  simp only [rP] at this
  rw [this, hφ]; rfl
 unfold ker
 constructor
 ·intro hz
  have h0 : φ (tr r k r) = 0 := by
   have := hz r hr
   rw [h1, if_pos rfl] at this
   rcases Rat.mul_eq_zero.1 this with e | e
   ·exact absurd e hκ
   ·exact e
  intro i hi
  have hφi : sm C (fun j => f i j * z j) = φ i := by rw [hφ]
  rw [hφi]
  by_cases e : tr r k i = r
  ·have : i = tr r k r := by have := aUX r k i; rw [e] at this; exact this.symm
   rw [this]; exact h0
  ·have := hz (tr r k i) (yE hr hk hi)
   rw [h1, if_neg e, aUX, h0] at this
   grind
 ·intro hz i hi
  have hφ0 : ∀ i, i < R → φ i = 0 := fun i hi => by rw [hφ]; exact hz i hi
  rw [h1, hφ0 _ (yE hr hk hr), hφ0 _ (yE hr hk hi)]
  split <;> grind
structure Red (R C j : Nat) (f0 f : Nat → Nat → Rat) (pv : List Nat) (s : Rat) : Prop where
 hs : s ≠ 0
 det : ∀ m g, m ≤ C → dt R (rP m f g) = s * dt R (rP m f0 g)
 ker : ∀ z, ker R C f z ↔ ker R C f0 z
 len : pv.length ≤ R
 inc : ∀ t, t < pv.length → pv.getD t 0 < j ∧ t ≤ pv.getD t 0 ∧ ∀ u, u < t → pv.getD u 0 < pv.getD t 0
 unit : ∀ t i, t < pv.length → i < R → f i (pv.getD t 0) = pR i t
 zero : ∀ i b, pv.length ≤ i → i < R → b < j → f i b = 0
theorem Red.start {R C : Nat} {f : Nat → Nat → Rat} : Red R C 0 f f [] 1 :=
 ⟨by decide, fun m g _ => by grind, fun z => Iff.rfl, by simp, fun t ht => by simp at ht, fun t i ht => by simp at ht, fun i b _ _ hb => by omega⟩
theorem Red.none {R C j : Nat} {f0 f : Nat → Nat → Rat} {pv : List Nat} {s : Rat} (h : Red R C j f0 f pv s) (hz : ∀ i, pv.length ≤ i → i < R → f i j = 0) : Red R C (j + 1) f0 f pv s :=
 ⟨h.hs, h.det, h.ker, h.len, fun t ht => ⟨by have := (h.inc t ht).1; omega, (h.inc t ht).2⟩, h.unit, fun i b hi hR hb => by
  by_cases e : b = j
  ·subst e; exact hz i hi hR
  ·exact h.zero i b hi hR (by omega)⟩
theorem Red.step {R C j x : Nat} {f0 f f' : Nat → Nat → Rat} {pv : List Nat} {s : Rat} (h : Red R C j f0 f pv s) (hj : j < C) (hx : pv.length ≤ x) (hxR : x < R) (hn : f x j ≠ 0)
  (hf : ∀ a b, a < R → b < C → f' a b = elm pv.length x (1 / f x j) (fun a => f (tr pv.length x a) j) f a b) : Red R C (j + 1) f0 f' (pv ++ [j]) (esg pv.length x * (1 / f x j) * s) := by
 obtain ⟨r, hr⟩ : ∃ r, r = pv.length := ⟨_, rfl⟩
 rw [← hr] at hf hx ⊢
 obtain ⟨κ, hκ⟩ : ∃ κ, κ = 1 / f x j := ⟨_, rfl⟩
 have hκ1 : κ * f x j = 1 := by rw [hκ]; grind
 have hκ0 : κ ≠ 0 := fun e => by rw [e] at hκ1; grind
 rw [← hκ] at hf ⊢
 have hrR : r < R := by omega
 have hes : esg r x ≠ 0 := by unfold esg; split <;> decide
 have htr : tr r x r = x := by simp [tr]
 have hf1 : ∀ b, b < C → f' r b = κ * f x b := fun b hb => by rw [hf r b hrR hb]; simp only [elm, if_true, htr]
 have hf2 : ∀ a b, a < R → b < C → a ≠ r → f' a b = f (tr r x a) b - f (tr r x a) j * (κ * f x b) := fun a b ha hb hne => by rw [hf a b ha hb]; simp only [elm, if_neg hne, htr]
 have hcol : ∀ i, i < R → f' i j = pR i r := fun i hi => by
  by_cases e : i = r
  ·subst e; rw [hf1 j hj, hκ1]; simp [pR]
  ·rw [hf2 i j hi hj e, hκ1]; simp only [pR, if_neg e]; grind
 have hxz : ∀ b, b < j → f x b = 0 := fun b hb => h.zero x b (by omega) hxR hb
 have hlow : ∀ i b, i < R → b < j → i ≠ r → f' i b = f (tr r x i) b := fun i b hi hb hne => by
  rw [hf2 i b hi (by omega) hne, hxz b hb]; grind
 refine ⟨fun e => ?_, fun m g hm => ?_, fun z => ?_, ?_, fun t ht => ?_, fun t i ht hi => ?_, fun i b hi hR hb => ?_⟩
 ·rcases Rat.mul_eq_zero.1 e with e | e
  ·rcases Rat.mul_eq_zero.1 e with e | e
   ·exact hes e
   ·exact hκ0 e
  ·exact h.hs e
 ·have h1 : dt R (rP m f' g) = dt R (rP m (elm r x κ (fun a => f (tr r x a) j) f) g) := kF (fun i k hi _ => vP (fun t ht => hf i t hi (by omega)) (fun _ _ => rfl))
  rw [h1, aKL, aWN hrR hxR, h.det m g hm]
  grind
 ·exact (aNH hf).trans ((aSM hrR hxR hκ0).trans (h.ker z))
 ·simp; omega
 ·have hl : (pv ++ [j]).length = r + 1 := by simp [hr]
  by_cases e : t = r
  ·subst e
   have e1 : (pv ++ [j]).getD t 0 = j := by simp [List.getD, hr]
   rw [e1]
   refine ⟨by omega, ?_, fun u hu => ?_⟩
   ·by_cases e0 : t = 0
    ·omega
    ·have := h.inc (t - 1) (by omega); omega
   ·have e2 : (pv ++ [j]).getD u 0 = pv.getD u 0 := by simp [List.getD, List.getElem?_append_left (show u < pv.length by omega)]
    rw [e2]; exact (h.inc u (by omega)).1
  ·have ht' : t < pv.length := by omega
   have e2 : ∀ u, u ≤ t → (pv ++ [j]).getD u 0 = pv.getD u 0 := fun u hu => by simp [List.getD, List.getElem?_append_left (show u < pv.length by omega)]
   obtain ⟨a1, a2, a3⟩ := h.inc t ht'
   rw [e2 t (Nat.le_refl _)]
   exact ⟨by omega, a2, fun u hu => by rw [e2 u (by omega)]; exact a3 u hu⟩
 ·have hl : (pv ++ [j]).length = r + 1 := by simp [hr]
  by_cases e : t = r
  ·subst e
   have e1 : (pv ++ [j]).getD t 0 = j := by simp [List.getD, hr]
   rw [e1]; exact hcol i hi
  ·have ht' : t < pv.length := by omega
   have e2 : (pv ++ [j]).getD t 0 = pv.getD t 0 := by simp [List.getD, List.getElem?_append_left ht']
   have hp := (h.inc t ht').1
   rw [e2]
   by_cases er : i = r
   ·subst er
    rw [hf1 _ (by omega), hxz _ hp]
    simp only [pR, if_neg (fun e' : i = t => e e'.symm)]; grind
   ·rw [hlow i _ hi hp er, h.unit t _ ht' (yE hrR hxR hi)]
    have : tr r x i = t ↔ i = t := by
     simp only [tr, if_neg er]
     split <;> omega
    simp only [pR]
    by_cases e3 : i = t
    ·rw [if_pos e3, if_pos (this.2 e3)]
    ·rw [if_neg e3, if_neg (fun e' => e3 (this.1 e'))]
 ·have hl : (pv ++ [j]).length = r + 1 := by simp [hr]
  rw [hl] at hi
  by_cases e : b = j
  ·subst e; rw [hcol i hR]; simp only [pR, if_neg (show ¬ i = r by omega)]
  ·rw [hlow i b hR (by omega) (by omega)]
   refine h.zero _ b ?_ (yE hrR hxR hR) (by omega)
   simp only [tr]; rw [← hr]
   repeat' split
   all_goals omega
theorem Red.full {n C : Nat} {f0 f : Nat → Nat → Rat} {pv : List Nat} {s : Rat} (h : Red n C n f0 f pv s) (hl : pv.length = n) : ∀ i t, i < n → t < n → f i t = pR i t := by
 intro i t hi ht
 have hp : ∀ d t, t + d + 1 = n → pv.getD t 0 = t := by
  intro d
  induction d with
  | zero => intro t he; have := h.inc t (by omega); omega
  | succ d ih =>
   intro t he
   have h1 := ih (t + 1) (by omega)
   have h2 := h.inc (t + 1) (by omega)
   have h3 := h2.2.2 t (by omega)
   have h4 := h.inc t (by omega)
   omega
 have := h.unit t i (by omega) hi
 rwa [hp (n - t - 1) t (by omega)] at this
theorem Red.short {n C : Nat} {f0 f : Nat → Nat → Rat} {pv : List Nat} {s : Rat} (h : Red n C n f0 f pv s) (hl : pv.length < n) : ∀ t, t < n → f (n - 1) t = 0 := fun t ht => h.zero (n - 1) t (by omega) (by omega) ht
theorem aQL : ∀ {n : Nat}, dt n pR = 1
 | 0 => rfl
 | n + 1 => by
  rw [aFV (fun i hi _ => by simp only [pR]; rw [if_neg (by omega)])]
  have : (fun i k => pR (i + 1) (k + 1)) = pR := by funext i k; simp [pR]
  rw [this, aQL]
  simp only [pR, if_true]; grind
theorem Red.dt {n C : Nat} {f0 f : Nat → Nat → Rat} {pv : List Nat} {s : Rat} (h : Red n C n f0 f pv s) (hC : n ≤ C) : dt n f = s * dt n f0 := by
 have := h.det n pR hC
 rwa [kF (fun i j _ hj => aGQ hj), kF (f := rP n f0 pR) (fun i j _ hj => aGQ hj)] at this
theorem Red.iff {n C : Nat} {f0 f : Nat → Nat → Rat} {pv : List Nat} {s : Rat} (h : Red n C n f0 f pv s) (hC : n ≤ C) : pv.length = n ↔ Go.Proofs.YtjbhdfpjnjedhaaGreat.dt n f0 ≠ 0 := by
 have h1 := h.dt hC
 constructor
 ·intro hl e
  rw [kF (h.full hl), aQL, e] at h1
  grind
 ·intro hne
  by_cases hl : pv.length < n
  ·rw [aSO (i := n - 1) (by omega) (h.short hl)] at h1
   rcases Rat.mul_eq_zero.1 h1.symm with e | e
   ·exact absurd e h.hs
   ·exact absurd e hne
  ·have := h.len; omega
theorem aGM {n m : Nat} {f : Nat → Rat} : sm (n + m) f = sm n f + sm m (fun k => f (n + k)) := by
 induction m with
 | zero => simp only [sm, Nat.add_zero]; grind
 | succ m ih => rw [← Nat.add_assoc]; simp only [sm]; rw [ih]; grind
theorem Red.inv {n : Nat} {a f0 f : Nat → Nat → Rat} {pv : List Nat} {s : Rat} (h : Red n (n + n) n f0 f pv s) (hl : pv.length = n) (h1 : ∀ i j, i < n → j < n → f0 i j = a i j) (h2 : ∀ i j, i < n → j < n → f0 i (n + j) = pR i j) :
  (∀ i j, i < n → j < n → rP n a (fun i j => f i (n + j)) i j = pR i j) ∧ (∀ i j, i < n → j < n → rP n (fun i j => f i (n + j)) a i j = pR i j) := by
 have hf := h.full hl
 have k0 : ∀ (x y : Nat → Rat), Go.Proofs.YtjbhdfpjnjedhaaGreat.ker n (n + n) f0 (fun t => if t < n then x t else y (t - n)) ↔ ∀ i, i < n → sm n (fun k => a i k * x k) + y i = 0 := fun x y => by
  unfold Go.Proofs.YtjbhdfpjnjedhaaGreat.ker
  have e : ∀ i, i < n → sm (n + n) (fun j => f0 i j * (if j < n then x j else y (j - n))) = sm n (fun k => a i k * x k) + y i := fun i hi => by
   rw [aGM, dG (n := n) (f := fun j => f0 i j * (if j < n then x j else y (j - n))) (g := fun k => a i k * x k) (fun k hk => by rw [h1 i k hi hk, if_pos hk])]
   rw [vS (f := fun k => f0 i (n + k) * (if n + k < n then x (n + k) else y (n + k - n))) hi (fun k hk hne => by rw [h2 i k hi hk]; simp only [pR]; rw [if_neg (fun e => hne e.symm)]; grind)]
   rw [h2 i i hi hi, if_neg (by omega), Nat.add_sub_cancel_left]; simp only [pR, if_true]; grind
  exact ⟨fun hk i hi => by rw [← e i hi]; exact hk i hi, fun hk i hi => by rw [e i hi]; exact hk i hi⟩
 have k1 : ∀ (x y : Nat → Rat), Go.Proofs.YtjbhdfpjnjedhaaGreat.ker n (n + n) f (fun t => if t < n then x t else y (t - n)) ↔ ∀ i, i < n → x i + sm n (fun k => f i (n + k) * y k) = 0 := fun x y => by
  unfold Go.Proofs.YtjbhdfpjnjedhaaGreat.ker
  have e : ∀ i, i < n → sm (n + n) (fun j => f i j * (if j < n then x j else y (j - n))) = x i + sm n (fun k => f i (n + k) * y k) := fun i hi => by
   rw [aGM, dG (n := n) (f := fun k => f i (n + k) * (if n + k < n then x (n + k) else y (n + k - n))) (g := fun k => f i (n + k) * y k) (fun k _ => by rw [if_neg (by omega), Nat.add_sub_cancel_left])]
   rw [vS (f := fun j => f i j * (if j < n then x j else y (j - n))) hi (fun k hk hne => by rw [hf i k hi hk]; simp only [pR]; rw [if_neg (fun e => hne e.symm)]; grind)]
   rw [hf i i hi hi, if_pos hi]; simp only [pR, if_true]; grind
  exact ⟨fun hk i hi => by rw [← e i hi]; exact hk i hi, fun hk i hi => by rw [e i hi]; exact hk i hi⟩
 have kk : ∀ (x y : Nat → Rat), (∀ i, i < n → x i + sm n (fun k => f i (n + k) * y k) = 0) ↔ ∀ i, i < n → sm n (fun k => a i k * x k) + y i = 0 := fun x y => (k1 x y).symm.trans ((h.ker _).trans (k0 x y))
 have neg : ∀ (g : Nat → Nat → Rat) (x : Nat → Rat) i, sm n (fun k => g i k * (-1 * x k)) = -1 * sm n (fun k => g i k * x k) := fun g x i => by
  rw [← mE]; exact dG (fun k _ => by grind)
 constructor
 ·intro i j hi hj
  -- x = - column j of the inverse, y = the unit vector
  have := (kk (fun t => -1 * f t (n + j)) (fun t => pR t j)).1 (fun t ht => by
   rw [vS hj (fun k _ hne => by simp only [pR]; rw [if_neg hne]; grind)]
   simp only [pR, if_true]; grind) i hi
  rw [neg a (fun t => f t (n + j))] at this
  show sm n (fun k => a i k * f k (n + j)) = pR i j
  grind
 ·intro i j hi hj
  have := (kk (fun t => pR t j) (fun t => -1 * a t j)).2 (fun t ht => by
   rw [vS hj (fun k _ hne => by simp only [pR]; rw [if_neg hne]; grind)]
   simp only [pR, if_true]; grind) i hi
  rw [neg (fun i k => f i (n + k)) (fun t => a t j)] at this
  show sm n (fun k => f i (n + k) * a k j) = pR i j
  grind
end Go.Proofs.YtjbhdfpjnjedhaaGreat
