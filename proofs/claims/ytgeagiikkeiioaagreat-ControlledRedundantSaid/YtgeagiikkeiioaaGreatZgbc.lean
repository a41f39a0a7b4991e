/- Ranks, plain: the kernel of a reduced matrix; systems with more unknowns than equations; ranks compared by kernels. Kernels and systems, plain: the canonical basis of the kernel, what it spans; when a system has a solution, and which one is returned. -/
import Derived.Test.YtgeagiikkeiioaaGreatZgbb
set_option linter.unusedSimpArgs false
set_option linter.unusedVariables false
set_option maxRecDepth 100000
set_option maxHeartbeats 4000000
namespace Go.Proofs.YtgeagiikkeiioaaGreat
open Go Go.Fx
def pG (pv : List Nat) (z : Nat → Rat) : Nat → Rat := fun j => if j ∈ pv then 0 else z j
theorem mM {pv : List Nat} {i : Nat} (h : i < pv.length) : pv.getD i 0 = pv[i] := by simp [List.getD, h]
theorem kK {pv : List Nat} {j : Nat} : j ∈ pv ↔ ∃ t, t < pv.length ∧ pv.getD t 0 = j := by
 rw [List.mem_iff_getElem]
 constructor
 ·rintro ⟨t, ht, e⟩; exact ⟨t, ht, by simp [List.getD, ht, e]⟩
 ·rintro ⟨t, ht, e⟩; exact ⟨t, ht, by simpa [List.getD, ht] using e⟩
theorem Red.piv_lt {R C j : Nat} {f0 f : Nat → Nat → Rat} {pv : List Nat} {s : Rat} (h : Red R C j f0 f pv s) {t : Nat} (ht : t < pv.length) : pv.getD t 0 < j := (h.inc t ht).1
theorem Red.piv_inj {R C j : Nat} {f0 f : Nat → Nat → Rat} {pv : List Nat} {s : Rat} (h : Red R C j f0 f pv s) {t u : Nat} (ht : t < pv.length) (hu : u < pv.length) (e : pv.getD t 0 = pv.getD u 0) : t = u := by
 rcases Nat.lt_trichotomy t u with l | l | l
 ·have := (h.inc u hu).2.2 t l; omega
 ·exact l
 ·have := (h.inc t ht).2.2 u l; omega
theorem Red.row {R C : Nat} {f0 f : Nat → Nat → Rat} {pv : List Nat} {s : Rat} (h : Red R C C f0 f pv s) {t : Nat} (ht : t < pv.length) (z : Nat → Rat) : sm C (fun j => f t j * z j) = z (pv.getD t 0) + sm C (fun j => f t j * pG pv z j) := by
 have hR := h.len
 have h1 : sm C (fun j => f t j * z j) = sm C (fun j => (f t j * z j - f t j * pG pv z j) + f t j * pG pv z j) := bJ (fun j _ => by grind)
 rw [h1, aFD]
 congr 1
 rw [qO (p := pv.getD t 0) (h.piv_lt ht) (fun j hj hne => ?_)]
 ·have hm : pv.getD t 0 ∈ pv := kK.2 ⟨t, ht, rfl⟩
  rw [h.unit t t ht (by omega)]
  simp only [pG, if_pos hm, oO, if_true]; grind
 ·by_cases hm : j ∈ pv
  ·obtain ⟨u, hu, rfl⟩ := kK.1 hm
   have : t ≠ u := fun e => hne (by rw [e])
   rw [h.unit u t hu (by omega)]
   simp only [oO, if_neg this]; grind
  ·simp only [pG, if_neg hm]; grind
theorem Red.kerE {R C : Nat} {f0 f : Nat → Nat → Rat} {pv : List Nat} {s : Rat} (h : Red R C C f0 f pv s) (z : Nat → Rat) : Go.Proofs.YtgeagiikkeiioaaGreat.ker R C f0 z ↔ ∀ t, t < pv.length → z (pv.getD t 0) + sm C (fun j => f t j * pG pv z j) = 0 := by
 rw [← h.ker z]
 constructor
 ·intro hk t ht
  rw [← h.row ht z]; exact hk t (by have := h.len; omega)
 ·intro hk i hi
  by_cases e : i < pv.length
  ·rw [h.row e z]; exact hk i e
  ·exact jT (fun j hj => by rw [h.zero i j (by omega) hi hj]; grind)
theorem hom {m n : Nat} (g : Nat → Nat → Rat) (hmn : m < n) : ∃ w : Nat → Rat, (∀ e, e < m → sm n (fun u => g e u * w u) = 0) ∧ ∃ u, u < n ∧ w u ≠ 0 := by
 obtain ⟨_, s, h⟩ := iC (A := (List.range m).map (fun i => (List.range n).map (g i))) (R := m) (C := n) ⟨by simp, fun i hi => by simp [rowAt, List.getD, hi]⟩ n (Nat.le_refl _)
 generalize iH ((List.range m).map (fun i => (List.range n).map (g i))) n = st at h
 obtain ⟨E, pv⟩ := st
 simp only at h
 have hg : ∀ i j, i < m → j < n → at2 ((List.range m).map (fun i => (List.range n).map (g i))) i j = g i j := fun i j hi hj => by simp [at2, rowAt, List.getD, hi, hj]
 have hlen := h.len
 -- a free place
 have hfree : ∃ j, j < n ∧ j ∉ pv := by
  refine Classical.byContradiction (fun hno => ?_)
  have hall : ∀ j, j < n → j ∈ pv := fun j hj => Classical.byContradiction (fun hn => hno ⟨j, hj, hn⟩)
  have : (List.range n).length ≤ pv.length := by
   have hsub : ∀ x ∈ List.range n, x ∈ pv := fun x hx => hall x (List.mem_range.1 hx)
   exact List.Nodup.length_le_of_subset List.nodup_range hsub
  simp at this; omega
 obtain ⟨j, hj, hjp⟩ := hfree
 refine ⟨fun c => if c ∈ pv then - at2 E (pv.idxOf c) j else if c = j then 1 else 0, ?_, j, hj, by simp only [if_neg hjp, if_true]; decide⟩
 have hk : ker m n (at2 ((List.range m).map (fun i => (List.range n).map (g i)))) (fun c => if c ∈ pv then - at2 E (pv.idxOf c) j else if c = j then 1 else 0) := by
  rw [h.kerE]
  intro t ht
  have hm : pv.getD t 0 ∈ pv := kK.2 ⟨t, ht, rfl⟩
  have hidx : pv.idxOf (pv.getD t 0) = t := by
   have h1 : pv.idxOf (pv.getD t 0) < pv.length := List.idxOf_lt_length_of_mem hm
   refine h.piv_inj h1 ht ?_
   have := List.getElem_idxOf h1
   exact (mM h1).trans this
  simp only [if_pos hm, hidx]
  rw [qO (p := j) hj (fun c hc hne => ?_)]
  ·simp only [pG, if_neg hjp, if_true]; grind
  ·simp only [pG]
   by_cases e : c ∈ pv
   ·rw [if_pos e]; grind
   ·rw [if_neg e, if_neg e, if_neg hne]; grind
 intro e he
 refine Eq.trans (bJ (fun u hu => ?_)) (hk e he)
 rw [hg e u he hu]
theorem aRT {R C n : Nat} {f : Nat → Nat → Rat} {Z : Nat → Nat → Rat} {d : Nat → Rat} (h : ∀ i, i < n → ker R C f (Z i)) : ker R C f (fun j => sm n (fun i => d i * Z i j)) := fun t ht => by
 have h1 : sm C (fun j => f t j * sm n (fun i => d i * Z i j)) = sm C (fun j => sm n (fun i => d i * (f t j * Z i j))) := bJ (fun j _ => by rw [← jS]; exact bJ (fun i _ => by grind))
 rw [h1, sO]
 exact jT (fun i hi => by rw [jS, h i hi t ht]; grind)
theorem aJS {R C : Nat} {f : Nat → Nat → Rat} {x y : Nat → Rat} {c d : Rat} (hx : ker R C f x) (hy : ker R C f y) : ker R C f (fun j => c * x j + d * y j) := fun t ht => by
 have : ∀ j, f t j * (c * x j + d * y j) = c * (f t j * x j) + d * (f t j * y j) := fun j => by grind
 simp only [this]
 rw [aBQ, hx t ht, hy t ht]; grind
theorem Red.count {R C m k : Nat} {f0 f : Nat → Nat → Rat} {pv : List Nat} {s : Rat} (h : Red R C C f0 f pv s) (g : Nat → Nat → Rat) (Z : Nat → Nat → Rat)
  (hg : ∀ z, Go.Proofs.YtgeagiikkeiioaaGreat.ker m C g z → Go.Proofs.YtgeagiikkeiioaaGreat.ker R C f0 z) (hZ : ∀ i, i < k → Go.Proofs.YtgeagiikkeiioaaGreat.ker R C f0 (Z i))
  (hi : ∀ d : Nat → Rat, Go.Proofs.YtgeagiikkeiioaaGreat.ker m C g (fun j => sm k (fun i => d i * Z i j)) → ∀ i, i < k → d i = 0) : pv.length + k ≤ m := by
 refine Classical.byContradiction (fun hlt => ?_)
 obtain ⟨p, hp⟩ : ∃ p, p = pv.length := ⟨_, rfl⟩
 rw [← hp] at hlt
 obtain ⟨w, hw, u, hu, hwu⟩ := hom (m := m) (n := p + k) (fun e u => if u < p then g e (pv.getD u 0) else sm C (fun j => g e j * Z (u - p) j)) (by omega)
 -- the vector
 obtain ⟨x, hx⟩ : ∃ x : Nat → Rat, x = fun j => sm p (fun t => w t * oO (pv.getD t 0) j) := ⟨_, rfl⟩
 obtain ⟨y, hy⟩ : ∃ y : Nat → Rat, y = fun j => sm k (fun i => w (p + i) * Z i j) := ⟨_, rfl⟩
 have kx : ∀ e, sm C (fun j => g e j * x j) = sm p (fun t => g e (pv.getD t 0) * w t) := fun e => by
  have h1 : sm C (fun j => g e j * x j) = sm C (fun j => sm p (fun t => w t * (g e j * oO (pv.getD t 0) j))) := bJ (fun j _ => by rw [hx, ← jS]; exact bJ (fun i _ => by grind))
  rw [h1, sO]
  refine bJ (fun t ht => ?_)
  rw [jS, qO (p := pv.getD t 0) (h.piv_lt (by omega)) (fun j _ hne => by simp only [oO]; rw [if_neg (fun e => hne e.symm)]; grind)]
  simp only [oO, if_true]; grind
 have ky : ∀ e, sm C (fun j => g e j * y j) = sm k (fun i => sm C (fun j => g e j * Z i j) * w (p + i)) := fun e => by
  have h1 : sm C (fun j => g e j * y j) = sm C (fun j => sm k (fun i => w (p + i) * (g e j * Z i j))) := bJ (fun j _ => by rw [hy, ← jS]; exact bJ (fun i _ => by grind))
  rw [h1, sO]
  exact bJ (fun i _ => by rw [jS]; grind)
 have kg : Go.Proofs.YtgeagiikkeiioaaGreat.ker m C g (fun j => 1 * x j + 1 * y j) := fun e he => by
  have : ∀ j, g e j * (1 * x j + 1 * y j) = 1 * (g e j * x j) + 1 * (g e j * y j) := fun j => by grind
  simp only [this]
  rw [aBQ, kx, ky]
  have := hw e he
  rw [aHD, bJ (n := p) (g := fun t => g e (pv.getD t 0) * w t) (fun t ht => by rw [if_pos ht]), bJ (n := k) (g := fun i => sm C (fun j => g e j * Z i j) * w (p + i)) (fun t _ => by rw [if_neg (by omega), Nat.add_sub_cancel_left])] at this
  grind
 have ky0 : Go.Proofs.YtgeagiikkeiioaaGreat.ker R C f0 y := by rw [hy]; exact aRT (d := fun i => w (p + i)) hZ
 have kx0 : Go.Proofs.YtgeagiikkeiioaaGreat.ker R C f0 x := by
  have h1 := aJS (c := 1) (d := -1) (hg _ kg) ky0
  have e : (fun j => 1 * (1 * x j + 1 * y j) + -1 * y j) = x := by funext j; grind
  rwa [e] at h1
 have hx0 : ∀ t, t < p → x (pv.getD t 0) = w t := fun t ht => by
  rw [hx]
  show sm p (fun u => w u * oO (pv.getD u 0) (pv.getD t 0)) = _
  rw [qO (p := t) ht (fun u hu hne => by simp only [oO]; rw [if_neg (fun e => hne (h.piv_inj (by omega) (by omega) e))]; grind)]
  simp only [oO, if_true]; grind
 have hoff : ∀ j, pG pv x j = 0 := fun j => by
  unfold pG
  by_cases e : j ∈ pv
  ·rw [if_pos e]
  ·rw [if_neg e, hx]
   exact jT (fun t ht => by simp only [oO]; rw [if_neg (fun e' => e (kK.2 ⟨t, by omega, e'⟩))]; grind)
 have hw0 : ∀ t, t < p → w t = 0 := fun t ht => by
  have := (h.kerE x).1 kx0 t (by omega)
  rw [hx0 t ht, jT (fun j _ => by rw [hoff j]; grind)] at this
  grind
 have hxz : ∀ j, x j = 0 := fun j => by rw [hx]; exact jT (fun t ht => by rw [hw0 t ht]; grind)
 have kgy : Go.Proofs.YtgeagiikkeiioaaGreat.ker m C g (fun j => sm k (fun i => w (p + i) * Z i j)) := by
  have e : (fun j => 1 * x j + 1 * y j) = (fun j => sm k (fun i => w (p + i) * Z i j)) := by funext j; rw [hxz j, hy]; grind
  rwa [e] at kg
 have hd := hi (fun i => w (p + i)) kgy
 by_cases e : u < p
 ·exact hwu (hw0 u e)
 ·have := hd (u - p) (by omega)
  rw [show p + (u - p) = u by omega] at this
  exact hwu this
theorem Red.kerP {R C : Nat} {f0 f : Nat → Nat → Rat} {pv : List Nat} {s : Rat} (h : Red R C C f0 f pv s) (z : Nat → Rat) : Go.Proofs.YtgeagiikkeiioaaGreat.ker pv.length C f z ↔ Go.Proofs.YtgeagiikkeiioaaGreat.ker R C f0 z := by
 rw [h.kerE]
 constructor
 ·intro hk t ht; rw [← h.row ht z]; exact hk t ht
 ·intro hk t ht; rw [h.row ht z]; exact hk t ht
section
variable {R C R' : Nat} {f0 f g0 g : Nat → Nat → Rat} {pv qv : List Nat} {s s' : Rat}
theorem Red.le (h : Red R C C f0 f pv s) (h' : Red R' C C g0 g qv s') (hk : ∀ z, Go.Proofs.YtgeagiikkeiioaaGreat.ker R' C g0 z → Go.Proofs.YtgeagiikkeiioaaGreat.ker R C f0 z) : pv.length ≤ qv.length := by
 have := h.count (k := 0) g (fun _ _ => 0) (fun z hz => hk z ((h'.kerP z).1 hz)) (fun i hi => by omega) (fun d _ i hi => by omega)
 omega
theorem Red.lt (h : Red R C C f0 f pv s) (h' : Red R' C C g0 g qv s') (hk : ∀ z, Go.Proofs.YtgeagiikkeiioaaGreat.ker R' C g0 z → Go.Proofs.YtgeagiikkeiioaaGreat.ker R C f0 z) {x : Nat → Rat} (hx : Go.Proofs.YtgeagiikkeiioaaGreat.ker R C f0 x) (hx2 : ¬ Go.Proofs.YtgeagiikkeiioaaGreat.ker R' C g0 x) : pv.length < qv.length := by
 have := h.count (k := 1) g (fun _ => x) (fun z hz => hk z ((h'.kerP z).1 hz)) (fun _ _ => hx) (fun d hd i hi => by
  obtain rfl : i = 0 := by omega
  refine Classical.byContradiction (fun hne => hx2 ?_)
  have h1 : Go.Proofs.YtgeagiikkeiioaaGreat.ker R' C g0 (fun j => sm 1 (fun i => d i * x j)) := (h'.kerP _).1 hd
  have h2 := aJS (c := 1 / d 0) (d := 0) h1 h1
  have e : (fun j => 1 / d 0 * sm 1 (fun i => d i * x j) + 0 * sm 1 (fun i => d i * x j)) = x := by
   funext j
   have : sm 1 (fun i => d i * x j) = d 0 * x j := by simp only [sm]; grind
   rw [this]; grind
  rwa [e] at h2)
 omega
theorem Red.eq_iff (h : Red R C C f0 f pv s) (h' : Red R' C C g0 g qv s') (hk : ∀ z, Go.Proofs.YtgeagiikkeiioaaGreat.ker R' C g0 z → Go.Proofs.YtgeagiikkeiioaaGreat.ker R C f0 z) : pv.length = qv.length ↔ ∀ z, Go.Proofs.YtgeagiikkeiioaaGreat.ker R C f0 z → Go.Proofs.YtgeagiikkeiioaaGreat.ker R' C g0 z := by
 constructor
 ·intro e z hz
  refine Classical.byContradiction (fun hn => ?_)
  have := h.lt h' hk hz hn
  omega
 ·intro hz
  have := h.le h' hk
  have := h'.le h hz
  omega
end
end Go.Proofs.YtgeagiikkeiioaaGreat
namespace Go.Proofs.YtgeagiikkeiioaaGreat
open Go Go.Fx
def oQ (f : Nat → Nat → Rat) (pv : List Nat) (j c : Nat) : Rat := if c ∈ pv then - f (pv.idxOf c) j else if c = j then 1 else 0
def rM (pv : List Nat) (C : Nat) : List Nat := (List.range C).filter (fun j => decide (j ∉ pv))
def sW (E : Mt) (pv : List Nat) (C j : Nat) : List Rat := (List.range C).map (oQ (at2 E) pv j)
def aOP (E : Mt) (pv : List Nat) (C : Nat) : Mt := (rM pv C).map (sW E pv C)
def zB (A : Mt) (C : Nat) : Mt := aOP (iH A C).1 (iH A C).2 C
def rk (A : Mt) (C : Nat) : Nat := (iH A C).2.length
theorem aGO {E : Mt} {pv : List Nat} {C j c : Nat} (h : c < C) : (sW E pv C j).getD c 0 = oQ (at2 E) pv j c := by simp [sW, List.getD, h]
theorem Red.idx {R C j : Nat} {f0 f : Nat → Nat → Rat} {pv : List Nat} {s : Rat} (h : Red R C j f0 f pv s) {t : Nat} (ht : t < pv.length) : pv.idxOf (pv.getD t 0) = t := by
 have hm : pv.getD t 0 ∈ pv := kK.2 ⟨t, ht, rfl⟩
 have h1 : pv.idxOf (pv.getD t 0) < pv.length := List.idxOf_lt_length_of_mem hm
 exact h.piv_inj h1 ht ((mM h1).trans (List.getElem_idxOf h1))
theorem Red.idx_lt {pv : List Nat} {c : Nat} (hm : c ∈ pv) : pv.idxOf c < pv.length ∧ pv.getD (pv.idxOf c) 0 = c := by
 have h1 : pv.idxOf c < pv.length := List.idxOf_lt_length_of_mem hm
 exact ⟨h1, (mM h1).trans (List.getElem_idxOf h1)⟩
section
variable {R C : Nat} {f0 f : Nat → Nat → Rat} {pv : List Nat} {s : Rat}
theorem Red.null (h : Red R C C f0 f pv s) {j : Nat} (hj : j < C) (hp : j ∉ pv) : Go.Proofs.YtgeagiikkeiioaaGreat.ker R C f0 (oQ f pv j) := by
 rw [h.kerE]
 intro t ht
 have hm : pv.getD t 0 ∈ pv := kK.2 ⟨t, ht, rfl⟩
 simp only [oQ, if_pos hm, h.idx ht]
 rw [qO (p := j) hj (fun c hc hne => ?_)]
 ·simp only [pG, oQ, if_neg hp, if_true]; grind
 ·simp only [pG, oQ]
  by_cases e : c ∈ pv
  ·rw [if_pos e]; grind
  ·rw [if_neg e, if_neg e, if_neg hne]; grind
theorem Red.span (h : Red R C C f0 f pv s) {z : Nat → Rat} (hz : Go.Proofs.YtgeagiikkeiioaaGreat.ker R C f0 z) {c : Nat} (hc : c < C) : z c = sm C (fun j => pG pv z j * oQ f pv j c) := by
 by_cases hm : c ∈ pv
 ·obtain ⟨h1, h2⟩ := Red.idx_lt hm
  have := (h.kerE z).1 hz _ h1
  rw [h2] at this
  have e : sm C (fun j => pG pv z j * oQ f pv j c) = sm C (fun j => (-1 : Rat) * (f (pv.idxOf c) j * pG pv z j)) := bJ (fun j _ => by simp only [oQ, if_pos hm]; grind)
  rw [e, jS]; grind
 ·rw [qO (p := c) hc (fun j _ hne => by simp only [oQ, if_neg hm, if_neg (show ¬ c = j from fun e => hne e.symm)]; grind)]
  simp only [pG, oQ, if_neg hm, if_true]; grind
theorem Red.sub (h : Red R C C f0 f pv s) {R' : Nat} {g : Nat → Nat → Rat} (hb : ∀ j, j < C → j ∉ pv → Go.Proofs.YtgeagiikkeiioaaGreat.ker R' C g (oQ f pv j)) : ∀ z, Go.Proofs.YtgeagiikkeiioaaGreat.ker R C f0 z → Go.Proofs.YtgeagiikkeiioaaGreat.ker R' C g z := by
 intro z hz t ht
 have h1 : sm C (fun c => g t c * z c) = sm C (fun c => sm C (fun j => pG pv z j * (g t c * oQ f pv j c))) := bJ (fun c hc => by
  rw [h.span hz hc, ← jS]; exact bJ (fun j _ => by grind))
 rw [h1, sO]
 refine jT (fun j hj => ?_)
 rw [jS]
 by_cases hp : j ∈ pv
 ·simp only [pG, if_pos hp]; grind
 ·rw [hb j hj hp t ht]; grind
theorem Red.nodup (h : Red R C C f0 f pv s) : pv.Nodup := by
 rw [List.nodup_iff_pairwise_ne, List.pairwise_iff_getElem]
 intro i j hi hj hij e
 have := h.piv_inj (t := i) (u := j) hi hj (by rw [mM hi, mM hj]; exact e)
 omega
theorem aBW (p : Nat → Bool) : ∀ l : List Nat, (l.filter p).length + (l.filter (fun x => !p x)).length = l.length
 | [] => rfl
 | x :: l => by
  have ih := aBW p l
  rw [List.filter_cons, List.filter_cons, List.length_cons]
  cases p x <;> simp <;> omega
theorem Red.free_len (h : Red R C C f0 f pv s) : (rM pv C).length + pv.length = C := by
 have h1 : ((List.range C).filter (fun j => decide (j ∉ pv))).length + ((List.range C).filter (fun j => !decide (j ∉ pv))).length = C := by
  have := aBW (fun j => decide (j ∉ pv)) (List.range C)
  rw [List.length_range] at this; omega
 have h2 : ((List.range C).filter (fun j => !decide (j ∉ pv))).length = pv.length := by
  apply Nat.le_antisymm
  ·refine List.Nodup.length_le_of_subset (List.Pairwise.filter _ List.nodup_range) (fun x hx => ?_)
   have := (List.mem_filter.1 hx).2
   simpa using this
  ·refine List.Nodup.length_le_of_subset h.nodup (fun x hx => ?_)
   obtain ⟨t, ht, rfl⟩ := kK.1 hx
   refine List.mem_filter.2 ⟨List.mem_range.2 (h.piv_lt ht), by simpa using hx⟩
 unfold rM
 omega
theorem aGV {pv : List Nat} {C j : Nat} : j ∈ rM pv C ↔ j < C ∧ j ∉ pv := by
 unfold rM
 rw [List.mem_filter, List.mem_range]
 simp
end
/- systems: the right side is the column C of a wider matrix -/
section
variable {R C W : Nat} {f0 f : Nat → Nat → Rat} {pv : List Nat} {s : Rat}
def aFO (f : Nat → Nat → Rat) (pv : List Nat) (C c : Nat) : Rat := if c ∈ pv then f (pv.idxOf c) C else 0
def aQA (R C : Nat) (f : Nat → Nat → Rat) (pv : List Nat) : Prop := ∀ i, pv.length ≤ i → i < R → f i C = 0
def aGS (C : Nat) (x : Nat → Rat) (y : Rat) : Nat → Rat := fun j => if j < C then x j else if j = C then y else 0
theorem zU {C W : Nat} (hW : C < W) {g x : Nat → Rat} {y : Rat} : sm W (fun j => g j * aGS C x y j) = sm C (fun j => g j * x j) + g C * y := by
 obtain ⟨d, rfl⟩ : ∃ d, W = C + 1 + d := ⟨W - (C + 1), by omega⟩
 rw [aHD]
 have h1 : sm (C + 1) (fun j => g j * aGS C x y j) = sm C (fun j => g j * x j) + g C * y := by
  simp only [sm]
  rw [bJ (n := C) (g := fun j => g j * x j) (fun j hj => by simp only [aGS, if_pos hj])]
  simp only [aGS, Nat.lt_irrefl, if_false, if_true]
 have h2 : sm d (fun k => g (C + 1 + k) * aGS C x y (C + 1 + k)) = 0 := jT (fun k _ => by
  simp only [aGS, if_neg (show ¬ C + 1 + k < C by omega), if_neg (show ¬ C + 1 + k = C by omega)]; grind)
 rw [h1, h2]; grind
theorem Red.rowC (h : Red R W C f0 f pv s) {t : Nat} (ht : t < pv.length) (x : Nat → Rat) : sm C (fun j => f t j * x j) = x (pv.getD t 0) + sm C (fun j => f t j * pG pv x j) := by
 have hR := h.len
 have h1 : sm C (fun j => f t j * x j) = sm C (fun j => (f t j * x j - f t j * pG pv x j) + f t j * pG pv x j) := bJ (fun j _ => by grind)
 rw [h1, aFD]
 congr 1
 rw [qO (p := pv.getD t 0) (h.piv_lt ht) (fun j hj hne => ?_)]
 ·have hm : pv.getD t 0 ∈ pv := kK.2 ⟨t, ht, rfl⟩
  rw [h.unit t t ht (by omega)]
  simp only [pG, if_pos hm, oO, if_true]; grind
 ·by_cases hm : j ∈ pv
  ·obtain ⟨u, hu, rfl⟩ := kK.1 hm
   have : t ≠ u := fun e => hne (by rw [e])
   rw [h.unit u t hu (by omega)]
   simp only [oO, if_neg this]; grind
  ·simp only [pG, if_neg hm]; grind
theorem Red.sol (h : Red R W C f0 f pv s) (hW : C < W) (x : Nat → Rat) : (∀ i, i < R → sm C (fun j => f0 i j * x j) = f0 i C) ↔ (∀ i, i < R → sm C (fun j => f i j * x j) = f i C) := by
 have k0 : Go.Proofs.YtgeagiikkeiioaaGreat.ker R W f0 (aGS C x (-1)) ↔ (∀ i, i < R → sm C (fun j => f0 i j * x j) = f0 i C) := by
  unfold Go.Proofs.YtgeagiikkeiioaaGreat.ker
  constructor
  ·intro hk i hi; have := hk i hi; rw [zU hW] at this; grind
  ·intro hk i hi; have := hk i hi; rw [zU hW]; grind
 have k1 : Go.Proofs.YtgeagiikkeiioaaGreat.ker R W f (aGS C x (-1)) ↔ (∀ i, i < R → sm C (fun j => f i j * x j) = f i C) := by
  unfold Go.Proofs.YtgeagiikkeiioaaGreat.ker
  constructor
  ·intro hk i hi; have := hk i hi; rw [zU hW] at this; grind
  ·intro hk i hi; have := hk i hi; rw [zU hW]; grind
 exact (k0.symm.trans (h.ker _).symm).trans k1
theorem Red.sol_x (h : Red R W C f0 f pv s) (hW : C < W) (ok : aQA R C f pv) : ∀ i, i < R → sm C (fun j => f0 i j * aFO f pv C j) = f0 i C := by
 rw [h.sol hW]
 intro i hi
 by_cases e : i < pv.length
 ·rw [h.rowC e]
  have hm : pv.getD i 0 ∈ pv := kK.2 ⟨i, e, rfl⟩
  rw [jT (fun j _ => by
   simp only [pG, aFO]
   by_cases hj : j ∈ pv
   ·rw [if_pos hj]; grind
   ·rw [if_neg hj, if_neg hj]; grind)]
  simp only [aFO, if_pos hm, h.idx e]; grind
 ·rw [jT (fun j hj => by rw [h.zero i j (by omega) hi hj]; grind), ok i (by omega) hi]
theorem Red.sol_iff (h : Red R W C f0 f pv s) (hW : C < W) : aQA R C f pv ↔ ∃ x : Nat → Rat, ∀ i, i < R → sm C (fun j => f0 i j * x j) = f0 i C := by
 constructor
 ·intro ok; exact ⟨_, h.sol_x hW ok⟩
 ·rintro ⟨x, hx⟩ i hp hi
  have := (h.sol hW x).1 hx i hi
  rw [← this]
  exact jT (fun j hj => by rw [h.zero i j hp hi hj]; grind)
end
end Go.Proofs.YtgeagiikkeiioaaGreat
