/- Controlled observations, plain: Fredholm's alternative, rows left out, the rank of the transposed matrix, weights, certificates. Spans, plain: rows that are added one by one, reduced by the rows before; the number of pivots is the rank. Ranks, plain: minors, kernels with independent vectors, rows left out, products. The document's Null. Drawn regions: what stays is chosen anew in the middle. Drawn regions that read a block's fields ahead of their stores: trees of orders in two stages; a cut within a block's code. -/
import Derived.Test.YtkccjglmnhgabaaGreatDoorZqbc
import Derived.Test.YtkccjglmnhgabaaGreatDoorZqbe
import Derived.Test.YtkccjglmnhgabaaGreatDoorZqal
set_option linter.unusedSimpArgs false
set_option linter.unusedVariables false
set_option maxRecDepth 100000
set_option maxHeartbeats 4000000
namespace Go.Proofs.YtkccjglmnhgabaaGreatDoor
open Go Go.Fx
def unL (n i : Nat) : List Rat := (List.range n).map (dlt i)
def rw1 (A : Mt) (C i : Nat) (z : Nat → Rat) : Rat := sm C (fun j => at2 A i j * z j)
def ctl (R C : Nat) (A : Mt) (i : Nat) : Prop := ¬ solP R C A (unL R i)
instance (R C : Nat) (A : Mt) (i : Nat) : Decidable (ctl R C A i) := by unfold ctl; exact inferInstance
/- rows left out -/
def pY (A : Mt) (ix : List Nat) : Mt := ix.map (rowAt A)
theorem aGU {A : Mt} {ix : List Nat} {t j : Nat} (ht : t < ix.length) : at2 (pY A ix) t j = at2 A ix[t] j := by
 simp [pY, at2, rowAt, List.getD, ht]
theorem yJ {A : Mt} {R C : Nat} (hA : kK A R C) {ix : List Nat} (hx : ∀ i ∈ ix, i < R) : kK (pY A ix) ix.length C := ⟨by simp [pY], fun t ht => by
 have : rowAt (pY A ix) t = rowAt A ix[t] := by simp [pY, rowAt, List.getD, ht]
 rw [this]; exact hA.2 _ (hx _ (List.getElem_mem _))⟩
theorem xO {A : Mt} {C : Nat} {ix : List Nat} {z : Nat → Rat} : Go.Proofs.YtkccjglmnhgabaaGreatDoor.ker ix.length C (at2 (pY A ix)) z ↔ ∀ i ∈ ix, rw1 A C i z = 0 := by
 constructor
 ·intro h i hi
  obtain ⟨t, ht, rfl⟩ := List.mem_iff_getElem.1 hi
  rw [← h t ht]; exact bI (fun j _ => by rw [aGU ht])
 ·intro h t ht
  rw [← h ix[t] (List.getElem_mem _)]; exact bI (fun j _ => by rw [aGU ht])
def restI (R : Nat) (set : List Int) : List Nat := (List.range R).filter (fun i => decide ((i : Int) ∉ set))
def und (R C : Nat) (A : Mt) (set : List Int) : Prop := rk (pY A (restI R set)) C < rk A C
instance (R C : Nat) (A : Mt) (set : List Int) : Decidable (und R C A set) := by unfold und; exact inferInstance
/- the transposed matrix -/
def trM (R C : Nat) (A : Mt) : Mt := uY C R (fun i j => at2 A j i)
theorem aBM {R C : Nat} {A : Mt} {i j : Nat} (hi : i < C) (hj : j < R) : at2 (trM R C A) i j = at2 A j i := vB hi hj
theorem aGX {R C : Nat} {A : Mt} (hA : kK A R C) : rk (trM R C A) R ≤ rk A C := by
 obtain ⟨_, s, hr⟩ := kT hA C (Nat.le_refl _)
 obtain ⟨_, s', hr'⟩ := kT (A := trM R C A) (R := C) (C := R) aAK R (Nat.le_refl _)
 unfold rk
 generalize mE A C = st at hr ⊢
 obtain ⟨E, pv⟩ := st
 simp only at hr ⊢
 have := hr'.count (m := pv.length) (k := 0) (fun t i => at2 A i (pv.getD t 0)) (fun _ _ => 0) (fun y hy j hj => by
  rw [bI (g := fun i => at2 A i j * y i) (fun i hi => by rw [aBM hj hi])]
  by_cases hp : j ∈ pv
  ·obtain ⟨t, ht, rfl⟩ := kH.1 hp
   exact hy t ht
  ·have hn := hr.null hj hp
   have h1 : sm R (fun i => y i * sm C (fun c => at2 A i c * nI (at2 E) pv j c)) = 0 := mK (fun i hi => by rw [hn i hi]; grind)
   rw [bI (g := fun i => sm C (fun c => nI (at2 E) pv j c * (at2 A i c * y i))) (fun i hi => by rw [← kS]; exact bI (fun c _ => by grind)), uI,
    bI (g := fun c => nI (at2 E) pv j c * sm R (fun i => at2 A i c * y i)) (fun c _ => kS),
    rW (p := j) hj (fun c hc hne => by
     by_cases hcp : c ∈ pv
     ·obtain ⟨t, ht, rfl⟩ := kH.1 hcp
      have := hy t ht
      rw [this]; grind
     ·simp only [nI, if_neg hcp, if_neg hne]; grind)] at h1
   simp only [nI, if_neg hp, if_true] at h1
   grind) (fun i hi => by omega) (fun d _ i hi => by omega)
 omega
theorem aSP {R C : Nat} {A : Mt} (hA : kK A R C) : trM C R (trM R C A) = A := by
 rw [aGD hA]
 unfold trM
 exact aDH (fun i j hi hj => by rw [vB hj hi, vB hi hj])
theorem aQA {R C : Nat} {A : Mt} (hA : kK A R C) : rk (trM R C A) R = rk A C := by
 refine Nat.le_antisymm (aGX hA) ?_
 have := aGX (R := C) (C := R) (A := trM R C A) aAK
 rwa [aSP hA] at this
theorem aQB {R C : Nat} {A : Mt} (hA : kK A R C) : (aCE A C).length + rk A C = C := by
 obtain ⟨_, s, hr⟩ := kT hA C (Nat.le_refl _)
 have := hr.free_len
 unfold aCE aNF rk
 rw [List.length_map]; exact this
/- certificates -/
/- weights: the normal matrix has the kernel of the design matrix -/
def nrmM (R C : Nat) (A : Mt) (p : Nat → Rat) : Mt := uY C C (fun i j => sm R (fun k => p k * at2 A k i * at2 A k j))
/- the document's inverse: the pivots of the matrix with the unit matrix beside -/
end Go.Proofs.YtkccjglmnhgabaaGreatDoor
namespace Go.Proofs.YtkccjglmnhgabaaGreatDoor
open Go Go.Fx
abbrev Sp := List (Nat × List Rat)
def aLN (κ : Rat) (s l : List Rat) : List Rat := l.mapIdx (fun c x => x - κ * s.getD c 0)
def rdS (p : Nat × List Rat) (l : List Rat) : List Rat := aLN (l.getD p.1 0) p.2 l
def sQ (sp : Sp) (l : List Rat) : List Rat := sp.foldl (fun l p => rdS p l) l
def mY (l : List Rat) : Nat := l.findIdx (fun x => decide (x ≠ 0))
def dvd (l : List Rat) (κ : Rat) : List Rat := l.map (fun x => x / κ)
def adS (sp : Sp) (l : List Rat) : Bool × Sp :=
 if mY (sQ sp l) < l.length then (true, sp ++ [(mY (sQ sp l), dvd (sQ sp l) ((sQ sp l).getD (mY (sQ sp l)) 0))]) else (false, sp)
def jX (A : Mt) (q : Nat → Bool) : Nat → Sp × List Nat
 | 0 => ([], [])
 | k + 1 => if q k then ((adS (jX A q k).1 (rowAt A k)).2, if (adS (jX A q k).1 (rowAt A k)).1 then (jX A q k).2 ++ [k] else (jX A q k).2) else jX A q k
def spR (sp : Sp) (t : Nat) : List Rat := (sp.getD t (0, [])).2
def spP (sp : Sp) (t : Nat) : Nat := (sp.getD t (0, [])).1
structure SpI (C : Nat) (sp : Sp) : Prop where
 len : ∀ t, t < sp.length → (spR sp t).length = C
 piv : ∀ t, t < sp.length → spP sp t < C
 one : ∀ t, t < sp.length → (spR sp t).getD (spP sp t) 0 = 1
 low : ∀ t u, u < t → t < sp.length → (spR sp t).getD (spP sp u) 0 = 0
def tC (C : Nat) (l : List Rat) (z : Nat → Rat) : Rat := sm C (fun j => l.getD j 0 * z j)
theorem aAG {κ : Rat} {s l : List Rat} : (aLN κ s l).length = l.length := by simp [aLN]
theorem wS {κ : Rat} {s l : List Rat} {c : Nat} (h : c < l.length) : (aLN κ s l).getD c 0 = l.getD c 0 - κ * s.getD c 0 := by
 unfold aLN; rw [qB h]
theorem zK {p : Nat × List Rat} {l : List Rat} : (rdS p l).length = l.length := aAG
theorem wO {sp : Sp} : ∀ {l : List Rat}, (sQ sp l).length = l.length := by
 induction sp with
 | nil => intro l; rfl
 | cons p r ih => intro l; show (sQ r (rdS p l)).length = _; rw [ih, zK]
theorem aKO {l : List Rat} {κ : Rat} : (dvd l κ).length = l.length := by simp [dvd]
theorem aED {l : List Rat} {κ : Rat} {c : Nat} : (dvd l κ).getD c 0 = l.getD c 0 / κ := by
 unfold dvd
 by_cases h : c < l.length
 ·simp [List.getD, h]
 ·have : l[c]? = none := by simp; omega
  simp [List.getD, this]
  grind
theorem aSJ {l : List Rat} : mY l ≤ l.length := List.findIdx_le_length
theorem wZ {l : List Rat} (h : mY l < l.length) : l.getD (mY l) 0 ≠ 0 := by
 have := List.findIdx_getElem (xs := l) (p := fun x => decide (x ≠ 0)) (w := h)
 have e : l.getD (mY l) 0 = l[mY l] := by simp [List.getD, h]
 rw [e]
 exact of_decide_eq_true this
theorem aLW {l : List Rat} (h : ¬ mY l < l.length) : ∀ c, l.getD c 0 = 0 := fun c => by
 by_cases hc : c < l.length
 ·have := List.findIdx_eq_length.1 (show List.findIdx (fun x => decide (x ≠ 0)) l = l.length from Nat.le_antisymm aSJ (by unfold mY at h; omega)) l[c] (List.getElem_mem hc)
  have e : l.getD c 0 = l[c] := by simp [List.getD, hc]
  rw [e]
  simpa using this
 ·have : l[c]? = none := by simp; omega
  simp [List.getD, this]
theorem aSZ {C : Nat} {p : Nat × List Rat} {l : List Rat} {z : Nat → Rat} (hl : l.length = C) : tC C (rdS p l) z = tC C l z - l.getD p.1 0 * tC C p.2 z := by
 unfold tC rdS
 rw [bI (g := fun j => 1 * (l.getD j 0 * z j) + (- l.getD p.1 0) * (p.2.getD j 0 * z j)) (fun j hj => by rw [wS (by omega)]; grind), yD]
 grind
theorem zD {C : Nat} {z : Nat → Rat} : ∀ {sp : Sp} {l : List Rat}, l.length = C → (∀ p ∈ sp, tC C p.2 z = 0) → tC C (sQ sp l) z = tC C l z
 | [], l, _, _ => rfl
 | p :: r, l, hl, h => by
  show tC C (sQ r (rdS p l)) z = _
  rw [zD (by rw [zK]; exact hl) (fun x hx => h x (List.mem_cons_of_mem _ hx)), aSZ hl, h p List.mem_cons_self]
  grind
theorem aEQ {sp : Sp} {p : Nat × List Rat} {t : Nat} : spR (sp ++ [p]) t = if t < sp.length then spR sp t else if t = sp.length then p.2 else [] := by
 unfold spR
 by_cases h : t < sp.length
 ·rw [if_pos h]; simp [List.getD, List.getElem?_append_left h]
 ·rw [if_neg h]
  by_cases e : t = sp.length
  ·rw [if_pos e]; subst e; simp [List.getD]
  ·rw [if_neg e]
   have : (sp ++ [p])[t]? = none := by simp; omega
   simp [List.getD, this]
theorem aEM {sp : Sp} {p : Nat × List Rat} {t : Nat} : spP (sp ++ [p]) t = if t < sp.length then spP sp t else if t = sp.length then p.1 else 0 := by
 unfold spP
 by_cases h : t < sp.length
 ·rw [if_pos h]; simp [List.getD, List.getElem?_append_left h]
 ·rw [if_neg h]
  by_cases e : t = sp.length
  ·rw [if_pos e]; subst e; simp [List.getD]
  ·rw [if_neg e]
   have : (sp ++ [p])[t]? = none := by simp; omega
   simp [List.getD, this]
theorem aJG {C : Nat} : ∀ {sp : Sp} {l : List Rat}, l.length = C → SpI C sp → (∀ t, t < sp.length → (sQ sp l).getD (spP sp t) 0 = 0) ∧ (∀ c, c < C → l.getD c 0 = 0 → (∀ t, t < sp.length → (spR sp t).getD c 0 = 0) → (sQ sp l).getD c 0 = 0)
 | [], l, _, _ => ⟨fun t ht => by simp at ht, fun c _ h0 _ => h0⟩
 | p :: r, l, hl, h => by
  have hr : SpI C r := ⟨fun t ht => h.len (t + 1) (by simpa using ht), fun t ht => h.piv (t + 1) (by simpa using ht), fun t ht => h.one (t + 1) (by simpa using ht), fun t u hu ht => h.low (t + 1) (u + 1) (by omega) (by simpa using ht)⟩
  obtain ⟨h1, h2⟩ := aJG (sp := r) (l := rdS p l) (by rw [zK]; exact hl) hr
  have hp : p.1 < C := h.piv 0 (by simp)
  refine ⟨fun t ht => ?_, fun c hc h0 hz => ?_⟩
  ·cases t with
   | zero =>
    refine h2 p.1 hp ?_ (fun t ht => h.low (t + 1) 0 (by omega) (by simpa using ht))
    unfold rdS
    rw [wS (by omega), show p.2.getD p.1 0 = 1 from h.one 0 (by simp)]
    grind
   | succ t => exact h1 t (by simpa using ht)
  ·refine h2 c hc ?_ (fun t ht => hz (t + 1) (by simpa using ht))
   unfold rdS
   rw [wS (by omega), h0, show p.2.getD c 0 = 0 from hz 0 (by simp)]
   grind
def aAQ (C : Nat) (sp : Sp) (z : Nat → Rat) : Prop := ∀ p ∈ sp, tC C p.2 z = 0
theorem wL {sp : Sp} {l : List Rat} (h : mY (sQ sp l) < l.length) : adS sp l = (true, sp ++ [(mY (sQ sp l), dvd (sQ sp l) ((sQ sp l).getD (mY (sQ sp l)) 0))]) := by unfold adS; rw [if_pos h]
theorem xS {sp : Sp} {l : List Rat} (h : ¬ mY (sQ sp l) < l.length) : adS sp l = (false, sp) := by unfold adS; rw [if_neg h]
theorem aSK {C : Nat} {sp : Sp} {l : List Rat} (hl : l.length = C) (h : SpI C sp) : SpI C (adS sp l).2 := by
 by_cases hp : mY (sQ sp l) < l.length
 ·rw [wL hp]
  show SpI C (sp ++ [_])
  have hn := wZ (l := sQ sp l) (by rw [wO]; exact hp)
  have hz := (aJG hl h).1
  refine ⟨fun t ht => ?_, fun t ht => ?_, fun t ht => ?_, fun t u hu ht => ?_⟩
  all_goals rw [List.length_append, List.length_singleton] at ht
  ·rw [aEQ]
   by_cases e : t < sp.length
   ·rw [if_pos e]; exact h.len t e
   ·rw [if_neg e, if_pos (by omega)]; show (dvd _ _).length = C; rw [aKO, wO, hl]
  ·rw [aEM]
   by_cases e : t < sp.length
   ·rw [if_pos e]; exact h.piv t e
   ·rw [if_neg e, if_pos (by omega)]; omega
  ·rw [aEQ, aEM]
   by_cases e : t < sp.length
   ·rw [if_pos e, if_pos e]; exact h.one t e
   ·rw [if_neg e, if_pos (by omega), if_neg e, if_pos (by omega)]; show (dvd _ _).getD _ 0 = 1; rw [aED]; grind
  ·rw [aEQ, aEM]
   by_cases e : t < sp.length
   ·rw [if_pos e, if_pos (by omega)]; exact h.low t u hu e
   ·rw [if_neg e, if_pos (by omega), if_pos (by omega)]; show (dvd _ _).getD _ 0 = 0; rw [aED, hz u (by omega)]; grind
 ·rw [xS hp]; exact h
theorem aOJ {C : Nat} {sp : Sp} {p : Nat × List Rat} {z : Nat → Rat} : aAQ C (sp ++ [p]) z ↔ aAQ C sp z ∧ tC C p.2 z = 0 := by
 unfold aAQ
 constructor
 ·intro h; exact ⟨fun q hq => h q (List.mem_append_left _ hq), h p (by simp)⟩
 ·rintro ⟨h1, h2⟩ q hq
  rcases List.mem_append.1 hq with hq | hq
  ·exact h1 q hq
  ·rw [List.mem_singleton.1 hq]; exact h2
theorem aJU {C : Nat} {l : List Rat} {κ : Rat} {z : Nat → Rat} : tC C (dvd l κ) z = 1 / κ * tC C l z := by
 unfold tC
 rw [← kS]
 exact bI (fun j _ => by rw [aED]; grind)
theorem aKD {C : Nat} {sp : Sp} {l : List Rat} {z : Nat → Rat} (hl : l.length = C) : aAQ C (adS sp l).2 z ↔ aAQ C sp z ∧ tC C l z = 0 := by
 by_cases hp : mY (sQ sp l) < l.length
 ·rw [wL hp]
  show aAQ C (sp ++ [_]) z ↔ _
  rw [aOJ]
  have hn := wZ (l := sQ sp l) (by rw [wO]; exact hp)
  constructor
  ·rintro ⟨h1, h2⟩
   refine ⟨h1, ?_⟩
   have h3 : tC C (dvd (sQ sp l) ((sQ sp l).getD (mY (sQ sp l)) 0)) z = 0 := h2
   rw [aJU, zD hl h1] at h3
   rcases Rat.mul_eq_zero.1 h3 with e | e
   ·exact absurd e (by grind)
   ·exact e
  ·rintro ⟨h1, h2⟩
   refine ⟨h1, ?_⟩
   show tC C (dvd _ _) z = 0
   rw [aJU, zD hl h1, h2]; grind
 ·rw [xS hp]
  constructor
  ·intro h1
   refine ⟨h1, ?_⟩
   have h1' : aAQ C sp z := h1
   rw [← zD hl h1']
   have := aLW (l := sQ sp l) (by rw [wO]; exact hp)
   exact mK (fun j _ => by rw [this]; grind)
  ·exact fun h1 => h1.1
theorem aSX {sp : Sp} {l : List Rat} : (adS sp l).2.length = if (adS sp l).1 then sp.length + 1 else sp.length := by
 by_cases hp : mY (sQ sp l) < l.length
 ·rw [wL hp]; simp
 ·rw [xS hp]; simp
section
variable {A : Mt} {q : Nat → Bool} {R C : Nat}
theorem wV {k : Nat} (h : q k = true) : jX A q (k + 1) = ((adS (jX A q k).1 (rowAt A k)).2, if (adS (jX A q k).1 (rowAt A k)).1 then (jX A q k).2 ++ [k] else (jX A q k).2) := by show ite _ _ _ = _; rw [if_pos h]
theorem aEX {k : Nat} (h : q k = false) : jX A q (k + 1) = jX A q k := by show ite _ _ _ = _; rw [if_neg (by rw [h]; decide)]
theorem oC (hA : kK A R C) : ∀ {k : Nat}, k ≤ R → SpI C (jX A q k).1
 | 0, _ => ⟨fun t ht => by simp [jX] at ht, fun t ht => by simp [jX] at ht, fun t ht => by simp [jX] at ht, fun t u _ ht => by simp [jX] at ht⟩
 | k + 1, hk => by
  have ih := oC hA (k := k) (by omega)
  cases e : q k with
  | true => rw [wV e]; exact aSK (hA.2 k (by omega)) ih
  | false => rw [aEX e]; exact ih
theorem aDY (hA : kK A R C) {z : Nat → Rat} : ∀ {k : Nat}, k ≤ R → (aAQ C (jX A q k).1 z ↔ ∀ i, i < k → q i = true → rw1 A C i z = 0)
 | 0, _ => ⟨fun _ i hi => by omega, fun _ p hp => by simp [jX] at hp⟩
 | k + 1, hk => by
  have ih := aDY hA (z := z) (k := k) (by omega)
  have hr : rw1 A C k z = tC C (rowAt A k) z := rfl
  cases e : q k with
  | true =>
   rw [wV e]
   show aAQ C (adS _ _).2 z ↔ _
   rw [aKD (hA.2 k (by omega)), ih]
   constructor
   ·rintro ⟨h1, h2⟩ i hi hq
    by_cases ei : i = k
    ·subst ei; rw [hr]; exact h2
    ·exact h1 i (by omega) hq
   ·intro h; exact ⟨fun i hi hq => h i (by omega) hq, by rw [← hr]; exact h k (by omega) e⟩
  | false =>
   rw [aEX e, ih]
   constructor
   ·intro h i hi hq
    by_cases ei : i = k
    ·subst ei; rw [e] at hq; exact absurd hq (by decide)
    ·exact h i (by omega) hq
   ·intro h i hi hq; exact h i (by omega) hq
theorem aEO (hA : kK A R C) : ∀ {k : Nat}, k ≤ R → (jX A q k).2.length = (jX A q k).1.length ∧ (∀ i ∈ (jX A q k).2, i < k ∧ q i = true) ∧ (jX A q k).2.Pairwise (· < ·) ∧ ∀ z, aAQ C (jX A q k).1 z ↔ ∀ i ∈ (jX A q k).2, rw1 A C i z = 0
 | 0, _ => ⟨rfl, fun i hi => by simp [jX] at hi, List.Pairwise.nil, fun z => ⟨fun _ i hi => by simp [jX] at hi, fun _ p hp => by simp [jX] at hp⟩⟩
 | k + 1, hk => by
  obtain ⟨h1, h2, h3, h4⟩ := aEO hA (k := k) (by omega)
  cases e : q k with
  | false =>
   rw [aEX e]
   exact ⟨h1, fun i hi => ⟨by have := (h2 i hi).1; omega, (h2 i hi).2⟩, h3, h4⟩
  | true =>
   rw [wV e]
   cases ea : (adS (jX A q k).1 (rowAt A k)).1 with
   | true =>
    have hl : mY (sQ (jX A q k).1 (rowAt A k)) < (rowAt A k).length := by
     refine Classical.byContradiction (fun hn => ?_)
     rw [xS hn] at ea; exact Bool.noConfusion ea
    simp only [if_true]
    refine ⟨?_, ?_, ?_, ?_⟩
    ·rw [aSX, ea, if_pos rfl]; simp [h1]
    ·intro i hi
     rcases List.mem_append.1 hi with hi | hi
     ·exact ⟨by have := (h2 i hi).1; omega, (h2 i hi).2⟩
     ·rw [List.mem_singleton.1 hi]; exact ⟨by omega, e⟩
    ·refine List.pairwise_append.2 ⟨h3, List.pairwise_singleton _ _, fun a ha b hb => ?_⟩
     rw [List.mem_singleton.1 hb]; exact (h2 a ha).1
    ·intro z
     rw [aKD (hA.2 k (by omega)), h4 z]
     constructor
     ·rintro ⟨a, b⟩ i hi
      rcases List.mem_append.1 hi with hi | hi
      ·exact a i hi
      ·rw [List.mem_singleton.1 hi]; exact b
     ·intro h; exact ⟨fun i hi => h i (List.mem_append_left _ hi), h k (by simp)⟩
   | false =>
    have hn : ¬ mY (sQ (jX A q k).1 (rowAt A k)) < (rowAt A k).length := fun hp => by rw [wL hp] at ea; exact Bool.noConfusion ea
    simp only [Bool.false_eq_true, if_false]
    rw [xS hn]
    exact ⟨h1, fun i hi => ⟨by have := (h2 i hi).1; omega, (h2 i hi).2⟩, h3, h4⟩
end
/- rows that are independent: the rank is their number -/
def indR (K : Mt) (k C : Nat) : Prop := ∀ d : Nat → Rat, (∀ j, j < C → sm k (fun i => d i * at2 K i j) = 0) → ∀ i, i < k → d i = 0
theorem aQK {R n : Nat} {f0 f : Nat → Nat → Rat} {pv : List Nat} {s : Rat} (h : Red R n n f0 f pv s) : pv.length = n ↔ ∀ z, Go.Proofs.YtkccjglmnhgabaaGreatDoor.ker R n f0 z → ∀ i, i < n → z i = 0 := by
 have hf := h.free_len
 constructor
 ·intro e z hz c hc
  have h0 : pO pv n = [] := List.length_eq_zero_iff.1 (by omega)
  have hall : ∀ j, j < n → j ∈ pv := fun j hj => Classical.byContradiction (fun hn => by
   have := aFC.2 ⟨hj, hn⟩
   rw [h0] at this; simp at this)
  rw [h.span hz hc]
  exact mK (fun j hj => by simp only [sZ, if_pos (hall j hj)]; grind)
 ·intro hz
  refine Classical.byContradiction (fun hne => ?_)
  obtain ⟨j, hj⟩ : ∃ j, j ∈ pO pv n := by
   cases hh : pO pv n with
   | nil => rw [hh] at hf; simp at hf; omega
   | cons a r => exact ⟨a, by simp⟩
  obtain ⟨h1, h2⟩ := aFC.1 hj
  have := hz _ (h.null h1 h2) j h1
  simp only [nI, if_neg h2, if_true] at this
  exact absurd this (by decide)
theorem aPZ {K : Mt} {k C : Nat} (hK : kK K k C) : rk K C = k ↔ indR K k C := by
 rw [← aQA hK]
 obtain ⟨_, s, hr⟩ := kT (A := trM k C K) (R := C) (C := k) aAK k (Nat.le_refl _)
 unfold rk
 rw [aQK hr]
 unfold indR
 have e : ∀ d : Nat → Rat, Go.Proofs.YtkccjglmnhgabaaGreatDoor.ker C k (at2 (trM k C K)) d ↔ ∀ j, j < C → sm k (fun i => d i * at2 K i j) = 0 := fun d => by
  constructor
  ·intro h j hj
   rw [← h j hj]
   exact bI (fun i hi => by rw [aBM hj hi]; grind)
  ·intro h j hj
   rw [← h j hj]
   exact bI (fun i hi => by rw [aBM hj hi]; grind)
 exact ⟨fun h d hd => h d ((e d).2 hd), fun h d hd => h d ((e d).1 hd)⟩
theorem aIS {A : Mt} {R C : Nat} (hA : kK A R C) : rk A C ≤ R := by
 obtain ⟨_, s, hr⟩ := kT hA C (Nat.le_refl _)
 exact hr.len
theorem yB {A B : Mt} {R R' C : Nat} (hA : kK A R C) (hB : kK B R' C) (h : ∀ z, Go.Proofs.YtkccjglmnhgabaaGreatDoor.ker R C (at2 A) z → Go.Proofs.YtkccjglmnhgabaaGreatDoor.ker R' C (at2 B) z) : rk B C ≤ rk A C := by
 obtain ⟨_, s, hr⟩ := kT hA C (Nat.le_refl _)
 obtain ⟨_, s', hr'⟩ := kT hB C (Nat.le_refl _)
 exact hr'.le hr h
def mtS (sp : Sp) : Mt := sp.map (·.2)
theorem xL {sp : Sp} {t : Nat} (h : t < sp.length) : rowAt (mtS sp) t = spR sp t := by simp [mtS, rowAt, spR, List.getD, h]
theorem uF {C : Nat} {sp : Sp} (h : SpI C sp) : kK (mtS sp) sp.length C := ⟨by simp [mtS], fun t ht => by rw [xL ht]; exact h.len t ht⟩
theorem aKR {C : Nat} {sp : Sp} {z : Nat → Rat} : Go.Proofs.YtkccjglmnhgabaaGreatDoor.ker sp.length C (at2 (mtS sp)) z ↔ aAQ C sp z := by
 constructor
 ·intro h p hp
  obtain ⟨t, ht, rfl⟩ := List.mem_iff_getElem.1 hp
  rw [← h t ht]
  exact bI (fun j _ => by unfold at2; rw [xL ht]; simp [spR, List.getD, ht])
 ·intro h t ht
  rw [← h sp[t] (List.getElem_mem _)]
  exact bI (fun j _ => by unfold at2; rw [xL ht]; simp [spR, List.getD, ht])
theorem aPW {m : Nat} {d : Nat → Rat} {g : Nat → Nat → Rat} (h1 : ∀ t, t < m → g t t = 1) (h0 : ∀ t u, u < t → t < m → g t u = 0) (hz : ∀ u, u < m → sm m (fun t => d t * g t u) = 0) : ∀ u, u < m → d u = 0 := by
 intro u
 induction u using Nat.strongRecOn with
 | _ u ih =>
  intro hu
  have := hz u hu
  rw [rW (p := u) hu (fun t ht hne => by
   by_cases e : t < u
   ·rw [ih t e ht]; grind
   ·rw [h0 t u (by omega) ht]; grind), h1 u hu] at this
  grind
theorem aIF {C : Nat} {sp : Sp} (h : SpI C sp) : rk (mtS sp) C = sp.length := by
 rw [aPZ (uF h)]
 intro d hd
 refine aPW (g := fun t u => at2 (mtS sp) t (spP sp u)) (fun t ht => ?_) (fun t u hu ht => ?_) (fun u hu => hd _ (h.piv u hu))
 ·unfold at2; rw [xL ht]; exact h.one t ht
 ·unfold at2; rw [xL ht]; exact h.low t u hu ht
theorem aOK {A : Mt} {q : Nat → Bool} {R C n : Nat} (hA : kK A R C) (hn : n ≤ R) : (jX A q n).1.length = rk (pY A ((List.range n).filter q)) C := by
 have hi := oC (q := q) hA hn
 have hd : kK (pY A ((List.range n).filter q)) ((List.range n).filter q).length C := yJ hA (fun i hi => by
  have := List.mem_range.1 (List.mem_filter.1 hi).1; omega)
 have hk : ∀ z, Go.Proofs.YtkccjglmnhgabaaGreatDoor.ker (jX A q n).1.length C (at2 (mtS (jX A q n).1)) z ↔ Go.Proofs.YtkccjglmnhgabaaGreatDoor.ker ((List.range n).filter q).length C (at2 (pY A ((List.range n).filter q))) z := fun z => by
  rw [aKR, xO, aDY hA hn]
  exact ⟨fun h i hi => h i (List.mem_range.1 (List.mem_filter.1 hi).1) (List.mem_filter.1 hi).2, fun h i h1 h2 => h i (List.mem_filter.2 ⟨List.mem_range.2 h1, h2⟩)⟩
 rw [← aIF hi]
 exact Nat.le_antisymm (yB hd (uF hi) (fun z => (hk z).2)) (yB (uF hi) hd (fun z => (hk z).1))
theorem sD {A : Mt} {R C : Nat} (hA : kK A R C) : (jX A (fun _ => true) R).1.length = rk A C := by
 have hi := oC (q := fun _ => true) hA (Nat.le_refl _)
 have hk : ∀ z, Go.Proofs.YtkccjglmnhgabaaGreatDoor.ker (jX A (fun _ => true) R).1.length C (at2 (mtS (jX A (fun _ => true) R).1)) z ↔ Go.Proofs.YtkccjglmnhgabaaGreatDoor.ker R C (at2 A) z := fun z => by
  rw [aKR, aDY hA (Nat.le_refl _)]
  exact ⟨fun h i hi => h i hi rfl, fun h i hi _ => h i hi⟩
 rw [← aIF hi]
 exact Nat.le_antisymm (yB hA (uF hi) (fun z => (hk z).2)) (yB (uF hi) hA (fun z => (hk z).1))
end Go.Proofs.YtkccjglmnhgabaaGreatDoor
namespace Go.Proofs.YtkccjglmnhgabaaGreatDoor
open Go Go.Fx
def mnr (A : Mt) (ix jx : List Nat) : Mt := ix.map (fun i => jx.map (fun j => at2 A i j))
def lft (jx : List Nat) (z : Nat → Rat) (j : Nat) : Rat := if j ∈ jx then z (jx.idxOf j) else 0
def pvS (sp : Sp) : List Nat := sp.map (·.1)
theorem aNV {sp : Sp} {t : Nat} (h : t < sp.length) : (pvS sp).getD t 0 = spP sp t := by simp [pvS, spP, List.getD, h]
theorem oD {sp : Sp} : (pvS sp).length = sp.length := by simp [pvS]
theorem aVB {C : Nat} {sp : Sp} (h : SpI C sp) : ∀ j ∈ pvS sp, j < C := fun j hj => by
 obtain ⟨t, ht, rfl⟩ := kH.1 hj
 rw [oD] at ht
 rw [aNV ht]; exact h.piv t ht
theorem aRV {A : Mt} {R C : Nat} (hA : kK A R C) {ix jx : List Nat} (hj : ∀ i ∈ jx, i < R) (h : ∀ i ∈ ix, i ∈ jx) : rk (pY A ix) C ≤ rk (pY A jx) C :=
 yB (yJ hA hj) (yJ hA (fun i hi => hj i (h i hi))) (fun z hz => xO.2 (fun i hi => xO.1 hz i (h i hi)))
theorem aPJ {A B : Mt} {R C D : Nat} (hA : kK A R C) (hB : kK B R D) {G : Nat → Nat → Rat} (h : ∀ i j, i < R → j < D → at2 B i j = sm C (fun k => at2 A i k * G k j)) : rk B D ≤ rk A C := by
 rw [← aQA hA, ← aQA hB]
 refine yB (R := C) (R' := D) (C := R) aAK aAK (fun z hz j hj => ?_)
 rw [bI (g := fun i => sm C (fun k => G k j * (at2 A i k * z i))) (fun i hi => by
  have e : sm C (fun k => G k j * (at2 A i k * z i)) = z i * sm C (fun k => at2 A i k * G k j) := by rw [← kS]; exact bI (fun k _ => by grind)
  rw [aBM hj hi, h i j hi hj, e]; grind), uI]
 refine mK (fun k hk => ?_)
 rw [kS]
 have := hz k hk
 rw [bI (g := fun i => at2 A i k * z i) (fun i hi => by rw [aBM hk hi])] at this
 rw [this]; grind
theorem aES {A : Mt} {R C : Nat} (hA : kK A R C) : rk A C ≤ C := by have := aQB hA; omega
end Go.Proofs.YtkccjglmnhgabaaGreatDoor
namespace Go.Proofs.YtkccjglmnhgabaaGreatDoor
open Go Go.Fx
def NlR (A : Mt) (C k : Nat) (M0 : List Ent) (I0 : List bB) (v : Value) (M : List Ent) (I : List bB) : Prop :=
 M0 = M ∧ ∃ m : MX, v = mv m ∧ m.q = aCE A C ∧ (∀ r ∈ m.rows, r.es.length = C) ∧ I = jC m k :: I0
section
variable {X : List Nat} {w0 : World} {M : List Ent} {I : List bB}
theorem Mem.blkT {w : World} {b k c : Nat} {es : List RE} {tl : List Value} {ty : TypeId} (hc : es.length ≤ c) (h : Mem X w0 (.blk b (recs eR es ++ tl) ty :: M) I w) (ha : dV es k ∈ I) : Mem X w0 M (nV ⟨some ⟨b, 0, none⟩, c, es⟩ k :: I) w := by
 have h1 := h.freezeB .here
 refine (h1.add (φ := nV ⟨some ⟨b, 0, none⟩, c, es⟩ k) ⟨aIO (h1.sl (List.Mem.head _)), (((h1.imm _ (List.Mem.tail _ ha)).2 : AllR es k _ w)).go, ⟨hc, .inl (Ok.mk _ _)⟩⟩).inc (.of fun φ hφ => ?_)
 rcases List.mem_cons.1 hφ with rfl | hφ
 ·exact List.Mem.head _
 ·exact List.Mem.tail _ (List.Mem.tail _ hφ)
variable {P : Program} {n : Nat} {Q : Exit → Act → World → Prop} {G : Env}
theorem aTG {cd : Code} {b k c : Nat} {es : List RE} {tl : List Value} {ty : TypeId} (hc : es.length ≤ c) (ha : dV es k ∈ I) (h : TD P n cd Q G X w0 M (nV ⟨some ⟨b, 0, none⟩, c, es⟩ k :: I)) : TD P n cd Q G X w0 (.blk b (recs eR es ++ tl) ty :: M) I := aCA (fun _ hw => Mem.blkT hc hw ha) h
end
section
variable {X : List Nat} {w0 : World} {M0 : List Ent} {I0 : List bB}
end
end Go.Proofs.YtkccjglmnhgabaaGreatDoor
namespace Go.Fx
section
variable {P : Program} {ops : Array Oper} {Q : Exit → Act → World → Prop} {Cs Cs' : Nat → World → Prop}
end
section
variable {P : Program} {n : Nat} {Q : Exit → Act → World → Prop} {G : Env} {X : List Nat} {w0 : World} {M M1 M2 : List Ent} {I I1 I2 : List bB} {l : List Oper}
end
section
variable {P : Program} {n : Nat} {ops l : List Oper} {Q : Exit → Act → World → Prop} {m : Mode} {G : Env} {ty : TypeId} {pos : String} {af : Array Edge} {g : Option (Nat × Bool)} {X : List Nat} {w0 : World} {M M' : List Ent} {I : List bB}
/- a store into a row that may still grow -/
end
section
variable {P : Program} {n : Nat} {ops l : List Oper} {Q Q' Q1 Q2 : Exit → Act → World → Prop} {m : Mode} {G : Env} {X : List Nat} {w0 : World} {M M' : List Ent} {I : List bB}
/- a cut from within a region that a test follows -/
end
end Go.Fx
namespace Go.Proofs.YtkccjglmnhgabaaGreatDoor
open Go Go.Fx
theorem nA {P : Program} {ops : Array Oper} {Q : Exit → Act → World → Prop} {Cs Cs' : Nat → World → Prop} : ∀ (l : List Oper) (k : Nat) (ms : List Nat) (a : Act) (w : World),
  (∀ s w', l.any (fun o => eY o.op) = true → k ≤ s → Cs s w' → Cs' s w') → (∀ s w', k < s → s ≤ k + l.countP (fun o => !eY o.op) → Cs' s w' → Cs s w') →
  wpM P ops Q (.any Cs' k ms) l a w → wpM P ops Q (.any Cs k ms) l a w
 | [], _, _, _, _, _, _, h => h
 | o :: r, k, ms, a, w, hC, hK, h => by
  cases hf : eY o.op with
  | true =>
   have hC' : ∀ s w', k ≤ s → Cs s w' → Cs' s w' := fun s w' h1 => hC s w' (by simp [hf]) h1
   have hKr : ∀ s w', k < s → s ≤ k + r.countP (fun o => !eY o.op) → Cs' s w' → Cs s w' := fun s w' h1 h2 => hK s w' h1 (by rw [List.countP_cons]; omega)
   refine ⟨fun hw => (h.1 hw).imp (fun ⟨h1, v, h2, h3⟩ => ⟨h1, v, fun w' hc => h2 w' (hC' _ w' (Nat.le_add_right _ _) hc), nA r k ms.tail _ w (fun s w' _ h2 => hC' s w' h2) hKr h3⟩) (fun ⟨h1, _⟩ => absurd h1 (by simp [hf])), fun hw => ?_⟩
   have := h.2 hw
   simp only [Mode.held, Mode.skip, hf, cond_true] at this ⊢
   exact ⟨trivial, nA r k ms.tail _ w (fun s w' _ h2 => hC' s w' h2) hKr this.2⟩
  | false =>
   have hCr : ∀ s w', r.any (fun o => eY o.op) = true → k + 1 ≤ s → Cs s w' → Cs' s w' := fun s w' h0 h1 => hC s w' (by rw [List.any_cons, h0, Bool.or_true]) (by omega)
   have hct : (o :: r).countP (fun o => !eY o.op) = r.countP (fun o => !eY o.op) + 1 := by rw [List.countP_cons]; simp [hf]
   have hKr : ∀ s w', k + 1 < s → s ≤ k + 1 + r.countP (fun o => !eY o.op) → Cs' s w' → Cs s w' := fun s w' h1 h2 => hK s w' (by omega) (by omega)
   have hK1 : ∀ w', Cs' (k + 1) w' → Cs (k + 1) w' := fun w' => hK (k + 1) w' (by omega) (by omega)
   refine ⟨fun hw => (h.1 hw).imp (fun ⟨h1, _⟩ => absurd h1 (by simp [hf])) (fun ⟨h1, h2⟩ => ⟨h1, Oper.wp_mono (fun a w' ⟨x, y⟩ => ⟨hK1 w' x, nA r (k + 1) ms.tail _ _ hCr hKr y⟩) h2⟩), fun hw => ?_⟩
   have := h.2 hw
   simp only [Mode.held, Mode.skip, hf, cond_false] at this ⊢
   exact ⟨hK1 w this.1, nA r (k + 1) ms.tail _ w hCr hKr this.2⟩
theorem aFS {l : List Oper} (h : l.all (fun o => eY o.op) = true) : l.countP (fun o => !eY o.op) = 0 := by
 rw [List.countP_eq_zero]
 intro o ho
 have := List.all_eq_true.1 h o ho
 simp [this]
theorem aJL {l : List Oper} (h : l.all (fun o => !eY o.op) = true) : l.any (fun o => eY o.op) = false := by
 rw [List.any_eq_false]
 intro o ho
 have := List.all_eq_true.1 h o ho
 intro hh
 simp [hh] at this
def CsT (K : Nat) (X : List Nat) (w0 : World) (M1 M2 : List Ent) (I1 : List bB) : Nat → World → Prop := fun s w => Mem X w0 M2 I1 w ∧ (s ≤ K → Mem X w0 M1 I1 w)
section
variable {P : Program} {n : Nat} {Q : Exit → Act → World → Prop} {G : Env} {X : List Nat} {w0 : World} {M M1 M2 : List Ent} {I I1 : List bB} {l : List Oper} {K : Nat}
theorem CsT.up : ∀ s w, CsT K X w0 M1 M2 I1 s w → CsT K X w0 M1 M2 I1 (s + 1) w := fun _ _ h => ⟨h.1, fun hs => h.2 (by omega)⟩
theorem aPB {id : Nat} (K : Nat) (M1 M2 : List Ent) (I1 : List bB) (hx : P.follows .mixedOrders = true) (h : ND n (Go.Fx.Rest P l Q (CsT K X w0 M1 M2 I1) l.length 0 (Array.replicate l.length false)) .normal G X w0 M I) : TD P n (.region id l.toArray true) Q G X w0 M I :=
 ⟨fun w hw => aQM (CsT K X w0 M1 M2 I1) hx (h.go w.drew hw.drew)⟩
theorem aJS {fuel fuel' k k1 : Nat} {listed listed' : Array Bool} (p ms : List Nat) (hc : k + vZ l.toArray p = k1) (hp : (pick l p).all (fun o => eY o.op) = true) (hM : SubP M M1) (hM2 : SubP M M2) (hI : Inc I I1) (hs : Region.noSelect l.toArray = true) (hok : mG l.toArray p ms listed = some listed') (hf : fuel' = fuel + p.length) (hsz : listed.size = l.toArray.size) (hk : Nat.ble k K = true)
  (h : RD P n l (Go.Fx.Rest P l Q (CsT K X w0 M1 M2 I1) fuel k1 listed') (.any (CsJ K X w0 M1 I1) k ms) (pick l p) G X w0 M I) : ND n (Go.Fx.Rest P l Q (CsT K X w0 M1 M2 I1) fuel' k listed) .normal G X w0 M I := by
 subst hc
 exact ⟨fun w hw => uK p ms CsT.up hs hok hf hsz ⟨hw.weak hM2 hI, fun _ => hw.weak hM hI⟩ ⟨fun a ha => nA _ _ _ _ _ (fun s w' _ _ hc hs => hc.2 hs) (fun s w' h1 h2 _ => by rw [aFS hp] at h2; omega) ((h.go w hw).go a ha)⟩⟩
theorem aEL {fuel fuel' k k1 : Nat} {listed listed' : Array Bool} (p ms : List Nat) (hc : k + vZ l.toArray p = k1) (hp : (pick l p).all (fun o => eY o.op) = true) (hM : SubP M M1) (hM2 : SubP M M2) (hI : Inc I I1) (hs : Region.noSelect l.toArray = true) (hok : mG l.toArray p ms listed = some listed') (hf : fuel' = fuel + p.length) (hsz : listed.size = l.toArray.size) (hk : Nat.ble k K = true)
  (h : RD P n l (Go.Fx.Rest P l Q (CsT K X w0 M1 M2 I1) fuel k1 listed') (.any (vV X w0 M2 I1) k ms) (pick l p) G X w0 M I) : ND n (Go.Fx.Rest P l Q (CsT K X w0 M1 M2 I1) fuel' k listed) .normal G X w0 M I := by
 subst hc
 exact ⟨fun w hw => uK p ms CsT.up hs hok hf hsz ⟨hw.weak hM2 hI, fun _ => hw.weak hM hI⟩ ⟨fun a ha => nA _ _ _ _ _ (fun s w' _ _ hc => hc.1) (fun s w' h1 h2 _ => by rw [aFS hp] at h2; omega) ((h.go w hw).go a ha)⟩⟩
theorem CsT.of (h12 : SubP M1 M2) {s : Nat} {w : World} (h : Mem X w0 M1 I1 w) : CsT K X w0 M1 M2 I1 s w := ⟨h.weak h12 Inc.refl, fun _ => h⟩
theorem aEZ {fuel fuel' k k1 : Nat} {listed listed' : Array Bool} (p ms : List Nat) (hc : k + vZ l.toArray p = k1) (hp : (pick l p).all (fun o => !eY o.op) = true) (hM : SubP M M1) (h12 : SubP M1 M2) (hI : Inc I I1) (hs : Region.noSelect l.toArray = true) (hok : mG l.toArray p ms listed = some listed') (hf : fuel' = fuel + p.length) (hsz : listed.size = l.toArray.size) (hk : Nat.ble (k + (pick l p).length) K = true)
  (h : RD P n l (Go.Fx.Rest P l Q (CsT K X w0 M1 M2 I1) fuel k1 listed') (.any (vV X w0 M1 I1) k ms) (pick l p) G X w0 M I) : ND n (Go.Fx.Rest P l Q (CsT K X w0 M1 M2 I1) fuel' k listed) .normal G X w0 M I := by
 subst hc
 exact ⟨fun w hw => uK p ms CsT.up hs hok hf hsz (CsT.of h12 (hw.weak hM hI)) ⟨fun a ha => nA _ _ _ _ _ (fun s w' h0 => by rw [aJL hp] at h0; cases h0) (fun s w' h1 h2 hm => CsT.of h12 hm) ((h.go w hw).go a ha)⟩⟩
theorem aEE {fuel k : Nat} {listed : Array Bool} (p ms : List Nat) (hk : Nat.ble K k = true) (hM : SubP M M1) (hM2 : SubP M M2) (hI : Inc I I1) (hs : Region.noSelect l.toArray = true) (hok : iG l.toArray p ms listed = true) (hf : fuel = p.length) (hsz : listed.size = l.toArray.size)
  (h : RD P n l Q (.any (vV X w0 M2 I1) k ms) (pick l p) G X w0 M I) : ND n (Go.Fx.Rest P l Q (CsT K X w0 M1 M2 I1) fuel k listed) .normal G X w0 M I :=
 ⟨fun w hw => aDK p ms CsT.up hs hok hf hsz ⟨hw.weak hM2 hI, fun _ => hw.weak hM hI⟩ ⟨fun a ha => nA _ _ _ _ _ (fun s w' _ _ hc => hc.1) (fun s w' h1 h2 hm => ⟨hm, fun hs => by have := Nat.le_of_ble_eq_true hk; omega⟩) ((h.go w hw).go a ha)⟩⟩
theorem aUI {k i k1 : Nat} {R' : Exit → Act → World → Prop} (he : (pick l [i]).all (fun o => !eY o.op) = true) (h12 : SubP M1 M2) {w : World} (h : R P n l R' (.any (vV X w0 M1 I1) k []) (pick l [i]) G w) : R P n l R' (.any (CsT K X w0 M1 M2 I1) k []) (pick l [i]) G w :=
 ⟨fun a ha => nA _ _ _ _ _ (fun s w' h0 => by rw [aJL he] at h0; cases h0) (fun s w' h1 h2 hm => CsT.of h12 hm) (h.go a ha)⟩
theorem aGE {fuel k k1 i j : Nat} {listed : Array Bool} (hk : k + 1 = k1) (hK : Nat.ble k1 K = true) (h12 : SubP M1 M2) (he : ((pick l [i]).all (fun o => !eY o.op) && (pick l [j]).all (fun o => !eY o.op)) = true) (hr : (Region.ready .any l.toArray listed == [i, j] && uW l.toArray i && uW l.toArray j) = true)
  (h1 : RD P n l (Go.Fx.Rest P l Q (CsT K X w0 M1 M2 I1) fuel k1 (listed.setIfInBounds i true)) (.any (vV X w0 M1 I1) k []) (pick l [i]) G X w0 M I)
  (h2 : RD P n l (Go.Fx.Rest P l Q (CsT K X w0 M1 M2 I1) fuel k1 (listed.setIfInBounds j true)) (.any (vV X w0 M1 I1) k []) (pick l [j]) G X w0 M I) : ND n (Go.Fx.Rest P l Q (CsT K X w0 M1 M2 I1) (fuel + 1) k listed) .normal G X w0 M I := by
 subst hk
 simp only [Bool.and_eq_true] at he
 exact ⟨fun w hw => aAP hr (aUI (k1 := k) he.1 h12 (h1.go w hw)) (aUI (k1 := k) he.2 h12 (h2.go w hw))⟩
end
section
variable {P : Program} {n : Nat} {Q Q' : Exit → Act → World → Prop} {G : Env} {X : List Nat} {w0 : World} {M : List Ent} {I : List bB}
/- a cut from within a block -/
end
end Go.Proofs.YtkccjglmnhgabaaGreatDoor
