/- Controlled observations, plain: Fredholm's alternative, rows left out, the rank of the transposed matrix, weights, certificates. Spans, plain: rows that are added one by one, reduced by the rows before; the number of pivots is the rank. Ranks, plain: minors, kernels with independent vectors, rows left out, products. The document's Null. Drawn regions: what stays is chosen anew in the middle. Drawn regions that read a block's fields ahead of their stores: trees of orders in two stages; a cut within a block's code. -/
import Derived.Test.YtkccjglmnhgabaaGreatZkbb
import Derived.Test.YtkccjglmnhgabaaGreatZkbd
import Derived.Test.YtkccjglmnhgabaaGreatZkal
set_option linter.unusedSimpArgs false
set_option linter.unusedVariables false
set_option maxRecDepth 100000
set_option maxHeartbeats 4000000
namespace Go.Proofs.YtkccjglmnhgabaaGreat
open Go Go.Fx
def unL (n i : Nat) : List Rat := (List.range n).map (xU i)
def rw1 (A : Mt) (C i : Nat) (z : Nat → Rat) : Rat := sm C (fun j => at2 A i j * z j)
def ctl (R C : Nat) (A : Mt) (i : Nat) : Prop := ¬ solP R C A (unL R i)
instance (R C : Nat) (A : Mt) (i : Nat) : Decidable (ctl R C A i) := by unfold ctl; exact inferInstance
/- rows left out -/
def qM (A : Mt) (ix : List Nat) : Mt := ix.map (rowAt A)
theorem aGW {A : Mt} {ix : List Nat} {t j : Nat} (ht : t < ix.length) : at2 (qM A ix) t j = at2 A ix[t] j := by
 simp [qM, at2, rowAt, List.getD, ht]
theorem yC {A : Mt} {R C : Nat} (hA : iO A R C) {ix : List Nat} (hx : ∀ i ∈ ix, i < R) : iO (qM A ix) ix.length C := ⟨by simp [qM], fun t ht => by
 have : rowAt (qM A ix) t = rowAt A ix[t] := by simp [qM, rowAt, List.getD, ht]
 rw [this]; exact hA.2 _ (hx _ (List.getElem_mem _))⟩
theorem yM {A : Mt} {C : Nat} {ix : List Nat} {z : Nat → Rat} : Go.Proofs.YtkccjglmnhgabaaGreat.ker ix.length C (at2 (qM A ix)) z ↔ ∀ i ∈ ix, rw1 A C i z = 0 := by
 constructor
 ·intro h i hi
  obtain ⟨t, ht, rfl⟩ := List.mem_iff_getElem.1 hi
  rw [← h t ht]; exact bE (fun j _ => by rw [aGW ht])
 ·intro h t ht
  rw [← h ix[t] (List.getElem_mem _)]; exact bE (fun j _ => by rw [aGW ht])
def restI (R : Nat) (set : List Int) : List Nat := (List.range R).filter (fun i => decide ((i : Int) ∉ set))
def und (R C : Nat) (A : Mt) (set : List Int) : Prop := rk (qM A (restI R set)) C < rk A C
instance (R C : Nat) (A : Mt) (set : List Int) : Decidable (und R C A set) := by unfold und; exact inferInstance
/- the transposed matrix -/
def trM (R C : Nat) (A : Mt) : Mt := vL C R (fun i j => at2 A j i)
theorem aCE {R C : Nat} {A : Mt} {i j : Nat} (hi : i < C) (hj : j < R) : at2 (trM R C A) i j = at2 A j i := yI hi hj
theorem aGM {R C : Nat} {A : Mt} (hA : iO A R C) : rk (trM R C A) R ≤ rk A C := by
 obtain ⟨_, s, hr⟩ := jR hA C (Nat.le_refl _)
 obtain ⟨_, s', hr'⟩ := jR (A := trM R C A) (R := C) (C := R) aEV R (Nat.le_refl _)
 unfold rk
 generalize iY A C = st at hr ⊢
 obtain ⟨E, pv⟩ := st
 simp only at hr ⊢
 have := hr'.count (m := pv.length) (k := 0) (fun t i => at2 A i (pv.getD t 0)) (fun _ _ => 0) (fun y hy j hj => by
  rw [bE (g := fun i => at2 A i j * y i) (fun i hi => by rw [aCE hj hi])]
  by_cases hp : j ∈ pv
  ·obtain ⟨t, ht, rfl⟩ := jS.1 hp
   exact hy t ht
  ·have hn := hr.null hj hp
   have h1 : sm R (fun i => y i * sm C (fun c => at2 A i c * nL (at2 E) pv j c)) = 0 := lS (fun i hi => by rw [hn i hi]; grind)
   rw [bE (g := fun i => sm C (fun c => nL (at2 E) pv j c * (at2 A i c * y i))) (fun i hi => by rw [← kQ]; exact bE (fun c _ => by grind)), uT,
    bE (g := fun c => nL (at2 E) pv j c * sm R (fun i => at2 A i c * y i)) (fun c _ => kQ),
    qC (p := j) hj (fun c hc hne => by
     by_cases hcp : c ∈ pv
     ·obtain ⟨t, ht, rfl⟩ := jS.1 hcp
      have := hy t ht
      rw [this]; grind
     ·simp only [nL, if_neg hcp, if_neg hne]; grind)] at h1
   simp only [nL, if_neg hp, if_true] at h1
   grind) (fun i hi => by omega) (fun d _ i hi => by omega)
 omega
theorem aUQ {R C : Nat} {A : Mt} (hA : iO A R C) : trM C R (trM R C A) = A := by
 rw [aGR hA]
 unfold trM
 exact aDN (fun i j hi hj => by rw [yI hj hi, yI hi hj])
theorem aPE {R C : Nat} {A : Mt} (hA : iO A R C) : rk (trM R C A) R = rk A C := by
 refine Nat.le_antisymm (aGM hA) ?_
 have := aGM (R := C) (C := R) (A := trM R C A) aEV
 rwa [aUQ hA] at this
theorem wE {R C : Nat} {A : Mt} (hA : iO A R C) : (kR A C).length + rk A C = C := by
 obtain ⟨_, s, hr⟩ := jR hA C (Nat.le_refl _)
 have := hr.free_len
 unfold kR aHI rk
 rw [List.length_map]; exact this
/- certificates -/
/- weights: the normal matrix has the kernel of the design matrix -/
def nrmM (R C : Nat) (A : Mt) (p : Nat → Rat) : Mt := vL C C (fun i j => sm R (fun k => p k * at2 A k i * at2 A k j))
/- the document's inverse: the pivots of the matrix with the unit matrix beside -/
end Go.Proofs.YtkccjglmnhgabaaGreat
namespace Go.Proofs.YtkccjglmnhgabaaGreat
open Go Go.Fx
abbrev Sp := List (Nat × List Rat)
def aNN (κ : Rat) (s l : List Rat) : List Rat := l.mapIdx (fun c x => x - κ * s.getD c 0)
def rdS (p : Nat × List Rat) (l : List Rat) : List Rat := aNN (l.getD p.1 0) p.2 l
def sV (sp : Sp) (l : List Rat) : List Rat := sp.foldl (fun l p => rdS p l) l
def nJ (l : List Rat) : Nat := l.findIdx (fun x => decide (x ≠ 0))
def dvd (l : List Rat) (κ : Rat) : List Rat := l.map (fun x => x / κ)
def zQ (sp : Sp) (l : List Rat) : Bool × Sp :=
 if nJ (sV sp l) < l.length then (true, sp ++ [(nJ (sV sp l), dvd (sV sp l) ((sV sp l).getD (nJ (sV sp l)) 0))]) else (false, sp)
def jB (A : Mt) (q : Nat → Bool) : Nat → Sp × List Nat
 | 0 => ([], [])
 | k + 1 => if q k then ((zQ (jB A q k).1 (rowAt A k)).2, if (zQ (jB A q k).1 (rowAt A k)).1 then (jB A q k).2 ++ [k] else (jB A q k).2) else jB A q k
def spR (sp : Sp) (t : Nat) : List Rat := (sp.getD t (0, [])).2
def spP (sp : Sp) (t : Nat) : Nat := (sp.getD t (0, [])).1
structure SpI (C : Nat) (sp : Sp) : Prop where
 len : ∀ t, t < sp.length → (spR sp t).length = C
 piv : ∀ t, t < sp.length → spP sp t < C
 one : ∀ t, t < sp.length → (spR sp t).getD (spP sp t) 0 = 1
 low : ∀ t u, u < t → t < sp.length → (spR sp t).getD (spP sp u) 0 = 0
def tV (C : Nat) (l : List Rat) (z : Nat → Rat) : Rat := sm C (fun j => l.getD j 0 * z j)
theorem aBS {κ : Rat} {s l : List Rat} : (aNN κ s l).length = l.length := by simp [aNN]
theorem wW {κ : Rat} {s l : List Rat} {c : Nat} (h : c < l.length) : (aNN κ s l).getD c 0 = l.getD c 0 - κ * s.getD c 0 := by
 unfold aNN; rw [qO h]
theorem aAD {p : Nat × List Rat} {l : List Rat} : (rdS p l).length = l.length := aBS
theorem wK {sp : Sp} : ∀ {l : List Rat}, (sV sp l).length = l.length := by
 induction sp with
 | nil => intro l; rfl
 | cons p r ih => intro l; show (sV r (rdS p l)).length = _; rw [ih, aAD]
theorem aJW {l : List Rat} {κ : Rat} : (dvd l κ).length = l.length := by simp [dvd]
theorem aDZ {l : List Rat} {κ : Rat} {c : Nat} : (dvd l κ).getD c 0 = l.getD c 0 / κ := by
 unfold dvd
 by_cases h : c < l.length
 ·simp [List.getD, h]
 ·have : l[c]? = none := by simp; omega
  simp [List.getD, this]
  grind
theorem aSV {l : List Rat} : nJ l ≤ l.length := List.findIdx_le_length
theorem wN {l : List Rat} (h : nJ l < l.length) : l.getD (nJ l) 0 ≠ 0 := by
 have := List.findIdx_getElem (xs := l) (p := fun x => decide (x ≠ 0)) (w := h)
 have e : l.getD (nJ l) 0 = l[nJ l] := by simp [List.getD, h]
 rw [e]
 exact of_decide_eq_true this
theorem aMK {l : List Rat} (h : ¬ nJ l < l.length) : ∀ c, l.getD c 0 = 0 := fun c => by
 by_cases hc : c < l.length
 ·have := List.findIdx_eq_length.1 (show List.findIdx (fun x => decide (x ≠ 0)) l = l.length from Nat.le_antisymm aSV (by unfold nJ at h; omega)) l[c] (List.getElem_mem hc)
  have e : l.getD c 0 = l[c] := by simp [List.getD, hc]
  rw [e]
  simpa using this
 ·have : l[c]? = none := by simp; omega
  simp [List.getD, this]
theorem aSK {C : Nat} {p : Nat × List Rat} {l : List Rat} {z : Nat → Rat} (hl : l.length = C) : tV C (rdS p l) z = tV C l z - l.getD p.1 0 * tV C p.2 z := by
 unfold tV rdS
 rw [bE (g := fun j => 1 * (l.getD j 0 * z j) + (- l.getD p.1 0) * (p.2.getD j 0 * z j)) (fun j hj => by rw [wW (by omega)]; grind), uD]
 grind
theorem aAA {C : Nat} {z : Nat → Rat} : ∀ {sp : Sp} {l : List Rat}, l.length = C → (∀ p ∈ sp, tV C p.2 z = 0) → tV C (sV sp l) z = tV C l z
 | [], l, _, _ => rfl
 | p :: r, l, hl, h => by
  show tV C (sV r (rdS p l)) z = _
  rw [aAA (by rw [aAD]; exact hl) (fun x hx => h x (List.mem_cons_of_mem _ hx)), aSK hl, h p List.mem_cons_self]
  grind
theorem aET {sp : Sp} {p : Nat × List Rat} {t : Nat} : spR (sp ++ [p]) t = if t < sp.length then spR sp t else if t = sp.length then p.2 else [] := by
 unfold spR
 by_cases h : t < sp.length
 ·rw [if_pos h]; simp [List.getD, List.getElem?_append_left h]
 ·rw [if_neg h]
  by_cases e : t = sp.length
  ·rw [if_pos e]; subst e; simp [List.getD]
  ·rw [if_neg e]
   have : (sp ++ [p])[t]? = none := by simp; omega
   simp [List.getD, this]
theorem aEG {sp : Sp} {p : Nat × List Rat} {t : Nat} : spP (sp ++ [p]) t = if t < sp.length then spP sp t else if t = sp.length then p.1 else 0 := by
 unfold spP
 by_cases h : t < sp.length
 ·rw [if_pos h]; simp [List.getD, List.getElem?_append_left h]
 ·rw [if_neg h]
  by_cases e : t = sp.length
  ·rw [if_pos e]; subst e; simp [List.getD]
  ·rw [if_neg e]
   have : (sp ++ [p])[t]? = none := by simp; omega
   simp [List.getD, this]
theorem aKH {C : Nat} : ∀ {sp : Sp} {l : List Rat}, l.length = C → SpI C sp → (∀ t, t < sp.length → (sV sp l).getD (spP sp t) 0 = 0) ∧ (∀ c, c < C → l.getD c 0 = 0 → (∀ t, t < sp.length → (spR sp t).getD c 0 = 0) → (sV sp l).getD c 0 = 0)
 | [], l, _, _ => ⟨fun t ht => by simp at ht, fun c _ h0 _ => h0⟩
 | p :: r, l, hl, h => by
  have hr : SpI C r := ⟨fun t ht => h.len (t + 1) (by simpa using ht), fun t ht => h.piv (t + 1) (by simpa using ht), fun t ht => h.one (t + 1) (by simpa using ht), fun t u hu ht => h.low (t + 1) (u + 1) (by omega) (by simpa using ht)⟩
  obtain ⟨h1, h2⟩ := aKH (sp := r) (l := rdS p l) (by rw [aAD]; exact hl) hr
  have hp : p.1 < C := h.piv 0 (by simp)
  refine ⟨fun t ht => ?_, fun c hc h0 hz => ?_⟩
  ·cases t with
   | zero =>
    refine h2 p.1 hp ?_ (fun t ht => h.low (t + 1) 0 (by omega) (by simpa using ht))
    unfold rdS
    rw [wW (by omega), show p.2.getD p.1 0 = 1 from h.one 0 (by simp)]
    grind
   | succ t => exact h1 t (by simpa using ht)
  ·refine h2 c hc ?_ (fun t ht => hz (t + 1) (by simpa using ht))
   unfold rdS
   rw [wW (by omega), h0, show p.2.getD c 0 = 0 from hz 0 (by simp)]
   grind
def aBP (C : Nat) (sp : Sp) (z : Nat → Rat) : Prop := ∀ p ∈ sp, tV C p.2 z = 0
theorem wU {sp : Sp} {l : List Rat} (h : nJ (sV sp l) < l.length) : zQ sp l = (true, sp ++ [(nJ (sV sp l), dvd (sV sp l) ((sV sp l).getD (nJ (sV sp l)) 0))]) := by unfold zQ; rw [if_pos h]
theorem xX {sp : Sp} {l : List Rat} (h : ¬ nJ (sV sp l) < l.length) : zQ sp l = (false, sp) := by unfold zQ; rw [if_neg h]
theorem aUL {C : Nat} {sp : Sp} {l : List Rat} (hl : l.length = C) (h : SpI C sp) : SpI C (zQ sp l).2 := by
 by_cases hp : nJ (sV sp l) < l.length
 ·rw [wU hp]
  show SpI C (sp ++ [_])
  have hn := wN (l := sV sp l) (by rw [wK]; exact hp)
  have hz := (aKH hl h).1
  refine ⟨fun t ht => ?_, fun t ht => ?_, fun t ht => ?_, fun t u hu ht => ?_⟩
  all_goals rw [List.length_append, List.length_singleton] at ht
  ·rw [aET]
   by_cases e : t < sp.length
   ·rw [if_pos e]; exact h.len t e
   ·rw [if_neg e, if_pos (by omega)]; show (dvd _ _).length = C; rw [aJW, wK, hl]
  ·rw [aEG]
   by_cases e : t < sp.length
   ·rw [if_pos e]; exact h.piv t e
   ·rw [if_neg e, if_pos (by omega)]; omega
  ·rw [aET, aEG]
   by_cases e : t < sp.length
   ·rw [if_pos e, if_pos e]; exact h.one t e
   ·rw [if_neg e, if_pos (by omega), if_neg e, if_pos (by omega)]; show (dvd _ _).getD _ 0 = 1; rw [aDZ]; grind
  ·rw [aET, aEG]
   by_cases e : t < sp.length
   ·rw [if_pos e, if_pos (by omega)]; exact h.low t u hu e
   ·rw [if_neg e, if_pos (by omega), if_pos (by omega)]; show (dvd _ _).getD _ 0 = 0; rw [aDZ, hz u (by omega)]; grind
 ·rw [xX hp]; exact h
theorem aQL {C : Nat} {sp : Sp} {p : Nat × List Rat} {z : Nat → Rat} : aBP C (sp ++ [p]) z ↔ aBP C sp z ∧ tV C p.2 z = 0 := by
 unfold aBP
 constructor
 ·intro h; exact ⟨fun q hq => h q (List.mem_append_left _ hq), h p (by simp)⟩
 ·rintro ⟨h1, h2⟩ q hq
  rcases List.mem_append.1 hq with hq | hq
  ·exact h1 q hq
  ·rw [List.mem_singleton.1 hq]; exact h2
theorem aLP {C : Nat} {l : List Rat} {κ : Rat} {z : Nat → Rat} : tV C (dvd l κ) z = 1 / κ * tV C l z := by
 unfold tV
 rw [← kQ]
 exact bE (fun j _ => by rw [aDZ]; grind)
theorem aLO {C : Nat} {sp : Sp} {l : List Rat} {z : Nat → Rat} (hl : l.length = C) : aBP C (zQ sp l).2 z ↔ aBP C sp z ∧ tV C l z = 0 := by
 by_cases hp : nJ (sV sp l) < l.length
 ·rw [wU hp]
  show aBP C (sp ++ [_]) z ↔ _
  rw [aQL]
  have hn := wN (l := sV sp l) (by rw [wK]; exact hp)
  constructor
  ·rintro ⟨h1, h2⟩
   refine ⟨h1, ?_⟩
   have h3 : tV C (dvd (sV sp l) ((sV sp l).getD (nJ (sV sp l)) 0)) z = 0 := h2
   rw [aLP, aAA hl h1] at h3
   rcases Rat.mul_eq_zero.1 h3 with e | e
   ·exact absurd e (by grind)
   ·exact e
  ·rintro ⟨h1, h2⟩
   refine ⟨h1, ?_⟩
   show tV C (dvd _ _) z = 0
   rw [aLP, aAA hl h1, h2]; grind
 ·rw [xX hp]
  constructor
  ·intro h1
   refine ⟨h1, ?_⟩
   have h1' : aBP C sp z := h1
   rw [← aAA hl h1']
   have := aMK (l := sV sp l) (by rw [wK]; exact hp)
   exact lS (fun j _ => by rw [this]; grind)
  ·exact fun h1 => h1.1
theorem aUI {sp : Sp} {l : List Rat} : (zQ sp l).2.length = if (zQ sp l).1 then sp.length + 1 else sp.length := by
 by_cases hp : nJ (sV sp l) < l.length
 ·rw [wU hp]; simp
 ·rw [xX hp]; simp
section
variable {A : Mt} {q : Nat → Bool} {R C : Nat}
theorem xL {k : Nat} (h : q k = true) : jB A q (k + 1) = ((zQ (jB A q k).1 (rowAt A k)).2, if (zQ (jB A q k).1 (rowAt A k)).1 then (jB A q k).2 ++ [k] else (jB A q k).2) := by show ite _ _ _ = _; rw [if_pos h]
theorem aFG {k : Nat} (h : q k = false) : jB A q (k + 1) = jB A q k := by show ite _ _ _ = _; rw [if_neg (by rw [h]; decide)]
theorem mK (hA : iO A R C) : ∀ {k : Nat}, k ≤ R → SpI C (jB A q k).1
 | 0, _ => ⟨fun t ht => by simp [jB] at ht, fun t ht => by simp [jB] at ht, fun t ht => by simp [jB] at ht, fun t u _ ht => by simp [jB] at ht⟩
 | k + 1, hk => by
  have ih := mK hA (k := k) (by omega)
  cases e : q k with
  | true => rw [xL e]; exact aUL (hA.2 k (by omega)) ih
  | false => rw [aFG e]; exact ih
theorem aEP (hA : iO A R C) {z : Nat → Rat} : ∀ {k : Nat}, k ≤ R → (aBP C (jB A q k).1 z ↔ ∀ i, i < k → q i = true → rw1 A C i z = 0)
 | 0, _ => ⟨fun _ i hi => by omega, fun _ p hp => by simp [jB] at hp⟩
 | k + 1, hk => by
  have ih := aEP hA (z := z) (k := k) (by omega)
  have hr : rw1 A C k z = tV C (rowAt A k) z := rfl
  cases e : q k with
  | true =>
   rw [xL e]
   show aBP C (zQ _ _).2 z ↔ _
   rw [aLO (hA.2 k (by omega)), ih]
   constructor
   ·rintro ⟨h1, h2⟩ i hi hq
    by_cases ei : i = k
    ·subst ei; rw [hr]; exact h2
    ·exact h1 i (by omega) hq
   ·intro h; exact ⟨fun i hi hq => h i (by omega) hq, by rw [← hr]; exact h k (by omega) e⟩
  | false =>
   rw [aFG e, ih]
   constructor
   ·intro h i hi hq
    by_cases ei : i = k
    ·subst ei; rw [e] at hq; exact absurd hq (by decide)
    ·exact h i (by omega) hq
   ·intro h i hi hq; exact h i (by omega) hq
theorem aEU (hA : iO A R C) : ∀ {k : Nat}, k ≤ R → (jB A q k).2.length = (jB A q k).1.length ∧ (∀ i ∈ (jB A q k).2, i < k ∧ q i = true) ∧ (jB A q k).2.Pairwise (· < ·) ∧ ∀ z, aBP C (jB A q k).1 z ↔ ∀ i ∈ (jB A q k).2, rw1 A C i z = 0
 | 0, _ => ⟨rfl, fun i hi => by simp [jB] at hi, List.Pairwise.nil, fun z => ⟨fun _ i hi => by simp [jB] at hi, fun _ p hp => by simp [jB] at hp⟩⟩
 | k + 1, hk => by
  obtain ⟨h1, h2, h3, h4⟩ := aEU hA (k := k) (by omega)
  cases e : q k with
  | false =>
   rw [aFG e]
   exact ⟨h1, fun i hi => ⟨by have := (h2 i hi).1; omega, (h2 i hi).2⟩, h3, h4⟩
  | true =>
   rw [xL e]
   cases ea : (zQ (jB A q k).1 (rowAt A k)).1 with
   | true =>
    have hl : nJ (sV (jB A q k).1 (rowAt A k)) < (rowAt A k).length := by
     refine Classical.byContradiction (fun hn => ?_)
     rw [xX hn] at ea; exact Bool.noConfusion ea
    simp only [if_true]
    refine ⟨?_, ?_, ?_, ?_⟩
    ·rw [aUI, ea, if_pos rfl]; simp [h1]
    ·intro i hi
     rcases List.mem_append.1 hi with hi | hi
     ·exact ⟨by have := (h2 i hi).1; omega, (h2 i hi).2⟩
     ·rw [List.mem_singleton.1 hi]; exact ⟨by omega, e⟩
    ·refine List.pairwise_append.2 ⟨h3, List.pairwise_singleton _ _, fun a ha b hb => ?_⟩
     rw [List.mem_singleton.1 hb]; exact (h2 a ha).1
    ·intro z
     rw [aLO (hA.2 k (by omega)), h4 z]
     constructor
     ·rintro ⟨a, b⟩ i hi
      rcases List.mem_append.1 hi with hi | hi
      ·exact a i hi
      ·rw [List.mem_singleton.1 hi]; exact b
     ·intro h; exact ⟨fun i hi => h i (List.mem_append_left _ hi), h k (by simp)⟩
   | false =>
    have hn : ¬ nJ (sV (jB A q k).1 (rowAt A k)) < (rowAt A k).length := fun hp => by rw [wU hp] at ea; exact Bool.noConfusion ea
    simp only [Bool.false_eq_true, if_false]
    rw [xX hn]
    exact ⟨h1, fun i hi => ⟨by have := (h2 i hi).1; omega, (h2 i hi).2⟩, h3, h4⟩
end
/- rows that are independent: the rank is their number -/
def indR (K : Mt) (k C : Nat) : Prop := ∀ d : Nat → Rat, (∀ j, j < C → sm k (fun i => d i * at2 K i j) = 0) → ∀ i, i < k → d i = 0
theorem aRN {R n : Nat} {f0 f : Nat → Nat → Rat} {pv : List Nat} {s : Rat} (h : Red R n n f0 f pv s) : pv.length = n ↔ ∀ z, Go.Proofs.YtkccjglmnhgabaaGreat.ker R n f0 z → ∀ i, i < n → z i = 0 := by
 have hf := h.free_len
 constructor
 ·intro e z hz c hc
  have h0 : jP pv n = [] := List.length_eq_zero_iff.1 (by omega)
  have hall : ∀ j, j < n → j ∈ pv := fun j hj => Classical.byContradiction (fun hn => by
   have := wD.2 ⟨hj, hn⟩
   rw [h0] at this; simp at this)
  rw [h.span hz hc]
  exact lS (fun j hj => by simp only [uC, if_pos (hall j hj)]; grind)
 ·intro hz
  refine Classical.byContradiction (fun hne => ?_)
  obtain ⟨j, hj⟩ : ∃ j, j ∈ jP pv n := by
   cases hh : jP pv n with
   | nil => rw [hh] at hf; simp at hf; omega
   | cons a r => exact ⟨a, by simp⟩
  obtain ⟨h1, h2⟩ := wD.1 hj
  have := hz _ (h.null h1 h2) j h1
  simp only [nL, if_neg h2, if_true] at this
  exact absurd this (by decide)
theorem aPN {K : Mt} {k C : Nat} (hK : iO K k C) : rk K C = k ↔ indR K k C := by
 rw [← aPE hK]
 obtain ⟨_, s, hr⟩ := jR (A := trM k C K) (R := C) (C := k) aEV k (Nat.le_refl _)
 unfold rk
 rw [aRN hr]
 unfold indR
 have e : ∀ d : Nat → Rat, Go.Proofs.YtkccjglmnhgabaaGreat.ker C k (at2 (trM k C K)) d ↔ ∀ j, j < C → sm k (fun i => d i * at2 K i j) = 0 := fun d => by
  constructor
  ·intro h j hj
   rw [← h j hj]
   exact bE (fun i hi => by rw [aCE hj hi]; grind)
  ·intro h j hj
   rw [← h j hj]
   exact bE (fun i hi => by rw [aCE hj hi]; grind)
 exact ⟨fun h d hd => h d ((e d).2 hd), fun h d hd => h d ((e d).1 hd)⟩
theorem aIY {A : Mt} {R C : Nat} (hA : iO A R C) : rk A C ≤ R := by
 obtain ⟨_, s, hr⟩ := jR hA C (Nat.le_refl _)
 exact hr.len
theorem yB {A B : Mt} {R R' C : Nat} (hA : iO A R C) (hB : iO B R' C) (h : ∀ z, Go.Proofs.YtkccjglmnhgabaaGreat.ker R C (at2 A) z → Go.Proofs.YtkccjglmnhgabaaGreat.ker R' C (at2 B) z) : rk B C ≤ rk A C := by
 obtain ⟨_, s, hr⟩ := jR hA C (Nat.le_refl _)
 obtain ⟨_, s', hr'⟩ := jR hB C (Nat.le_refl _)
 exact hr'.le hr h
def mtS (sp : Sp) : Mt := sp.map (·.2)
theorem yT {sp : Sp} {t : Nat} (h : t < sp.length) : rowAt (mtS sp) t = spR sp t := by simp [mtS, rowAt, spR, List.getD, h]
theorem uI {C : Nat} {sp : Sp} (h : SpI C sp) : iO (mtS sp) sp.length C := ⟨by simp [mtS], fun t ht => by rw [yT ht]; exact h.len t ht⟩
theorem aLQ {C : Nat} {sp : Sp} {z : Nat → Rat} : Go.Proofs.YtkccjglmnhgabaaGreat.ker sp.length C (at2 (mtS sp)) z ↔ aBP C sp z := by
 constructor
 ·intro h p hp
  obtain ⟨t, ht, rfl⟩ := List.mem_iff_getElem.1 hp
  rw [← h t ht]
  exact bE (fun j _ => by unfold at2; rw [yT ht]; simp [spR, List.getD, ht])
 ·intro h t ht
  rw [← h sp[t] (List.getElem_mem _)]
  exact bE (fun j _ => by unfold at2; rw [yT ht]; simp [spR, List.getD, ht])
theorem aOF {m : Nat} {d : Nat → Rat} {g : Nat → Nat → Rat} (h1 : ∀ t, t < m → g t t = 1) (h0 : ∀ t u, u < t → t < m → g t u = 0) (hz : ∀ u, u < m → sm m (fun t => d t * g t u) = 0) : ∀ u, u < m → d u = 0 := by
 intro u
 induction u using Nat.strongRecOn with
 | _ u ih =>
  intro hu
  have := hz u hu
  rw [qC (p := u) hu (fun t ht hne => by
   by_cases e : t < u
   ·rw [ih t e ht]; grind
   ·rw [h0 t u (by omega) ht]; grind), h1 u hu] at this
  grind
theorem aJA {C : Nat} {sp : Sp} (h : SpI C sp) : rk (mtS sp) C = sp.length := by
 rw [aPN (uI h)]
 intro d hd
 refine aOF (g := fun t u => at2 (mtS sp) t (spP sp u)) (fun t ht => ?_) (fun t u hu ht => ?_) (fun u hu => hd _ (h.piv u hu))
 ·unfold at2; rw [yT ht]; exact h.one t ht
 ·unfold at2; rw [yT ht]; exact h.low t u hu ht
theorem aRA {A : Mt} {q : Nat → Bool} {R C n : Nat} (hA : iO A R C) (hn : n ≤ R) : (jB A q n).1.length = rk (qM A ((List.range n).filter q)) C := by
 have hi := mK (q := q) hA hn
 have hd : iO (qM A ((List.range n).filter q)) ((List.range n).filter q).length C := yC hA (fun i hi => by
  have := List.mem_range.1 (List.mem_filter.1 hi).1; omega)
 have hk : ∀ z, Go.Proofs.YtkccjglmnhgabaaGreat.ker (jB A q n).1.length C (at2 (mtS (jB A q n).1)) z ↔ Go.Proofs.YtkccjglmnhgabaaGreat.ker ((List.range n).filter q).length C (at2 (qM A ((List.range n).filter q))) z := fun z => by
  rw [aLQ, yM, aEP hA hn]
  exact ⟨fun h i hi => h i (List.mem_range.1 (List.mem_filter.1 hi).1) (List.mem_filter.1 hi).2, fun h i h1 h2 => h i (List.mem_filter.2 ⟨List.mem_range.2 h1, h2⟩)⟩
 rw [← aJA hi]
 exact Nat.le_antisymm (yB hd (uI hi) (fun z => (hk z).2)) (yB (uI hi) hd (fun z => (hk z).1))
theorem sN {A : Mt} {R C : Nat} (hA : iO A R C) : (jB A (fun _ => true) R).1.length = rk A C := by
 have hi := mK (q := fun _ => true) hA (Nat.le_refl _)
 have hk : ∀ z, Go.Proofs.YtkccjglmnhgabaaGreat.ker (jB A (fun _ => true) R).1.length C (at2 (mtS (jB A (fun _ => true) R).1)) z ↔ Go.Proofs.YtkccjglmnhgabaaGreat.ker R C (at2 A) z := fun z => by
  rw [aLQ, aEP hA (Nat.le_refl _)]
  exact ⟨fun h i hi => h i hi rfl, fun h i hi _ => h i hi⟩
 rw [← aJA hi]
 exact Nat.le_antisymm (yB hA (uI hi) (fun z => (hk z).2)) (yB (uI hi) hA (fun z => (hk z).1))
end Go.Proofs.YtkccjglmnhgabaaGreat
namespace Go.Proofs.YtkccjglmnhgabaaGreat
open Go Go.Fx
def mnr (A : Mt) (ix jx : List Nat) : Mt := ix.map (fun i => jx.map (fun j => at2 A i j))
theorem aPB {pv : List Nat} (h : pv.Nodup) {a b : Nat} (ha : a < pv.length) (hb : b < pv.length) (e : pv.getD a 0 = pv.getD b 0) : a = b := by
 rw [lK ha, lK hb] at e
 exact (List.getElem_inj h).1 e
def lft (jx : List Nat) (z : Nat → Rat) (j : Nat) : Rat := if j ∈ jx then z (jx.idxOf j) else 0
def pvS (sp : Sp) : List Nat := sp.map (·.1)
theorem aQK {sp : Sp} {t : Nat} (h : t < sp.length) : (pvS sp).getD t 0 = spP sp t := by simp [pvS, spP, List.getD, h]
theorem mM {sp : Sp} : (pvS sp).length = sp.length := by simp [pvS]
theorem aXB {C : Nat} {sp : Sp} (h : SpI C sp) : ∀ j ∈ pvS sp, j < C := fun j hj => by
 obtain ⟨t, ht, rfl⟩ := jS.1 hj
 rw [mM] at ht
 rw [aQK ht]; exact h.piv t ht
theorem aEQ {A : Mt} {R C k : Nat} (hA : iO A R C) (Z : Nat → Nat → Rat) (hZ : ∀ i, i < k → Go.Proofs.YtkccjglmnhgabaaGreat.ker R C (at2 A) (Z i)) (hi : ∀ d : Nat → Rat, (∀ j, j < C → sm k (fun i => d i * Z i j) = 0) → ∀ i, i < k → d i = 0) : rk A C + k ≤ C := by
 obtain ⟨_, s, hr⟩ := jR hA C (Nat.le_refl _)
 have hone : ∀ (z : Nat → Rat) (e : Nat), e < C → sm C (fun j => xU e j * z j) = z e := fun z e he => by
  rw [qC (p := e) he (fun j hj hne => by simp only [xU, if_neg (Ne.symm hne)]; grind)]
  simp only [xU, if_true]; grind
 exact hr.count (m := C) (k := k) xU Z (fun z hz i hi => lS (fun j hj => by rw [← hone z j hj, hz j hj]; grind)) hZ (fun d hd => hi d (fun j hj => by rw [← hone (fun j => sm k (fun i => d i * Z i j)) j hj]; exact hd j hj))
theorem nulK {A : Mt} {R C : Nat} (hA : iO A R C) {v : List Rat} (hv : v ∈ kR A C) {i : Nat} (hi : i < R) : sm C (fun t => at2 A i t * v.getD t 0) = 0 := by
 obtain ⟨_, s, hr⟩ := jR hA C (Nat.le_refl _)
 obtain ⟨j, hj, rfl⟩ := List.mem_map.1 (show v ∈ (jP (iY A C).2 C).map (wR (iY A C).1 (iY A C).2 C) from hv)
 obtain ⟨h1, h2⟩ := wD.1 hj
 have := hr.null h1 h2 i hi
 exact (bE (fun t ht => by rw [aBY ht])).trans this
theorem uU {A : Mt} {i : Nat} (h : i < A.length) : rowAt A i ∈ A := by
 have : rowAt A i = A[i] := by simp [rowAt, List.getD, h]
 rw [this]; exact List.getElem_mem _
theorem aJO {pv : List Nat} {C : Nat} : (jP pv C).Nodup := List.Pairwise.filter _ List.nodup_range
theorem nulI {A : Mt} {R C : Nat} (hA : iO A R C) : indR (kR A C) (C - rk A C) C := by
 intro d hd i hi
 have hl := wE hA
 have hlf : (jP (iY A C).2 C).length = C - rk A C := by unfold kR aHI at hl; rw [List.length_map] at hl; omega
 have hm : (jP (iY A C).2 C).getD i 0 ∈ jP (iY A C).2 C := jS.2 ⟨i, by omega, rfl⟩
 obtain ⟨h1, h2⟩ := wD.1 hm
 have hat : ∀ u, u < C - rk A C → at2 (kR A C) u ((jP (iY A C).2 C).getD i 0) = xU ((jP (iY A C).2 C).getD u 0) ((jP (iY A C).2 C).getD i 0) := fun u hu => by
  have e : rowAt (kR A C) u = wR (iY A C).1 (iY A C).2 C ((jP (iY A C).2 C).getD u 0) := by
   have : u < (jP (iY A C).2 C).length := by omega
   simp [rowAt, kR, aHI, List.getD, this]
  unfold at2
  rw [e, aBY h1]
  simp only [nL, if_neg h2, xU]
  by_cases e' : (jP (iY A C).2 C).getD i 0 = (jP (iY A C).2 C).getD u 0
  ·rw [if_pos e', if_pos e'.symm]
  ·rw [if_neg e', if_neg (fun e => e' e.symm)]
 have := hd _ h1
 rw [qC (p := i) hi (fun u hu hne => by
  rw [hat u hu]
  have : ¬ (jP (iY A C).2 C).getD u 0 = (jP (iY A C).2 C).getD i 0 := fun e => hne (aPB aJO (by omega) (by omega) e)
  simp only [xU, if_neg this]; grind), hat i hi] at this
 simp only [xU, if_true] at this
 grind
theorem aTA {A : Mt} {R C : Nat} (hA : iO A R C) {ix jx : List Nat} (hj : ∀ i ∈ jx, i < R) (h : ∀ i ∈ ix, i ∈ jx) : rk (qM A ix) C ≤ rk (qM A jx) C :=
 yB (yC hA hj) (yC hA (fun i hi => hj i (h i hi))) (fun z hz => yM.2 (fun i hi => yM.1 hz i (h i hi)))
theorem aVU {A B : Mt} {R C D : Nat} (hA : iO A R C) (hB : iO B R D) {G : Nat → Nat → Rat} (h : ∀ i j, i < R → j < D → at2 B i j = sm C (fun k => at2 A i k * G k j)) : rk B D ≤ rk A C := by
 rw [← aPE hA, ← aPE hB]
 refine yB (R := C) (R' := D) (C := R) aEV aEV (fun z hz j hj => ?_)
 rw [bE (g := fun i => sm C (fun k => G k j * (at2 A i k * z i))) (fun i hi => by
  have e : sm C (fun k => G k j * (at2 A i k * z i)) = z i * sm C (fun k => at2 A i k * G k j) := by rw [← kQ]; exact bE (fun k _ => by grind)
  rw [aCE hj hi, h i j hi hj, e]; grind), uT]
 refine lS (fun k hk => ?_)
 rw [kQ]
 have := hz k hk
 rw [bE (g := fun i => at2 A i k * z i) (fun i hi => by rw [aCE hk hi])] at this
 rw [this]; grind
theorem sH {A : Mt} {R C : Nat} (hA : iO A R C) : rk A C ≤ C := by have := wE hA; omega
end Go.Proofs.YtkccjglmnhgabaaGreat
namespace Go.Proofs.YtkccjglmnhgabaaGreat
open Go Go.Fx
def NlR (A : Mt) (C k : Nat) (M0 : List Ent) (I0 : List aZ) (v : Value) (M : List Ent) (I : List aZ) : Prop :=
 M0 = M ∧ ∃ m : MX, v = mv m ∧ m.q = kR A C ∧ (∀ r ∈ m.rows, r.es.length = C) ∧ I = kM m k :: I0
section
variable {X : List Nat} {w0 : World} {M : List Ent} {I : List aZ}
theorem Mem.blkT {w : World} {b k c : Nat} {es : List RE} {tl : List Value} {ty : TypeId} (hc : es.length ≤ c) (h : Mem X w0 (.blk b (recs eR es ++ tl) ty :: M) I w) (ha : dW es k ∈ I) : Mem X w0 M (nX ⟨some ⟨b, 0, none⟩, c, es⟩ k :: I) w := by
 have h1 := h.freezeB .here
 refine (h1.add (φ := nX ⟨some ⟨b, 0, none⟩, c, es⟩ k) ⟨aJB (h1.sl (List.Mem.head _)), (((h1.imm _ (List.Mem.tail _ ha)).2 : AllR es k _ w)).go, ⟨hc, .inl (Ok.mk _ _)⟩⟩).inc (.of fun φ hφ => ?_)
 rcases List.mem_cons.1 hφ with rfl | hφ
 ·exact List.Mem.head _
 ·exact List.Mem.tail _ (List.Mem.tail _ hφ)
variable {P : Program} {n : Nat} {Q : Exit → Act → World → Prop} {G : Env}
theorem aSW {cd : Code} {b k c : Nat} {es : List RE} {tl : List Value} {ty : TypeId} (hc : es.length ≤ c) (ha : dW es k ∈ I) (h : TD P n cd Q G X w0 M (nX ⟨some ⟨b, 0, none⟩, c, es⟩ k :: I)) : TD P n cd Q G X w0 (.blk b (recs eR es ++ tl) ty :: M) I := aFF (fun _ hw => Mem.blkT hc hw ha) h
end
section
variable {X : List Nat} {w0 : World} {M0 : List Ent} {I0 : List aZ}
end
end Go.Proofs.YtkccjglmnhgabaaGreat
namespace Go.Fx
section
variable {P : Program} {ops : Array Oper} {Q : Exit → Act → World → Prop} {Cs Cs' : Nat → World → Prop}
end
section
variable {P : Program} {n : Nat} {Q : Exit → Act → World → Prop} {G : Env} {X : List Nat} {w0 : World} {M M1 M2 : List Ent} {I I1 I2 : List aZ} {l : List Oper}
end
section
variable {P : Program} {n : Nat} {ops l : List Oper} {Q : Exit → Act → World → Prop} {m : Mode} {G : Env} {ty : TypeId} {pos : String} {af : Array Edge} {g : Option (Nat × Bool)} {X : List Nat} {w0 : World} {M M' : List Ent} {I : List aZ}
/- a store into a row that may still grow -/
end
section
variable {P : Program} {n : Nat} {ops l : List Oper} {Q Q' Q1 Q2 : Exit → Act → World → Prop} {m : Mode} {G : Env} {X : List Nat} {w0 : World} {M M' : List Ent} {I : List aZ}
/- a cut from within a region that a test follows -/
end
end Go.Fx
namespace Go.Proofs.YtkccjglmnhgabaaGreat
open Go Go.Fx
theorem nM {P : Program} {ops : Array Oper} {Q : Exit → Act → World → Prop} {Cs Cs' : Nat → World → Prop} : ∀ (l : List Oper) (k : Nat) (ms : List Nat) (a : Act) (w : World),
  (∀ s w', l.any (fun o => eY o.op) = true → k ≤ s → Cs s w' → Cs' s w') → (∀ s w', k < s → s ≤ k + l.countP (fun o => !eY o.op) → Cs' s w' → Cs s w') →
  wpM P ops Q (.any Cs' k ms) l a w → wpM P ops Q (.any Cs k ms) l a w
 | [], _, _, _, _, _, _, h => h
 | o :: r, k, ms, a, w, hC, hK, h => by
  cases hf : eY o.op with
  | true =>
   have hC' : ∀ s w', k ≤ s → Cs s w' → Cs' s w' := fun s w' h1 => hC s w' (by simp [hf]) h1
   have hKr : ∀ s w', k < s → s ≤ k + r.countP (fun o => !eY o.op) → Cs' s w' → Cs s w' := fun s w' h1 h2 => hK s w' h1 (by rw [List.countP_cons]; omega)
   refine ⟨fun hw => (h.1 hw).imp (fun ⟨h1, v, h2, h3⟩ => ⟨h1, v, fun w' hc => h2 w' (hC' _ w' (Nat.le_add_right _ _) hc), nM r k ms.tail _ w (fun s w' _ h2 => hC' s w' h2) hKr h3⟩) (fun ⟨h1, _⟩ => absurd h1 (by simp [hf])), fun hw => ?_⟩
   have := h.2 hw
   simp only [Mode.held, Mode.skip, hf, cond_true] at this ⊢
   exact ⟨trivial, nM r k ms.tail _ w (fun s w' _ h2 => hC' s w' h2) hKr this.2⟩
  | false =>
   have hCr : ∀ s w', r.any (fun o => eY o.op) = true → k + 1 ≤ s → Cs s w' → Cs' s w' := fun s w' h0 h1 => hC s w' (by rw [List.any_cons, h0, Bool.or_true]) (by omega)
   have hct : (o :: r).countP (fun o => !eY o.op) = r.countP (fun o => !eY o.op) + 1 := by rw [List.countP_cons]; simp [hf]
   have hKr : ∀ s w', k + 1 < s → s ≤ k + 1 + r.countP (fun o => !eY o.op) → Cs' s w' → Cs s w' := fun s w' h1 h2 => hK s w' (by omega) (by omega)
   have hK1 : ∀ w', Cs' (k + 1) w' → Cs (k + 1) w' := fun w' => hK (k + 1) w' (by omega) (by omega)
   refine ⟨fun hw => (h.1 hw).imp (fun ⟨h1, _⟩ => absurd h1 (by simp [hf])) (fun ⟨h1, h2⟩ => ⟨h1, Oper.wp_mono (fun a w' ⟨x, y⟩ => ⟨hK1 w' x, nM r (k + 1) ms.tail _ _ hCr hKr y⟩) h2⟩), fun hw => ?_⟩
   have := h.2 hw
   simp only [Mode.held, Mode.skip, hf, cond_false] at this ⊢
   exact ⟨hK1 w this.1, nM r (k + 1) ms.tail _ w hCr hKr this.2⟩
theorem aFV {l : List Oper} (h : l.all (fun o => eY o.op) = true) : l.countP (fun o => !eY o.op) = 0 := by
 rw [List.countP_eq_zero]
 intro o ho
 have := List.all_eq_true.1 h o ho
 simp [this]
theorem aLT {l : List Oper} (h : l.all (fun o => !eY o.op) = true) : l.any (fun o => eY o.op) = false := by
 rw [List.any_eq_false]
 intro o ho
 have := List.all_eq_true.1 h o ho
 intro hh
 simp [hh] at this
def CsT (K : Nat) (X : List Nat) (w0 : World) (M1 M2 : List Ent) (I1 : List aZ) : Nat → World → Prop := fun s w => Mem X w0 M2 I1 w ∧ (s ≤ K → Mem X w0 M1 I1 w)
section
variable {P : Program} {n : Nat} {Q : Exit → Act → World → Prop} {G : Env} {X : List Nat} {w0 : World} {M M1 M2 : List Ent} {I I1 : List aZ} {l : List Oper} {K : Nat}
theorem CsT.up : ∀ s w, CsT K X w0 M1 M2 I1 s w → CsT K X w0 M1 M2 I1 (s + 1) w := fun _ _ h => ⟨h.1, fun hs => h.2 (by omega)⟩
theorem aRH {id : Nat} (K : Nat) (M1 M2 : List Ent) (I1 : List aZ) (hx : P.follows .mixedOrders = true) (h : ND n (Go.Fx.Rest P l Q (CsT K X w0 M1 M2 I1) l.length 0 (Array.replicate l.length false)) .normal G X w0 M I) : TD P n (.region id l.toArray true) Q G X w0 M I :=
 ⟨fun w hw => aQF (CsT K X w0 M1 M2 I1) hx (h.go w.drew hw.drew)⟩
theorem aLR {fuel fuel' k k1 : Nat} {listed listed' : Array Bool} (p ms : List Nat) (hc : k + xP l.toArray p = k1) (hp : (pick l p).all (fun o => eY o.op) = true) (hM : SubP M M1) (hM2 : SubP M M2) (hI : Inc I I1) (hs : Region.noSelect l.toArray = true) (hok : mG l.toArray p ms listed = some listed') (hf : fuel' = fuel + p.length) (hsz : listed.size = l.toArray.size) (hk : Nat.ble k K = true)
  (h : RD P n l (Go.Fx.Rest P l Q (CsT K X w0 M1 M2 I1) fuel k1 listed') (.any (CsJ K X w0 M1 I1) k ms) (pick l p) G X w0 M I) : ND n (Go.Fx.Rest P l Q (CsT K X w0 M1 M2 I1) fuel' k listed) .normal G X w0 M I := by
 subst hc
 exact ⟨fun w hw => uV p ms CsT.up hs hok hf hsz ⟨hw.weak hM2 hI, fun _ => hw.weak hM hI⟩ ⟨fun a ha => nM _ _ _ _ _ (fun s w' _ _ hc hs => hc.2 hs) (fun s w' h1 h2 _ => by rw [aFV hp] at h2; omega) ((h.go w hw).go a ha)⟩⟩
theorem aEK {fuel fuel' k k1 : Nat} {listed listed' : Array Bool} (p ms : List Nat) (hc : k + xP l.toArray p = k1) (hp : (pick l p).all (fun o => eY o.op) = true) (hM : SubP M M1) (hM2 : SubP M M2) (hI : Inc I I1) (hs : Region.noSelect l.toArray = true) (hok : mG l.toArray p ms listed = some listed') (hf : fuel' = fuel + p.length) (hsz : listed.size = l.toArray.size) (hk : Nat.ble k K = true)
  (h : RD P n l (Go.Fx.Rest P l Q (CsT K X w0 M1 M2 I1) fuel k1 listed') (.any (Cst X w0 M2 I1) k ms) (pick l p) G X w0 M I) : ND n (Go.Fx.Rest P l Q (CsT K X w0 M1 M2 I1) fuel' k listed) .normal G X w0 M I := by
 subst hc
 exact ⟨fun w hw => uV p ms CsT.up hs hok hf hsz ⟨hw.weak hM2 hI, fun _ => hw.weak hM hI⟩ ⟨fun a ha => nM _ _ _ _ _ (fun s w' _ _ hc => hc.1) (fun s w' h1 h2 _ => by rw [aFV hp] at h2; omega) ((h.go w hw).go a ha)⟩⟩
theorem CsT.of (h12 : SubP M1 M2) {s : Nat} {w : World} (h : Mem X w0 M1 I1 w) : CsT K X w0 M1 M2 I1 s w := ⟨h.weak h12 Inc.refl, fun _ => h⟩
theorem aEC {fuel fuel' k k1 : Nat} {listed listed' : Array Bool} (p ms : List Nat) (hc : k + xP l.toArray p = k1) (hp : (pick l p).all (fun o => !eY o.op) = true) (hM : SubP M M1) (h12 : SubP M1 M2) (hI : Inc I I1) (hs : Region.noSelect l.toArray = true) (hok : mG l.toArray p ms listed = some listed') (hf : fuel' = fuel + p.length) (hsz : listed.size = l.toArray.size) (hk : Nat.ble (k + (pick l p).length) K = true)
  (h : RD P n l (Go.Fx.Rest P l Q (CsT K X w0 M1 M2 I1) fuel k1 listed') (.any (Cst X w0 M1 I1) k ms) (pick l p) G X w0 M I) : ND n (Go.Fx.Rest P l Q (CsT K X w0 M1 M2 I1) fuel' k listed) .normal G X w0 M I := by
 subst hc
 exact ⟨fun w hw => uV p ms CsT.up hs hok hf hsz (CsT.of h12 (hw.weak hM hI)) ⟨fun a ha => nM _ _ _ _ _ (fun s w' h0 => by rw [aLT hp] at h0; cases h0) (fun s w' h1 h2 hm => CsT.of h12 hm) ((h.go w hw).go a ha)⟩⟩
theorem aFD {fuel k : Nat} {listed : Array Bool} (p ms : List Nat) (hk : Nat.ble K k = true) (hM : SubP M M1) (hM2 : SubP M M2) (hI : Inc I I1) (hs : Region.noSelect l.toArray = true) (hok : iG l.toArray p ms listed = true) (hf : fuel = p.length) (hsz : listed.size = l.toArray.size)
  (h : RD P n l Q (.any (Cst X w0 M2 I1) k ms) (pick l p) G X w0 M I) : ND n (Go.Fx.Rest P l Q (CsT K X w0 M1 M2 I1) fuel k listed) .normal G X w0 M I :=
 ⟨fun w hw => aDX p ms CsT.up hs hok hf hsz ⟨hw.weak hM2 hI, fun _ => hw.weak hM hI⟩ ⟨fun a ha => nM _ _ _ _ _ (fun s w' _ _ hc => hc.1) (fun s w' h1 h2 hm => ⟨hm, fun hs => by have := Nat.le_of_ble_eq_true hk; omega⟩) ((h.go w hw).go a ha)⟩⟩
theorem aVI {k i k1 : Nat} {R' : Exit → Act → World → Prop} (he : (pick l [i]).all (fun o => !eY o.op) = true) (h12 : SubP M1 M2) {w : World} (h : R P n l R' (.any (Cst X w0 M1 I1) k []) (pick l [i]) G w) : R P n l R' (.any (CsT K X w0 M1 M2 I1) k []) (pick l [i]) G w :=
 ⟨fun a ha => nM _ _ _ _ _ (fun s w' h0 => by rw [aLT he] at h0; cases h0) (fun s w' h1 h2 hm => CsT.of h12 hm) (h.go a ha)⟩
theorem aGU {fuel k k1 i j : Nat} {listed : Array Bool} (hk : k + 1 = k1) (hK : Nat.ble k1 K = true) (h12 : SubP M1 M2) (he : ((pick l [i]).all (fun o => !eY o.op) && (pick l [j]).all (fun o => !eY o.op)) = true) (hr : (Region.ready .any l.toArray listed == [i, j] && aGC l.toArray i && aGC l.toArray j) = true)
  (h1 : RD P n l (Go.Fx.Rest P l Q (CsT K X w0 M1 M2 I1) fuel k1 (listed.setIfInBounds i true)) (.any (Cst X w0 M1 I1) k []) (pick l [i]) G X w0 M I)
  (h2 : RD P n l (Go.Fx.Rest P l Q (CsT K X w0 M1 M2 I1) fuel k1 (listed.setIfInBounds j true)) (.any (Cst X w0 M1 I1) k []) (pick l [j]) G X w0 M I) : ND n (Go.Fx.Rest P l Q (CsT K X w0 M1 M2 I1) (fuel + 1) k listed) .normal G X w0 M I := by
 subst hk
 simp only [Bool.and_eq_true] at he
 exact ⟨fun w hw => aBV hr (aVI (k1 := k) he.1 h12 (h1.go w hw)) (aVI (k1 := k) he.2 h12 (h2.go w hw))⟩
end
section
variable {P : Program} {n : Nat} {Q Q' : Exit → Act → World → Prop} {G : Env} {X : List Nat} {w0 : World} {M : List Ent} {I : List aZ}
/- a cut from within a block -/
end
end Go.Proofs.YtkccjglmnhgabaaGreat
