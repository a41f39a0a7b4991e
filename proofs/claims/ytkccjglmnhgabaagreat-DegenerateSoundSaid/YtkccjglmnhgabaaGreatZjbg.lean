/- Controlled observations, plain: Fredholm's alternative, rows left out, the rank of the transposed matrix, weights, certificates. Spans, plain: rows that are added one by one, reduced by the rows before; the number of pivots is the rank. Ranks, plain: minors, kernels with independent vectors, rows left out, products. -/
import Derived.Test.YtkccjglmnhgabaaGreatZjbc
import Derived.Test.YtkccjglmnhgabaaGreatZjbf
set_option linter.unusedSimpArgs false
set_option linter.unusedVariables false
set_option maxRecDepth 100000
set_option maxHeartbeats 4000000
namespace Go.Proofs.YtkccjglmnhgabaaGreat
open Go Go.Fx
def unL (n i : Nat) : List Rat := (List.range n).map (pE i)
def rw1 (A : Mt) (C i : Nat) (z : Nat → Rat) : Rat := sm C (fun j => at2 A i j * z j)
def ctl (R C : Nat) (A : Mt) (i : Nat) : Prop := ¬ solP R C A (unL R i)
instance (R C : Nat) (A : Mt) (i : Nat) : Decidable (ctl R C A i) := by unfold ctl; exact inferInstance
/- rows left out -/
def mG (A : Mt) (ix : List Nat) : Mt := ix.map (rowAt A)
theorem aHV {A : Mt} {ix : List Nat} {t j : Nat} (ht : t < ix.length) : at2 (mG A ix) t j = at2 A ix[t] j := by
 simp [mG, at2, rowAt, List.getD, ht]
theorem pX {A : Mt} {R C : Nat} (hA : iD A R C) {ix : List Nat} (hx : ∀ i ∈ ix, i < R) : iD (mG A ix) ix.length C := ⟨by simp [mG], fun t ht => by
 have : rowAt (mG A ix) t = rowAt A ix[t] := by simp [mG, rowAt, List.getD, ht]
 rw [this]; exact hA.2 _ (hx _ (List.getElem_mem _))⟩
theorem nC {A : Mt} {C : Nat} {ix : List Nat} {z : Nat → Rat} : Go.Proofs.YtkccjglmnhgabaaGreat.ker ix.length C (at2 (mG A ix)) z ↔ ∀ i ∈ ix, rw1 A C i z = 0 := by
 constructor
 ·intro h i hi
  obtain ⟨t, ht, rfl⟩ := List.mem_iff_getElem.1 hi
  rw [← h t ht]; exact bE (fun j _ => by rw [aHV ht])
 ·intro h t ht
  rw [← h ix[t] (List.getElem_mem _)]; exact bE (fun j _ => by rw [aHV ht])
theorem aWE {A : Mt} {R C : Nat} (hA : iD A R C) {ix : List Nat} (hx : ∀ i ∈ ix, i < R) : rk (mG A ix) C ≤ rk A C ∧ (rk (mG A ix) C = rk A C ↔ ∀ z, (∀ i ∈ ix, rw1 A C i z = 0) → ∀ i, i < R → rw1 A C i z = 0) := by
 obtain ⟨_, s, hr⟩ := iI hA C (Nat.le_refl _)
 obtain ⟨_, s', hr'⟩ := iI (pX hA hx) C (Nat.le_refl _)
 have hk : ∀ z, Go.Proofs.YtkccjglmnhgabaaGreat.ker R C (at2 A) z → Go.Proofs.YtkccjglmnhgabaaGreat.ker ix.length C (at2 (mG A ix)) z := fun z hz => nC.2 (fun i hi => hz i (hx i hi))
 refine ⟨hr'.le hr hk, ?_⟩
 unfold rk
 rw [hr'.eq_iff hr hk]
 exact ⟨fun h z hz i hi => h z (nC.2 hz) i hi, fun h z hz i hi => h z (nC.1 hz) i hi⟩
def restI (R : Nat) (set : List Int) : List Nat := (List.range R).filter (fun i => decide ((i : Int) ∉ set))
def und (R C : Nat) (A : Mt) (set : List Int) : Prop := rk (mG A (restI R set)) C < rk A C
instance (R C : Nat) (A : Mt) (set : List Int) : Decidable (und R C A set) := by unfold und; exact inferInstance
/- the transposed matrix -/
def trM (R C : Nat) (A : Mt) : Mt := wP C R (fun i j => at2 A j i)
theorem aJT {R C : Nat} {A : Mt} {i j : Nat} (hi : i < C) (hj : j < R) : at2 (trM R C A) i j = at2 A j i := yX hi hj
theorem aHH {R C : Nat} {A : Mt} (hA : iD A R C) : rk (trM R C A) R ≤ rk A C := by
 obtain ⟨_, s, hr⟩ := iI hA C (Nat.le_refl _)
 obtain ⟨_, s', hr'⟩ := iI (A := trM R C A) (R := C) (C := R) dimK R (Nat.le_refl _)
 unfold rk
 generalize iN A C = st at hr ⊢
 obtain ⟨E, pv⟩ := st
 simp only at hr ⊢
 have := hr'.count (m := pv.length) (k := 0) (fun t i => at2 A i (pv.getD t 0)) (fun _ _ => 0) (fun y hy j hj => by
  rw [bE (g := fun i => at2 A i j * y i) (fun i hi => by rw [aJT hj hi])]
  by_cases hp : j ∈ pv
  ·obtain ⟨t, ht, rfl⟩ := eP.1 hp
   exact hy t ht
  ·have hn := hr.null hj hp
   have h1 : sm R (fun i => y i * sm C (fun c => at2 A i c * nK (at2 E) pv j c)) = 0 := mD (fun i hi => by rw [hn i hi]; grind)
   rw [bE (g := fun i => sm C (fun c => nK (at2 E) pv j c * (at2 A i c * y i))) (fun i hi => by rw [← lF]; exact bE (fun c _ => by grind)), tK,
    bE (g := fun c => nK (at2 E) pv j c * sm R (fun i => at2 A i c * y i)) (fun c _ => lF),
    mH (p := j) hj (fun c hc hne => by
     by_cases hcp : c ∈ pv
     ·obtain ⟨t, ht, rfl⟩ := eP.1 hcp
      have := hy t ht
      rw [this]; grind
     ·simp only [nK, if_neg hcp, if_neg hne]; grind)] at h1
   simp only [nK, if_neg hp, if_true] at h1
   grind) (fun i hi => by omega) (fun d _ i hi => by omega)
 omega
theorem aUH {R C : Nat} {A : Mt} (hA : iD A R C) : trM C R (trM R C A) = A := by
 rw [aHK hA]
 unfold trM
 exact aDY (fun i j hi hj => by rw [yX hj hi, yX hi hj])
theorem rk_tr {R C : Nat} {A : Mt} (hA : iD A R C) : rk (trM R C A) R = rk A C := by
 refine Nat.le_antisymm (aHH hA) ?_
 have := aHH (R := C) (C := R) (A := trM R C A) dimK
 rwa [aUH hA] at this
theorem sH {R C : Nat} {A : Mt} (hA : iD A R C) : (pG A C).length + rk A C = C := by
 obtain ⟨_, s, hr⟩ := iI hA C (Nat.le_refl _)
 have := hr.free_len
 unfold pG aIU rk
 rw [List.length_map]; exact this
/- certificates -/
/- weights: the normal matrix has the kernel of the design matrix -/
def nrmM (R C : Nat) (A : Mt) (p : Nat → Rat) : Mt := wP C C (fun i j => sm R (fun k => p k * at2 A k i * at2 A k j))
/- the document's inverse: the pivots of the matrix with the unit matrix beside -/
end Go.Proofs.YtkccjglmnhgabaaGreat
namespace Go.Proofs.YtkccjglmnhgabaaGreat
open Go Go.Fx
abbrev Sp := List (Nat × List Rat)
def aPH (κ : Rat) (s l : List Rat) : List Rat := l.mapIdx (fun c x => x - κ * s.getD c 0)
def rdS (p : Nat × List Rat) (l : List Rat) : List Rat := aPH (l.getD p.1 0) p.2 l
def uA (sp : Sp) (l : List Rat) : List Rat := sp.foldl (fun l p => rdS p l) l
def nH (l : List Rat) : Nat := l.findIdx (fun x => decide (x ≠ 0))
def dvd (l : List Rat) (κ : Rat) : List Rat := l.map (fun x => x / κ)
def adS (sp : Sp) (l : List Rat) : Bool × Sp :=
 if nH (uA sp l) < l.length then (true, sp ++ [(nH (uA sp l), dvd (uA sp l) ((uA sp l).getD (nH (uA sp l)) 0))]) else (false, sp)
def jR (A : Mt) (q : Nat → Bool) : Nat → Sp × List Nat
 | 0 => ([], [])
 | k + 1 => if q k then ((adS (jR A q k).1 (rowAt A k)).2, if (adS (jR A q k).1 (rowAt A k)).1 then (jR A q k).2 ++ [k] else (jR A q k).2) else jR A q k
def spR (sp : Sp) (t : Nat) : List Rat := (sp.getD t (0, [])).2
def spP (sp : Sp) (t : Nat) : Nat := (sp.getD t (0, [])).1
structure SpI (C : Nat) (sp : Sp) : Prop where
 len : ∀ t, t < sp.length → (spR sp t).length = C
 piv : ∀ t, t < sp.length → spP sp t < C
 one : ∀ t, t < sp.length → (spR sp t).getD (spP sp t) 0 = 1
 low : ∀ t u, u < t → t < sp.length → (spR sp t).getD (spP sp u) 0 = 0
def uK (C : Nat) (l : List Rat) (z : Nat → Rat) : Rat := sm C (fun j => l.getD j 0 * z j)
theorem aCR {κ : Rat} {s l : List Rat} : (aPH κ s l).length = l.length := by simp [aPH]
theorem xE {κ : Rat} {s l : List Rat} {c : Nat} (h : c < l.length) : (aPH κ s l).getD c 0 = l.getD c 0 - κ * s.getD c 0 := by
 unfold aPH; rw [qV h]
theorem aAV {p : Nat × List Rat} {l : List Rat} : (rdS p l).length = l.length := aCR
theorem xH {sp : Sp} : ∀ {l : List Rat}, (uA sp l).length = l.length := by
 induction sp with
 | nil => intro l; rfl
 | cons p r ih => intro l; show (uA r (rdS p l)).length = _; rw [ih, aAV]
theorem aLG {l : List Rat} {κ : Rat} : (dvd l κ).length = l.length := by simp [dvd]
theorem aFJ {l : List Rat} {κ : Rat} {c : Nat} : (dvd l κ).getD c 0 = l.getD c 0 / κ := by
 unfold dvd
 by_cases h : c < l.length
 ·simp [List.getD, h]
 ·have : l[c]? = none := by simp; omega
  simp [List.getD, this]
  grind
theorem aUK {l : List Rat} : nH l ≤ l.length := List.findIdx_le_length
theorem wZ {l : List Rat} (h : nH l < l.length) : l.getD (nH l) 0 ≠ 0 := by
 have := List.findIdx_getElem (xs := l) (p := fun x => decide (x ≠ 0)) (w := h)
 have e : l.getD (nH l) 0 = l[nH l] := by simp [List.getD, h]
 rw [e]
 exact of_decide_eq_true this
theorem aPV {l : List Rat} (h : ¬ nH l < l.length) : ∀ c, l.getD c 0 = 0 := fun c => by
 by_cases hc : c < l.length
 ·have := List.findIdx_eq_length.1 (show List.findIdx (fun x => decide (x ≠ 0)) l = l.length from Nat.le_antisymm aUK (by unfold nH at h; omega)) l[c] (List.getElem_mem hc)
  have e : l.getD c 0 = l[c] := by simp [List.getD, hc]
  rw [e]
  simpa using this
 ·have : l[c]? = none := by simp; omega
  simp [List.getD, this]
theorem aVV {C : Nat} {p : Nat × List Rat} {l : List Rat} {z : Nat → Rat} (hl : l.length = C) : uK C (rdS p l) z = uK C l z - l.getD p.1 0 * uK C p.2 z := by
 unfold uK rdS
 rw [bE (g := fun j => 1 * (l.getD j 0 * z j) + (- l.getD p.1 0) * (p.2.getD j 0 * z j)) (fun j hj => by rw [xE (by omega)]; grind), yV]
 grind
theorem aAR {C : Nat} {z : Nat → Rat} : ∀ {sp : Sp} {l : List Rat}, l.length = C → (∀ p ∈ sp, uK C p.2 z = 0) → uK C (uA sp l) z = uK C l z
 | [], l, _, _ => rfl
 | p :: r, l, hl, h => by
  show uK C (uA r (rdS p l)) z = _
  rw [aAR (by rw [aAV]; exact hl) (fun x hx => h x (List.mem_cons_of_mem _ hx)), aVV hl, h p List.mem_cons_self]
  grind
theorem aFL {sp : Sp} {p : Nat × List Rat} {t : Nat} : spR (sp ++ [p]) t = if t < sp.length then spR sp t else if t = sp.length then p.2 else [] := by
 unfold spR
 by_cases h : t < sp.length
 ·rw [if_pos h]; simp [List.getD, List.getElem?_append_left h]
 ·rw [if_neg h]
  by_cases e : t = sp.length
  ·rw [if_pos e]; subst e; simp [List.getD]
  ·rw [if_neg e]
   have : (sp ++ [p])[t]? = none := by simp; omega
   simp [List.getD, this]
theorem aFN {sp : Sp} {p : Nat × List Rat} {t : Nat} : spP (sp ++ [p]) t = if t < sp.length then spP sp t else if t = sp.length then p.1 else 0 := by
 unfold spP
 by_cases h : t < sp.length
 ·rw [if_pos h]; simp [List.getD, List.getElem?_append_left h]
 ·rw [if_neg h]
  by_cases e : t = sp.length
  ·rw [if_pos e]; subst e; simp [List.getD]
  ·rw [if_neg e]
   have : (sp ++ [p])[t]? = none := by simp; omega
   simp [List.getD, this]
theorem aMJ {C : Nat} : ∀ {sp : Sp} {l : List Rat}, l.length = C → SpI C sp → (∀ t, t < sp.length → (uA sp l).getD (spP sp t) 0 = 0) ∧ (∀ c, c < C → l.getD c 0 = 0 → (∀ t, t < sp.length → (spR sp t).getD c 0 = 0) → (uA sp l).getD c 0 = 0)
 | [], l, _, _ => ⟨fun t ht => by simp at ht, fun c _ h0 _ => h0⟩
 | p :: r, l, hl, h => by
  have hr : SpI C r := ⟨fun t ht => h.len (t + 1) (by simpa using ht), fun t ht => h.piv (t + 1) (by simpa using ht), fun t ht => h.one (t + 1) (by simpa using ht), fun t u hu ht => h.low (t + 1) (u + 1) (by omega) (by simpa using ht)⟩
  obtain ⟨h1, h2⟩ := aMJ (sp := r) (l := rdS p l) (by rw [aAV]; exact hl) hr
  have hp : p.1 < C := h.piv 0 (by simp)
  refine ⟨fun t ht => ?_, fun c hc h0 hz => ?_⟩
  ·cases t with
   | zero =>
    refine h2 p.1 hp ?_ (fun t ht => h.low (t + 1) 0 (by omega) (by simpa using ht))
    unfold rdS
    rw [xE (by omega), show p.2.getD p.1 0 = 1 from h.one 0 (by simp)]
    grind
   | succ t => exact h1 t (by simpa using ht)
  ·refine h2 c hc ?_ (fun t ht => hz (t + 1) (by simpa using ht))
   unfold rdS
   rw [xE (by omega), h0, show p.2.getD c 0 = 0 from hz 0 (by simp)]
   grind
def zD (C : Nat) (sp : Sp) (z : Nat → Rat) : Prop := ∀ p ∈ sp, uK C p.2 z = 0
theorem yA {sp : Sp} {l : List Rat} (h : nH (uA sp l) < l.length) : adS sp l = (true, sp ++ [(nH (uA sp l), dvd (uA sp l) ((uA sp l).getD (nH (uA sp l)) 0))]) := by unfold adS; rw [if_pos h]
theorem zT {sp : Sp} {l : List Rat} (h : ¬ nH (uA sp l) < l.length) : adS sp l = (false, sp) := by unfold adS; rw [if_neg h]
theorem aLL {C : Nat} {sp : Sp} {l : List Rat} (hl : l.length = C) (h : SpI C sp) : SpI C (adS sp l).2 := by
 by_cases hp : nH (uA sp l) < l.length
 ·rw [yA hp]
  show SpI C (sp ++ [_])
  have hn := wZ (l := uA sp l) (by rw [xH]; exact hp)
  have hz := (aMJ hl h).1
  refine ⟨fun t ht => ?_, fun t ht => ?_, fun t ht => ?_, fun t u hu ht => ?_⟩
  all_goals rw [List.length_append, List.length_singleton] at ht
  ·rw [aFL]
   by_cases e : t < sp.length
   ·rw [if_pos e]; exact h.len t e
   ·rw [if_neg e, if_pos (by omega)]; show (dvd _ _).length = C; rw [aLG, xH, hl]
  ·rw [aFN]
   by_cases e : t < sp.length
   ·rw [if_pos e]; exact h.piv t e
   ·rw [if_neg e, if_pos (by omega)]; omega
  ·rw [aFL, aFN]
   by_cases e : t < sp.length
   ·rw [if_pos e, if_pos e]; exact h.one t e
   ·rw [if_neg e, if_pos (by omega), if_neg e, if_pos (by omega)]; show (dvd _ _).getD _ 0 = 1; rw [aFJ]; grind
  ·rw [aFL, aFN]
   by_cases e : t < sp.length
   ·rw [if_pos e, if_pos (by omega)]; exact h.low t u hu e
   ·rw [if_neg e, if_pos (by omega), if_pos (by omega)]; show (dvd _ _).getD _ 0 = 0; rw [aFJ, hz u (by omega)]; grind
 ·rw [zT hp]; exact h
theorem aRE {C : Nat} {sp : Sp} {p : Nat × List Rat} {z : Nat → Rat} : zD C (sp ++ [p]) z ↔ zD C sp z ∧ uK C p.2 z = 0 := by
 unfold zD
 constructor
 ·intro h; exact ⟨fun q hq => h q (List.mem_append_left _ hq), h p (by simp)⟩
 ·rintro ⟨h1, h2⟩ q hq
  rcases List.mem_append.1 hq with hq | hq
  ·exact h1 q hq
  ·rw [List.mem_singleton.1 hq]; exact h2
theorem aLC {C : Nat} {l : List Rat} {κ : Rat} {z : Nat → Rat} : uK C (dvd l κ) z = 1 / κ * uK C l z := by
 unfold uK
 rw [← lF]
 exact bE (fun j _ => by rw [aFJ]; grind)
theorem aFS {C : Nat} {sp : Sp} {l : List Rat} {z : Nat → Rat} (hl : l.length = C) : zD C (adS sp l).2 z ↔ zD C sp z ∧ uK C l z = 0 := by
 by_cases hp : nH (uA sp l) < l.length
 ·rw [yA hp]
  show zD C (sp ++ [_]) z ↔ _
  rw [aRE]
  have hn := wZ (l := uA sp l) (by rw [xH]; exact hp)
  constructor
  ·rintro ⟨h1, h2⟩
   refine ⟨h1, ?_⟩
   have h3 : uK C (dvd (uA sp l) ((uA sp l).getD (nH (uA sp l)) 0)) z = 0 := h2
   rw [aLC, aAR hl h1] at h3
   rcases Rat.mul_eq_zero.1 h3 with e | e
   ·exact absurd e (by grind)
   ·exact e
  ·rintro ⟨h1, h2⟩
   refine ⟨h1, ?_⟩
   show uK C (dvd _ _) z = 0
   rw [aLC, aAR hl h1, h2]; grind
 ·rw [zT hp]
  constructor
  ·intro h1
   refine ⟨h1, ?_⟩
   have h1' : zD C sp z := h1
   rw [← aAR hl h1']
   have := aPV (l := uA sp l) (by rw [xH]; exact hp)
   exact mD (fun j _ => by rw [this]; grind)
  ·exact fun h1 => h1.1
theorem aMX {sp : Sp} {l : List Rat} : (adS sp l).2.length = if (adS sp l).1 then sp.length + 1 else sp.length := by
 by_cases hp : nH (uA sp l) < l.length
 ·rw [yA hp]; simp
 ·rw [zT hp]; simp
section
variable {A : Mt} {q : Nat → Bool} {R C : Nat}
theorem xQ {k : Nat} (h : q k = true) : jR A q (k + 1) = ((adS (jR A q k).1 (rowAt A k)).2, if (adS (jR A q k).1 (rowAt A k)).1 then (jR A q k).2 ++ [k] else (jR A q k).2) := by show ite _ _ _ = _; rw [if_pos h]
theorem aFH {k : Nat} (h : q k = false) : jR A q (k + 1) = jR A q k := by show ite _ _ _ = _; rw [if_neg (by rw [h]; decide)]
theorem nR (hA : iD A R C) : ∀ {k : Nat}, k ≤ R → SpI C (jR A q k).1
 | 0, _ => ⟨fun t ht => by simp [jR] at ht, fun t ht => by simp [jR] at ht, fun t ht => by simp [jR] at ht, fun t u _ ht => by simp [jR] at ht⟩
 | k + 1, hk => by
  have ih := nR hA (k := k) (by omega)
  cases e : q k with
  | true => rw [xQ e]; exact aLL (hA.2 k (by omega)) ih
  | false => rw [aFH e]; exact ih
theorem aAN (hA : iD A R C) {z : Nat → Rat} : ∀ {k : Nat}, k ≤ R → (zD C (jR A q k).1 z ↔ ∀ i, i < k → q i = true → rw1 A C i z = 0)
 | 0, _ => ⟨fun _ i hi => by omega, fun _ p hp => by simp [jR] at hp⟩
 | k + 1, hk => by
  have ih := aAN hA (z := z) (k := k) (by omega)
  have hr : rw1 A C k z = uK C (rowAt A k) z := rfl
  cases e : q k with
  | true =>
   rw [xQ e]
   show zD C (adS _ _).2 z ↔ _
   rw [aFS (hA.2 k (by omega)), ih]
   constructor
   ·rintro ⟨h1, h2⟩ i hi hq
    by_cases ei : i = k
    ·subst ei; rw [hr]; exact h2
    ·exact h1 i (by omega) hq
   ·intro h; exact ⟨fun i hi hq => h i (by omega) hq, by rw [← hr]; exact h k (by omega) e⟩
  | false =>
   rw [aFH e, ih]
   constructor
   ·intro h i hi hq
    by_cases ei : i = k
    ·subst ei; rw [e] at hq; exact absurd hq (by decide)
    ·exact h i (by omega) hq
   ·intro h i hi hq; exact h i (by omega) hq
theorem aAS (hA : iD A R C) : ∀ {k : Nat}, k ≤ R → (jR A q k).2.length = (jR A q k).1.length ∧ (∀ i ∈ (jR A q k).2, i < k ∧ q i = true) ∧ (jR A q k).2.Pairwise (· < ·) ∧ ∀ z, zD C (jR A q k).1 z ↔ ∀ i ∈ (jR A q k).2, rw1 A C i z = 0
 | 0, _ => ⟨rfl, fun i hi => by simp [jR] at hi, List.Pairwise.nil, fun z => ⟨fun _ i hi => by simp [jR] at hi, fun _ p hp => by simp [jR] at hp⟩⟩
 | k + 1, hk => by
  obtain ⟨h1, h2, h3, h4⟩ := aAS hA (k := k) (by omega)
  cases e : q k with
  | false =>
   rw [aFH e]
   exact ⟨h1, fun i hi => ⟨by have := (h2 i hi).1; omega, (h2 i hi).2⟩, h3, h4⟩
  | true =>
   rw [xQ e]
   cases ea : (adS (jR A q k).1 (rowAt A k)).1 with
   | true =>
    have hl : nH (uA (jR A q k).1 (rowAt A k)) < (rowAt A k).length := by
     refine Classical.byContradiction (fun hn => ?_)
     rw [zT hn] at ea; exact Bool.noConfusion ea
    simp only [if_true]
    refine ⟨?_, ?_, ?_, ?_⟩
    ·rw [aMX, ea, if_pos rfl]; simp [h1]
    ·intro i hi
     rcases List.mem_append.1 hi with hi | hi
     ·exact ⟨by have := (h2 i hi).1; omega, (h2 i hi).2⟩
     ·rw [List.mem_singleton.1 hi]; exact ⟨by omega, e⟩
    ·refine List.pairwise_append.2 ⟨h3, List.pairwise_singleton _ _, fun a ha b hb => ?_⟩
     rw [List.mem_singleton.1 hb]; exact (h2 a ha).1
    ·intro z
     rw [aFS (hA.2 k (by omega)), h4 z]
     constructor
     ·rintro ⟨a, b⟩ i hi
      rcases List.mem_append.1 hi with hi | hi
      ·exact a i hi
      ·rw [List.mem_singleton.1 hi]; exact b
     ·intro h; exact ⟨fun i hi => h i (List.mem_append_left _ hi), h k (by simp)⟩
   | false =>
    have hn : ¬ nH (uA (jR A q k).1 (rowAt A k)) < (rowAt A k).length := fun hp => by rw [yA hp] at ea; exact Bool.noConfusion ea
    simp only [Bool.false_eq_true, if_false]
    rw [zT hn]
    exact ⟨h1, fun i hi => ⟨by have := (h2 i hi).1; omega, (h2 i hi).2⟩, h3, h4⟩
end
/- rows that are independent: the rank is their number -/
def indR (K : Mt) (k C : Nat) : Prop := ∀ d : Nat → Rat, (∀ j, j < C → sm k (fun i => d i * at2 K i j) = 0) → ∀ i, i < k → d i = 0
theorem aJD {R n : Nat} {f0 f : Nat → Nat → Rat} {pv : List Nat} {s : Rat} (h : Red R n n f0 f pv s) : pv.length = n ↔ ∀ z, Go.Proofs.YtkccjglmnhgabaaGreat.ker R n f0 z → ∀ i, i < n → z i = 0 := by
 have hf := h.free_len
 constructor
 ·intro e z hz c hc
  have h0 : jS pv n = [] := List.length_eq_zero_iff.1 (by omega)
  have hall : ∀ j, j < n → j ∈ pv := fun j hj => Classical.byContradiction (fun hn => by
   have := yK.2 ⟨hj, hn⟩
   rw [h0] at this; simp at this)
  rw [h.span hz hc]
  exact mD (fun j hj => by simp only [uI, if_pos (hall j hj)]; grind)
 ·intro hz
  refine Classical.byContradiction (fun hne => ?_)
  obtain ⟨j, hj⟩ : ∃ j, j ∈ jS pv n := by
   cases hh : jS pv n with
   | nil => rw [hh] at hf; simp at hf; omega
   | cons a r => exact ⟨a, by simp⟩
  obtain ⟨h1, h2⟩ := yK.1 hj
  have := hz _ (h.null h1 h2) j h1
  simp only [nK, if_neg h2, if_true] at this
  exact absurd this (by decide)
theorem aBS {K : Mt} {k C : Nat} (hK : iD K k C) : rk K C = k ↔ indR K k C := by
 rw [← rk_tr hK]
 obtain ⟨_, s, hr⟩ := iI (A := trM k C K) (R := C) (C := k) dimK k (Nat.le_refl _)
 unfold rk
 rw [aJD hr]
 unfold indR
 have e : ∀ d : Nat → Rat, Go.Proofs.YtkccjglmnhgabaaGreat.ker C k (at2 (trM k C K)) d ↔ ∀ j, j < C → sm k (fun i => d i * at2 K i j) = 0 := fun d => by
  constructor
  ·intro h j hj
   rw [← h j hj]
   exact bE (fun i hi => by rw [aJT hj hi]; grind)
  ·intro h j hj
   rw [← h j hj]
   exact bE (fun i hi => by rw [aJT hj hi]; grind)
 exact ⟨fun h d hd => h d ((e d).2 hd), fun h d hd => h d ((e d).1 hd)⟩
theorem wN {A : Mt} {R C : Nat} (hA : iD A R C) : rk A C ≤ R := by
 obtain ⟨_, s, hr⟩ := iI hA C (Nat.le_refl _)
 exact hr.len
theorem uF {A B : Mt} {R R' C : Nat} (hA : iD A R C) (hB : iD B R' C) (h : ∀ z, Go.Proofs.YtkccjglmnhgabaaGreat.ker R C (at2 A) z → Go.Proofs.YtkccjglmnhgabaaGreat.ker R' C (at2 B) z) : rk B C ≤ rk A C := by
 obtain ⟨_, s, hr⟩ := iI hA C (Nat.le_refl _)
 obtain ⟨_, s', hr'⟩ := iI hB C (Nat.le_refl _)
 exact hr'.le hr h
def mtS (sp : Sp) : Mt := sp.map (·.2)
theorem wJ {sp : Sp} {t : Nat} (h : t < sp.length) : rowAt (mtS sp) t = spR sp t := by simp [mtS, rowAt, spR, List.getD, h]
theorem tO {C : Nat} {sp : Sp} (h : SpI C sp) : iD (mtS sp) sp.length C := ⟨by simp [mtS], fun t ht => by rw [wJ ht]; exact h.len t ht⟩
theorem aAU {C : Nat} {sp : Sp} {z : Nat → Rat} : Go.Proofs.YtkccjglmnhgabaaGreat.ker sp.length C (at2 (mtS sp)) z ↔ zD C sp z := by
 constructor
 ·intro h p hp
  obtain ⟨t, ht, rfl⟩ := List.mem_iff_getElem.1 hp
  rw [← h t ht]
  exact bE (fun j _ => by unfold at2; rw [wJ ht]; simp [spR, List.getD, ht])
 ·intro h t ht
  rw [← h sp[t] (List.getElem_mem _)]
  exact bE (fun j _ => by unfold at2; rw [wJ ht]; simp [spR, List.getD, ht])
theorem aQK {m : Nat} {d : Nat → Rat} {g : Nat → Nat → Rat} (h1 : ∀ t, t < m → g t t = 1) (h0 : ∀ t u, u < t → t < m → g t u = 0) (hz : ∀ u, u < m → sm m (fun t => d t * g t u) = 0) : ∀ u, u < m → d u = 0 := by
 intro u
 induction u using Nat.strongRecOn with
 | _ u ih =>
  intro hu
  have := hz u hu
  rw [mH (p := u) hu (fun t ht hne => by
   by_cases e : t < u
   ·rw [ih t e ht]; grind
   ·rw [h0 t u (by omega) ht]; grind), h1 u hu] at this
  grind
theorem aFK {C : Nat} {sp : Sp} (h : SpI C sp) : rk (mtS sp) C = sp.length := by
 rw [aBS (tO h)]
 intro d hd
 refine aQK (g := fun t u => at2 (mtS sp) t (spP sp u)) (fun t ht => ?_) (fun t u hu ht => ?_) (fun u hu => hd _ (h.piv u hu))
 ·unfold at2; rw [wJ ht]; exact h.one t ht
 ·unfold at2; rw [wJ ht]; exact h.low t u hu ht
theorem aFM {A : Mt} {q : Nat → Bool} {R C n : Nat} (hA : iD A R C) (hn : n ≤ R) : (jR A q n).1.length = rk (mG A ((List.range n).filter q)) C := by
 have hi := nR (q := q) hA hn
 have hd : iD (mG A ((List.range n).filter q)) ((List.range n).filter q).length C := pX hA (fun i hi => by
  have := List.mem_range.1 (List.mem_filter.1 hi).1; omega)
 have hk : ∀ z, Go.Proofs.YtkccjglmnhgabaaGreat.ker (jR A q n).1.length C (at2 (mtS (jR A q n).1)) z ↔ Go.Proofs.YtkccjglmnhgabaaGreat.ker ((List.range n).filter q).length C (at2 (mG A ((List.range n).filter q))) z := fun z => by
  rw [aAU, nC, aAN hA hn]
  exact ⟨fun h i hi => h i (List.mem_range.1 (List.mem_filter.1 hi).1) (List.mem_filter.1 hi).2, fun h i h1 h2 => h i (List.mem_filter.2 ⟨List.mem_range.2 h1, h2⟩)⟩
 rw [← aFK hi]
 exact Nat.le_antisymm (uF hd (tO hi) (fun z => (hk z).2)) (uF (tO hi) hd (fun z => (hk z).1))
theorem sP {A : Mt} {R C : Nat} (hA : iD A R C) : (jR A (fun _ => true) R).1.length = rk A C := by
 have hi := nR (q := fun _ => true) hA (Nat.le_refl _)
 have hk : ∀ z, Go.Proofs.YtkccjglmnhgabaaGreat.ker (jR A (fun _ => true) R).1.length C (at2 (mtS (jR A (fun _ => true) R).1)) z ↔ Go.Proofs.YtkccjglmnhgabaaGreat.ker R C (at2 A) z := fun z => by
  rw [aAU, aAN hA (Nat.le_refl _)]
  exact ⟨fun h i hi => h i hi rfl, fun h i hi _ => h i hi⟩
 rw [← aFK hi]
 exact Nat.le_antisymm (uF hA (tO hi) (fun z => (hk z).2)) (uF (tO hi) hA (fun z => (hk z).1))
end Go.Proofs.YtkccjglmnhgabaaGreat
namespace Go.Proofs.YtkccjglmnhgabaaGreat
open Go Go.Fx
def mnr (A : Mt) (ix jx : List Nat) : Mt := ix.map (fun i => jx.map (fun j => at2 A i j))
theorem aQW {A : Mt} {ix jx : List Nat} {a b : Nat} (ha : a < ix.length) (hb : b < jx.length) : at2 (mnr A ix jx) a b = at2 A (ix.getD a 0) (jx.getD b 0) := by
 simp [mnr, at2, rowAt, List.getD, ha, hb]
theorem aND {A : Mt} {ix jx : List Nat} : iD (mnr A ix jx) ix.length jx.length := ⟨by simp [mnr], fun a ha => by simp [mnr, rowAt, List.getD, ha]⟩
theorem aCO {pv : List Nat} (h : pv.Nodup) {a b : Nat} (ha : a < pv.length) (hb : b < pv.length) (e : pv.getD a 0 = pv.getD b 0) : a = b := by
 rw [iY ha, iY hb] at e
 exact (List.getElem_inj h).1 e
theorem aLF {C : Nat} {pv : List Nat} (hn : pv.Nodup) (hp : ∀ j ∈ pv, j < C) {f : Nat → Rat} (h0 : ∀ j, j < C → j ∉ pv → f j = 0) : sm C f = sm pv.length (fun u => f (pv.getD u 0)) := by
 have e : ∀ j, j < C → f j = sm pv.length (fun u => f (pv.getD u 0) * pE (pv.getD u 0) j) := fun j hj => by
  by_cases hm : j ∈ pv
  ·obtain ⟨t, ht, rfl⟩ := eP.1 hm
   rw [mH (p := t) ht (fun u hu hne => by
    have : ¬ pv.getD u 0 = pv.getD t 0 := fun e => hne (aCO hn hu ht e)
    simp only [pE, if_neg this]; grind)]
   simp only [pE, if_true]; grind
  ·rw [h0 j hj hm, mD (fun u hu => by
    have : ¬ pv.getD u 0 = j := fun e => hm (e ▸ eP.2 ⟨u, hu, rfl⟩)
    simp only [pE, if_neg this]; grind)]
 rw [bE e, tK]
 refine bE (fun u hu => ?_)
 have hlt : pv.getD u 0 < C := hp _ (eP.2 ⟨u, hu, rfl⟩)
 rw [mH (p := pv.getD u 0) hlt (fun j hj hne => by simp only [pE, if_neg (Ne.symm hne)]; grind)]
 simp only [pE, if_true]; grind
def lft (jx : List Nat) (z : Nat → Rat) (j : Nat) : Rat := if j ∈ jx then z (jx.idxOf j) else 0
theorem aRU {jx : List Nat} (hn : jx.Nodup) {z : Nat → Rat} {b : Nat} (hb : b < jx.length) : lft jx z (jx.getD b 0) = z b := by
 have hm : jx.getD b 0 ∈ jx := eP.2 ⟨b, hb, rfl⟩
 have h1 := Red.idx_lt hm
 unfold lft
 rw [if_pos hm, aCO hn h1.1 hb h1.2]
theorem aVC {C : Nat} {jx : List Nat} (hn : jx.Nodup) (hp : ∀ j ∈ jx, j < C) {g z : Nat → Rat} : sm C (fun j => g j * lft jx z j) = sm jx.length (fun b => g (jx.getD b 0) * z b) := by
 rw [aLF hn hp (fun j hj hm => by unfold lft; rw [if_neg hm]; grind)]
 exact bE (fun b hb => by rw [aRU hn hb])
theorem aQT {m : Nat} {A : Mt} (hA : iD A m m) : dt m (at2 A) ≠ 0 ↔ ∀ z, Go.Proofs.YtkccjglmnhgabaaGreat.ker m m (at2 A) z → ∀ i, i < m → z i = 0 := by
 obtain ⟨_, s, hr⟩ := iI hA m (Nat.le_refl _)
 rw [← aJD hr]
 exact (hr.iff (Nat.le_refl _)).symm
def yM (sp : Sp) : List Nat := sp.map (·.1)
theorem yQ {sp : Sp} {t : Nat} (h : t < sp.length) : (yM sp).getD t 0 = spP sp t := by simp [yM, spP, List.getD, h]
theorem jY {sp : Sp} : (yM sp).length = sp.length := by simp [yM]
theorem yY {C : Nat} {sp : Sp} (h : SpI C sp) : (yM sp).Nodup := by
 refine List.pairwise_iff_getElem.2 (fun i j hi hj hij e => ?_)
 rw [jY] at hi hj
 have e1 : (yM sp)[i]'(by rw [jY]; exact hi) = spP sp i := by rw [← yQ hi, iY]
 have e2 : (yM sp)[j]'(by rw [jY]; exact hj) = spP sp j := by rw [← yQ hj, iY]
 rw [e1, e2] at e
 have h1 := h.low j i hij hj
 rw [e, h.one j hj] at h1
 exact absurd h1 (by decide)
theorem aFE {C : Nat} {sp : Sp} (h : SpI C sp) : ∀ j ∈ yM sp, j < C := fun j hj => by
 obtain ⟨t, ht, rfl⟩ := eP.1 hj
 rw [jY] at ht
 rw [yQ ht]; exact h.piv t ht
theorem aXM {m : Nat} {d : Nat → Rat} {g : Nat → Nat → Rat} (h1 : ∀ t, t < m → g t t = 1) (h0 : ∀ t u, u < t → t < m → g t u = 0) (hz : ∀ t, t < m → sm m (fun u => g t u * d u) = 0) : ∀ s t, t + s + 1 = m → d t = 0 := by
 intro s
 induction s using Nat.strongRecOn with
 | _ s ih =>
  intro t ht
  have := hz t (by omega)
  rw [mH (p := t) (by omega) (fun u hu hne => by
   by_cases e : u < t
   ·rw [h0 t u e (by omega)]; grind
   ·rw [ih (m - 1 - u) (by omega) u (by omega)]; grind), h1 t (by omega)] at this
  grind
theorem aYE {A : Mt} {C : Nat} {sp : Sp} {ix jx : List Nat} (h : SpI C sp) (hl : ix.length = sp.length) (hk : ∀ z, zD C sp z ↔ ∀ i ∈ ix, rw1 A C i z = 0) (hj : jx.Perm (yM sp)) : dt ix.length (at2 (mnr A ix jx)) ≠ 0 := by
 have hn : jx.Nodup := hj.nodup_iff.2 (yY h)
 have hjl : jx.length = ix.length := by rw [hj.length_eq, jY, hl]
 have hlt : ∀ j ∈ jx, j < C := fun j hm => aFE h j (hj.mem_iff.1 hm)
 have hd : iD (mnr A ix jx) ix.length ix.length := by have := aND (A := A) (ix := ix) (jx := jx); rwa [hjl] at this
 rw [aQT hd]
 intro z hz b hb
 have hker : zD C sp (lft jx z) := (hk _).2 (fun i hi => by
  obtain ⟨a, ha, rfl⟩ := eP.1 hi
  unfold rw1
  rw [aVC hn hlt, hjl, ← hz a ha]
  exact bE (fun b hb => by rw [aQW ha (by omega)]))
 have hup := aXM (m := sp.length) (d := fun u => lft jx z (spP sp u)) (g := fun t u => (spR sp t).getD (spP sp u) 0) (fun t ht => h.one t ht) (fun t u hu ht => h.low t u hu ht) (fun t ht => by
  have := aAU.2 hker t ht
  rw [aLF (yY h) (aFE h) (fun j hj' hm => by
   have : j ∉ jx := fun e => hm (hj.mem_iff.1 e)
   unfold lft; rw [if_neg this]; grind), jY] at this
  refine Eq.trans (bE (fun u hu => ?_)) this
  have e1 : at2 (mtS sp) t (spP sp u) = (spR sp t).getD (spP sp u) 0 := by unfold at2; rw [wJ ht]
  rw [yQ hu, e1])
 have hm : jx.getD b 0 ∈ yM sp := hj.mem_iff.1 (eP.2 ⟨b, by omega, rfl⟩)
 obtain ⟨t, ht, e⟩ := eP.1 hm
 rw [jY] at ht
 rw [yQ ht] at e
 have := hup (sp.length - 1 - t) t (by omega)
 simp only [e] at this
 rw [← aRU (z := z) hn (by omega : b < jx.length)]; exact this
theorem aXH {A : Mt} {R C : Nat} (hA : iD A R C) {ix jx : List Nat} (hi : ∀ i ∈ ix, i < R) (hj : ∀ j ∈ jx, j < C) (hjl : jx.length = ix.length) (h : dt ix.length (at2 (mnr A ix jx)) ≠ 0) : ix.length ≤ rk A C := by
 have hd : iD (mnr A ix jx) ix.length ix.length := by have := aND (A := A) (ix := ix) (jx := jx); rwa [hjl] at this
 rw [aQT hd] at h
 refine Nat.le_trans ?_ (aWE hA hi).1
 obtain ⟨_, s, hr⟩ := iI (pX hA hi) C (Nat.le_refl _)
 unfold rk
 generalize iN (mG A ix) C = st at hr ⊢
 obtain ⟨E, pv⟩ := st
 simp only at hr ⊢
 refine Classical.byContradiction (fun hlt => ?_)
 obtain ⟨w, hw, u, hu, hne⟩ := hom (m := pv.length) (n := ix.length) (fun e u => at2 E e (jx.getD u 0)) (by omega)
 have hsum : ∀ g : Nat → Rat, sm C (fun j => g j * sm ix.length (fun u => w u * pE (jx.getD u 0) j)) = sm ix.length (fun u => g (jx.getD u 0) * w u) := fun g => by
  rw [bE (g := fun j => sm ix.length (fun u => g j * (w u * pE (jx.getD u 0) j))) (fun j _ => by rw [lF]), tK]
  refine bE (fun u hu => ?_)
  have hlt : jx.getD u 0 < C := hj _ (eP.2 ⟨u, by omega, rfl⟩)
  rw [mH (p := jx.getD u 0) hlt (fun j hj hne => by simp only [pE, if_neg (Ne.symm hne)]; grind)]
  simp only [pE, if_true]; grind
 have hk : Go.Proofs.YtkccjglmnhgabaaGreat.ker pv.length C (at2 E) (fun j => sm ix.length (fun u => w u * pE (jx.getD u 0) j)) := fun e he => by rw [hsum]; exact hw e he
 have hk2 := (hr.kerP _).1 hk
 refine hne (h w (fun a ha => ?_) u hu)
 have := nC.1 hk2 (ix.getD a 0) (eP.2 ⟨a, ha, rfl⟩)
 unfold rw1 at this
 rw [hsum] at this
 rw [← this]
 exact bE (fun b hb => by rw [aQW ha (by omega)])
theorem aWA {A : Mt} {R C k : Nat} (hA : iD A R C) (Z : Nat → Nat → Rat) (hZ : ∀ i, i < k → Go.Proofs.YtkccjglmnhgabaaGreat.ker R C (at2 A) (Z i)) (hi : ∀ d : Nat → Rat, (∀ j, j < C → sm k (fun i => d i * Z i j) = 0) → ∀ i, i < k → d i = 0) : rk A C + k ≤ C := by
 obtain ⟨_, s, hr⟩ := iI hA C (Nat.le_refl _)
 have hone : ∀ (z : Nat → Rat) (e : Nat), e < C → sm C (fun j => pE e j * z j) = z e := fun z e he => by
  rw [mH (p := e) he (fun j hj hne => by simp only [pE, if_neg (Ne.symm hne)]; grind)]
  simp only [pE, if_true]; grind
 exact hr.count (m := C) (k := k) pE Z (fun z hz i hi => mD (fun j hj => by rw [← hone z j hj, hz j hj]; grind)) hZ (fun d hd => hi d (fun j hj => by rw [← hone (fun j => sm k (fun i => d i * Z i j)) j hj]; exact hd j hj))
theorem nulK {A : Mt} {R C : Nat} (hA : iD A R C) {v : List Rat} (hv : v ∈ pG A C) {i : Nat} (hi : i < R) : sm C (fun t => at2 A i t * v.getD t 0) = 0 := by
 obtain ⟨_, s, hr⟩ := iI hA C (Nat.le_refl _)
 obtain ⟨j, hj, rfl⟩ := List.mem_map.1 (show v ∈ (jS (iN A C).2 C).map (uD (iN A C).1 (iN A C).2 C) from hv)
 obtain ⟨h1, h2⟩ := yK.1 hj
 have := hr.null h1 h2 i hi
 exact (bE (fun t ht => by rw [aBY ht])).trans this
theorem nulL {A : Mt} {C : Nat} {v : List Rat} (hv : v ∈ pG A C) : v.length = C := by
 obtain ⟨j, hj, rfl⟩ := List.mem_map.1 (show v ∈ (jS (iN A C).2 C).map (uD (iN A C).1 (iN A C).2 C) from hv)
 simp [uD]
theorem aEE {A : Mt} {i : Nat} (h : i < A.length) : rowAt A i ∈ A := by
 have : rowAt A i = A[i] := by simp [rowAt, List.getD, h]
 rw [this]; exact List.getElem_mem _
theorem nulD {A : Mt} {R C : Nat} (hA : iD A R C) : iD (pG A C) (C - rk A C) C := ⟨by have := sH hA; omega, fun i hi => nulL (aEE (by have := sH hA; omega))⟩
theorem aJL {pv : List Nat} {C : Nat} : (jS pv C).Nodup := List.Pairwise.filter _ List.nodup_range
theorem nulI {A : Mt} {R C : Nat} (hA : iD A R C) : indR (pG A C) (C - rk A C) C := by
 intro d hd i hi
 have hl := sH hA
 have hlf : (jS (iN A C).2 C).length = C - rk A C := by unfold pG aIU at hl; rw [List.length_map] at hl; omega
 have hm : (jS (iN A C).2 C).getD i 0 ∈ jS (iN A C).2 C := eP.2 ⟨i, by omega, rfl⟩
 obtain ⟨h1, h2⟩ := yK.1 hm
 have hat : ∀ u, u < C - rk A C → at2 (pG A C) u ((jS (iN A C).2 C).getD i 0) = pE ((jS (iN A C).2 C).getD u 0) ((jS (iN A C).2 C).getD i 0) := fun u hu => by
  have e : rowAt (pG A C) u = uD (iN A C).1 (iN A C).2 C ((jS (iN A C).2 C).getD u 0) := by
   have : u < (jS (iN A C).2 C).length := by omega
   simp [rowAt, pG, aIU, List.getD, this]
  unfold at2
  rw [e, aBY h1]
  simp only [nK, if_neg h2, pE]
  by_cases e' : (jS (iN A C).2 C).getD i 0 = (jS (iN A C).2 C).getD u 0
  ·rw [if_pos e', if_pos e'.symm]
  ·rw [if_neg e', if_neg (fun e => e' e.symm)]
 have := hd _ h1
 rw [mH (p := i) hi (fun u hu hne => by
  rw [hat u hu]
  have : ¬ (jS (iN A C).2 C).getD u 0 = (jS (iN A C).2 C).getD i 0 := fun e => hne (aCO aJL (by omega) (by omega) e)
  simp only [pE, if_neg this]; grind), hat i hi] at this
 simp only [pE, if_true] at this
 grind
theorem aQJ {A K : Mt} {R C : Nat} (hA : iD A R C) {ix jx : List Nat} {r : Nat} (hr : r ≤ C) (hi : ∀ i ∈ ix, i < R) (hj : ∀ j ∈ jx, j < C) (hil : ix.length = r) (hjl : jx.length = r) (hd : dt r (at2 (mnr A ix jx)) ≠ 0)
  (hK : iD K (C - r) C) (hk : rk K C = C - r) (h0 : ∀ t, t < C - r → Go.Proofs.YtkccjglmnhgabaaGreat.ker R C (at2 A) (fun j => at2 K t j)) : rk A C = r := by
 have h1 := aXH hA hi hj (by omega) (by rw [hil]; exact hd)
 have h2 := aWA hA (fun t j => at2 K t j) h0 ((aBS hK).1 hk)
 omega
theorem aMZ {A : Mt} {R C : Nat} (hA : iD A R C) {ix jx : List Nat} (hj : ∀ i ∈ jx, i < R) (h : ∀ i ∈ ix, i ∈ jx) : rk (mG A ix) C ≤ rk (mG A jx) C :=
 uF (pX hA hj) (pX hA (fun i hi => hj i (h i hi))) (fun z hz => nC.2 (fun i hi => nC.1 hz i (h i hi)))
theorem aTR {A : Mt} {R C i : Nat} (hA : iD A R C) (hi : i < R) : rk A C ≤ rk (mG A ((List.range R).filter (fun k => decide (k ≠ i)))) C + 1 := by
 rw [← aFM (q := fun k => decide (k ≠ i)) hA (Nat.le_refl _)]
 have hv := aLL (hA.2 i hi) (nR (q := fun k => decide (k ≠ i)) hA (Nat.le_refl R))
 have hk : ∀ z, Go.Proofs.YtkccjglmnhgabaaGreat.ker _ C (at2 (mtS (adS (jR A (fun k => decide (k ≠ i)) R).1 (rowAt A i)).2)) z → Go.Proofs.YtkccjglmnhgabaaGreat.ker R C (at2 A) z := fun z hz t ht => by
  obtain ⟨h1, h2⟩ := (aFS (hA.2 i hi)).1 (aAU.1 hz)
  by_cases e : t = i
  ·subst e; exact h2
  ·exact (aAN hA (Nat.le_refl _)).1 h1 t ht (decide_eq_true e)
 have h1 := uF (tO hv) hA hk
 rw [aFK hv] at h1
 have h2 := aMX (sp := (jR A (fun k => decide (k ≠ i)) R).1) (l := rowAt A i)
 split at h2 <;> omega
theorem aSY {A : Mt} {R C i : Nat} (hA : iD A R C) (hi : i < R) : rk (A.eraseIdx i) C = rk (mG A ((List.range R).filter (fun k => decide (k ≠ i)))) C := by
 have hl : (A.eraseIdx i).length = R - 1 := by rw [List.length_eraseIdx_of_lt (by rw [hA.1]; exact hi), hA.1]
 have hat : ∀ t, t < R - 1 → rowAt (A.eraseIdx i) t = rowAt A (sk i t) := fun t ht => by
  unfold rowAt sk
  simp only [List.getD, List.getElem?_eraseIdx]
  by_cases e : t < i
  ·rw [if_pos e, if_pos e]
  ·rw [if_neg e, if_neg e]
 have hd : iD (A.eraseIdx i) (R - 1) C := ⟨hl, fun t ht => by
  rw [hat t ht]
  refine hA.2 _ ?_
  unfold sk; split <;> omega⟩
 have hd2 : iD (mG A ((List.range R).filter (fun k => decide (k ≠ i)))) ((List.range R).filter (fun k => decide (k ≠ i))).length C := pX hA (fun k hk => List.mem_range.1 (List.mem_filter.1 hk).1)
 have hk : ∀ z, Go.Proofs.YtkccjglmnhgabaaGreat.ker (R - 1) C (at2 (A.eraseIdx i)) z ↔ Go.Proofs.YtkccjglmnhgabaaGreat.ker ((List.range R).filter (fun k => decide (k ≠ i))).length C (at2 (mG A ((List.range R).filter (fun k => decide (k ≠ i))))) z := fun z => by
  rw [nC]
  constructor
  ·intro h k hk
   have hk1 := List.mem_range.1 (List.mem_filter.1 hk).1
   have hk2 : k ≠ i := of_decide_eq_true (List.mem_filter.1 hk).2
   by_cases e : k < i
   ·have := h k (by omega)
    unfold at2 at this
    rw [hat k (by omega)] at this
    have e2 : sk i k = k := by unfold sk; rw [if_pos e]
    rw [e2] at this; exact this
   ·have := h (k - 1) (by omega)
    unfold at2 at this
    rw [hat (k - 1) (by omega)] at this
    have e2 : sk i (k - 1) = k := by unfold sk; rw [if_neg (by omega)]; omega
    rw [e2] at this; exact this
  ·intro h t ht
   unfold at2
   rw [hat t ht]
   refine h (sk i t) (List.mem_filter.2 ⟨List.mem_range.2 ?_, decide_eq_true ?_⟩)
   ·unfold sk; split <;> omega
   ·unfold sk; split <;> omega
 exact Nat.le_antisymm (uF hd2 hd (fun z => (hk z).2)) (uF hd hd2 (fun z => (hk z).1))
theorem wX {A : Mt} {R C : Nat} (hA : iD A R C) : rk A C ≤ C := by have := sH hA; omega
end Go.Proofs.YtkccjglmnhgabaaGreat
