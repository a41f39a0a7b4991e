/- matrix: column, Solve, Refute. The document's Echelon, Rank. Controlled observations, plain: Fredholm's alternative, rows left out, the rank of the transposed matrix, weights, certificates. Chapter 29, plain: the law's way to solve the equations gives the same maps. Spans, plain: rows that are added one by one, reduced by the rows before; the number of pivots is the rank. Chapter 29, plain: moving all targets, exchanging x and y, turning all points: the maps of the kinds other than homographies. -/
import Derived.Test.YtjbhdfpjnjedhaaGreatZqbb
import Derived.Test.YtjbhdfpjnjedhaaGreatZqaw
import Derived.Test.YtjbhdfpjnjedhaaGreatZqau
set_option linter.unusedSimpArgs false
set_option linter.unusedVariables false
set_option maxRecDepth 100000
set_option maxHeartbeats 4000000
namespace Go.Proofs.YtjbhdfpjnjedhaaGreat
open Go Go.Fx
def aCW (R C : Nat) (A : Mt) (b : List Rat) : Mt := mkM R (C + 1) (fun i j => if j < C then at2 A i j else b.getD i 0)
def besU (R C : Nat) (A : Mt) (b : List Rat) : Mt := mkM R (C + 1 + R) (fun i j => if j < C then at2 A i j else if j = C then b.getD i 0 else nG i (j - (C + 1)))
theorem dimK {R C : Nat} {F : Nat → Nat → Rat} : qP (mkM R C F) R C := ⟨by simp [mkM], fun i hi => by simp [mkM, rowAt, List.getD, hi]⟩
def solB (R C : Nat) (f : Nat → Nat → Rat) (pv : List Nat) : Prop := ∀ i ∈ List.range R, pv.length ≤ i → f i C = 0
instance (R C : Nat) (f : Nat → Nat → Rat) (pv : List Nat) : Decidable (solB R C f pv) := by unfold solB; exact inferInstance
theorem aGL {R C : Nat} {f : Nat → Nat → Rat} {pv : List Nat} : solB R C f pv ↔ aRX R C f pv := ⟨fun h i h1 h2 => h i (List.mem_range.2 h2) h1, fun h i h1 h2 => h i h2 (List.mem_range.1 h1)⟩
def aFH (R C : Nat) (A : Mt) (b : List Rat) : Prop := solB R C (at2 (qM (aCW R C A b) C).1) (qM (aCW R C A b) C).2
instance (R C : Nat) (A : Mt) (b : List Rat) : Decidable (aFH R C A b) := by unfold aFH; exact inferInstance
def aIS (R C : Nat) (A : Mt) (b : List Rat) : List Rat := (List.range C).map (solF (at2 (qM (aCW R C A b) C).1) (qM (aCW R C A b) C).2 C)
theorem aIY {R C : Nat} {A : Mt} {b : List Rat} {i j : Nat} (hi : i < R) (hj : j < C) : at2 (aCW R C A b) i j = at2 A i j := by unfold aCW; rw [uL hi (by omega), if_pos hj]
theorem aJS {R C : Nat} {A : Mt} {b : List Rat} {i : Nat} (hi : i < R) : at2 (aCW R C A b) i C = b.getD i 0 := by unfold aCW; rw [uL hi (by omega), if_neg (by omega)]
theorem aPZ {R C : Nat} {A : Mt} {b : List Rat} : aFH R C A b ↔ ∃ x : Nat → Rat, ∀ i, i < R → sm C (fun j => at2 A i j * x j) = b.getD i 0 := by
 obtain ⟨_, s, hr⟩ := lS (A := aCW R C A b) (R := R) (C := C + 1) dimK C (by omega)
 unfold aFH
 rw [aGL, hr.sol_iff (by omega)]
 constructor
 ·rintro ⟨x, hx⟩; exact ⟨x, fun i hi => by rw [← aJS (A := A) (C := C) hi, ← hx i hi]; exact aW (fun j hj => by rw [aIY hi hj])⟩
 ·rintro ⟨x, hx⟩; exact ⟨x, fun i hi => by rw [aJS hi, ← hx i hi]; exact aW (fun j hj => by rw [aIY hi hj])⟩
theorem aMB {R C : Nat} {A : Mt} {b : List Rat} (h : aFH R C A b) : ∀ i, i < R → sm C (fun j => at2 A i j * (aIS R C A b).getD j 0) = b.getD i 0 := by
 obtain ⟨_, s, hr⟩ := lS (A := aCW R C A b) (R := R) (C := C + 1) dimK C (by omega)
 intro i hi
 have := hr.sol_x (by omega) (aGL.1 h) i hi
 rw [aJS hi] at this
 rw [← this]
 refine aW (fun j hj => ?_)
 rw [aIY hi hj]
 unfold aIS
 simp [List.getD, hj]
/- the wider matrix tells the same -/
section
variable {X : List Nat} {w0 : World} {M0 : List Ent} {I0 : List aT}
end
end Go.Proofs.YtjbhdfpjnjedhaaGreat
namespace Go.Proofs.YtjbhdfpjnjedhaaGreat
open Go Go.Fx
def rEchO (A : Mt) (R C k : Nat) (M0 : List Ent) (I0 : List aT) (v : Value) (M : List Ent) (I : List aT) : Prop :=
 ∃ (bo co : Nat) (tlo : List Value) (rows : List MS) (E : Mt) (pv : List Nat) (q : Option Addr) (c : Nat), v = .tuple #[.slice (some ⟨bo, 0, none⟩) R co, .slice q pv.length c] ∧ R ≤ co ∧ Shp rows R C ∧ qM A C = (E, pv) ∧ Pw rows R C (at2 E) ∧
  M = .row q pv.length c (recs eZ (zs pv)) 3 1 :: .blk bo (recs eS rows ++ tlo) 53 :: (rows.map entS ++ M0) ∧ I = allS rows k :: I0
def rEchP (A : Mt) (R C k : Nat) (M0 : List Ent) (I0 : List aT) (v : Value) (M : List Ent) (I : List aT) : Prop :=
 M0 = M ∧ ∃ (m : MX) (pv : List Nat) (q : Option Addr) (c : Nat), v = .tuple #[mv m, .slice q pv.length c] ∧ qM A C = (m.q, pv) ∧ m.dim R C ∧ I = pvI q pv :: lT m k :: I0
section
variable {X : List Nat} {w0 : World} {M0 : List Ent} {I0 : List aT}
end
end Go.Proofs.YtjbhdfpjnjedhaaGreat
namespace Go.Proofs.YtjbhdfpjnjedhaaGreat
open Go Go.Fx
def unL (n i : Nat) : List Rat := (List.range n).map (nG i)
def rw1 (A : Mt) (C i : Nat) (z : Nat → Rat) : Rat := sm C (fun j => at2 A i j * z j)
def ctl (R C : Nat) (A : Mt) (i : Nat) : Prop := ¬ aFH R C A (unL R i)
instance (R C : Nat) (A : Mt) (i : Nat) : Decidable (ctl R C A i) := by unfold ctl; exact inferInstance
/- rows left out -/
def rowsM (A : Mt) (ix : List Nat) : Mt := ix.map (rowAt A)
def restI (R : Nat) (set : List Int) : List Nat := (List.range R).filter (fun i => decide ((i : Int) ∉ set))
def und (R C : Nat) (A : Mt) (set : List Int) : Prop := rk (rowsM A (restI R set)) C < rk A C
instance (R C : Nat) (A : Mt) (set : List Int) : Decidable (und R C A set) := by unfold und; exact inferInstance
/- the transposed matrix -/
def trM (R C : Nat) (A : Mt) : Mt := mkM C R (fun i j => at2 A j i)
/- certificates -/
/- weights: the normal matrix has the kernel of the design matrix -/
theorem sq_nn (x : Rat) : 0 ≤ x * x := by
 rcases Rat.le_total (a := 0) (b := x) with h | h
 ·exact Rat.mul_nonneg h h
 ·have h2 : 0 ≤ -x := by grind
  have := Rat.mul_nonneg h2 h2
  grind
def aIH (R C : Nat) (A : Mt) (p : Nat → Rat) : Mt := mkM C C (fun i j => sm R (fun k => p k * at2 A k i * at2 A k j))
theorem sm_nn {n : Nat} {f : Nat → Rat} (h : ∀ i, i < n → 0 ≤ f i) : 0 ≤ sm n f ∧ (sm n f = 0 → ∀ i, i < n → f i = 0) := by
 induction n with
 | zero => exact ⟨(by show (0 : Rat) ≤ 0; decide), fun _ i hi => by omega⟩
 | succ n ih =>
  obtain ⟨h1, h2⟩ := ih (fun i hi => h i (by omega))
  have h3 := h n (by omega)
  have e : sm (n + 1) f = sm n f + f n := rfl
  rw [e]
  refine ⟨by grind, fun h0 i hi => ?_⟩
  have h4 : sm n f = 0 := by grind
  have h5 : f n = 0 := by grind
  by_cases e : i = n
  ·rw [e]; exact h5
  ·exact h2 h4 i (by omega)
theorem aLX {R C : Nat} {A : Mt} {p : Nat → Rat} (hp : ∀ k, k < R → 0 < p k) (z : Nat → Rat) : Go.Proofs.YtjbhdfpjnjedhaaGreat.ker C C (at2 (aIH R C A p)) z ↔ Go.Proofs.YtjbhdfpjnjedhaaGreat.ker R C (at2 A) z := by
 have e : ∀ i, i < C → sm C (fun j => at2 (aIH R C A p) i j * z j) = sm R (fun k => p k * at2 A k i * rw1 A C k z) := fun i hi => by
  rw [aW (g := fun j => sm R (fun k => p k * at2 A k i * (at2 A k j * z j))) (fun j hj => by
   unfold aIH; rw [uL hi hj]
   have : ∀ s : Rat, s * z j = z j * s := fun s => by grind
   rw [this, ← jN]; exact aW (fun k _ => by grind)), qY]
  exact aW (fun k _ => by rw [jN]; rfl)
 constructor
 ·intro h
  have h1 : sm R (fun k => p k * (rw1 A C k z * rw1 A C k z)) = 0 := by
   have h2 : sm C (fun i => z i * sm R (fun k => p k * at2 A k i * rw1 A C k z)) = 0 := kK (fun i hi => by rw [← e i hi, h i hi]; grind)
   rw [aW (g := fun i => sm R (fun k => (p k * rw1 A C k z) * (at2 A k i * z i))) (fun i _ => by rw [← jN]; exact aW (fun k _ => by grind)), qY] at h2
   rw [← h2]
   exact aW (fun k _ => by rw [jN]; unfold rw1; grind)
  have h3 := (sm_nn (f := fun k => p k * (rw1 A C k z * rw1 A C k z)) (fun k hk => Rat.mul_nonneg (Rat.le_of_lt (hp k hk)) (sq_nn _))).2 h1
  intro k hk
  have h4 := h3 k hk
  have h5 := hp k hk
  show rw1 A C k z = 0
  rcases Rat.mul_eq_zero.1 h4 with h | h
  ·grind
  ·rcases Rat.mul_eq_zero.1 h with h | h <;> exact h
 ·intro h i hi
  rw [e i hi]
  exact kK (fun k hk => by have : rw1 A C k z = 0 := h k hk; rw [this]; grind)
theorem aYQ {R C : Nat} {A : Mt} (hA : qP A R C) {p : Nat → Rat} (hp : ∀ k, k < R → 0 < p k) : rk (aIH R C A p) C = rk A C := by
 obtain ⟨_, s, hr⟩ := lS hA C (Nat.le_refl _)
 obtain ⟨_, s', hr'⟩ := lS (A := aIH R C A p) (R := C) (C := C) dimK C (Nat.le_refl _)
 exact Nat.le_antisymm (hr'.le hr (fun z hz => (aLX hp z).2 hz)) (hr.le hr' (fun z hz => (aLX hp z).1 hz))
/- the document's inverse: the pivots of the matrix with the unit matrix beside -/
end Go.Proofs.YtjbhdfpjnjedhaaGreat
namespace Go.Proofs.YtjbhdfpjnjedhaaGreat
open Go Go.Fx
theorem aXU {A : Mt} {R C : Nat} (hA : qP A R C) : rk A C ≤ C := by
 obtain ⟨_, s, hr⟩ := lS hA C (Nat.le_refl _)
 have := hr.free_len
 unfold rk
 omega
theorem aME {A : Mt} {C : Nat} (hA : qP A C C) : rk A C = C ↔ dt C (at2 A) ≠ 0 := by
 obtain ⟨_, s, hr⟩ := lS hA C (Nat.le_refl _)
 exact hr.iff (Nat.le_refl _)
theorem aFV {R C : Nat} {A : Mt} : qP (nrN R C A) C C := dimK
theorem aIL {R C : Nat} {A : Mt} (hA : qP A R C) : rk (nrN R C A) C = rk A C := by
 have e : nrN R C A = aIH R C A (fun _ => 1) := by
  unfold nrN aIH
  congr 1
  funext i j
  exact aW (fun t _ => by rw [Rat.one_mul])
 rw [e]
 exact aYQ hA (fun _ _ => by decide)
theorem aVE {C : Nat} {a b : List Rat} (ha : a.length = C) (hb : b.length = C) (h : ∀ i, i < C → a.getD i 0 = b.getD i 0) : a = b := by
 apply List.ext_getElem (by rw [ha, hb])
 intro i h1 h2
 have := h i (by omega)
 simpa [List.getD, h1, h2] using this
theorem solLn {R C : Nat} {A : Mt} {b : List Rat} : (aIS R C A b).length = C := by simp [aIS]
theorem aTJ {C : Nat} {A : Mt} {b : List Rat} (hA : qP A C C) (h : rk A C = C) : dt C (at2 (nrN C C A)) ≠ 0 ∧ aFH C C A b ∧ aIS C C A b = lsX C C A b := by
 have hn : dt C (at2 (nrN C C A)) ≠ 0 := (aME aFV).1 (by rw [aIL hA]; exact h)
 have hd : dt C (at2 A) ≠ 0 := (aME hA).1 h
 have hs : aFH C C A b := aPZ.2 ⟨fun j => sm C (fun t => at2 (aAB C A) j t * b.getD t 0), fun i hi => by
  rw [← aHA (f := at2 A) (g := at2 (aAB C A)) (x := fun t => b.getD t 0)]
  rw [aW (g := fun j => nG i j * b.getD j 0) (fun j hj => by rw [(aLD hd).1 i j hi hj])]
  exact aRD hi⟩
 refine ⟨hn, hs, aVE solLn aVX (fun i hi => ?_)⟩
 exact aPS (b := b) (x := fun j => (aIS C C A b).getD j 0) hn (aEG (fun t ht => aMB hs t ht)) i hi
theorem aUQ {k : Nat} {l : List Q4} (hl : 2 * l.length = kU k) : qP (xE k l) (kU k) (kU k) := by
 have := aEW (k := k) (l := l)
 rw [hl] at this
 exact this
theorem aTO {k : Nat} {l : List Q4} (hl : 2 * l.length = kU k) : if rk (xE k l) (kU k) < kU k then qI k l = 0 else qI k l ≠ 0 ∧ aFH (kU k) (kU k) (xE k l) (dsB k l) ∧ aIS (kU k) (kU k) (xE k l) (dsB k l) = qK k l := by
 have hA := aUQ hl
 have hle := aXU hA
 have e1 : qI k l = dt (kU k) (at2 (nrN (kU k) (kU k) (xE k l))) := by unfold qI; rw [hl]
 have e2 : qK k l = lsX (kU k) (kU k) (xE k l) (dsB k l) := by unfold qK; rw [hl]
 rw [e1, e2]
 split
 ·rename_i h
  by_cases h0 : dt (kU k) (at2 (nrN (kU k) (kU k) (xE k l))) = 0
  ·exact h0
  ·have := (aME (A := nrN (kU k) (kU k) (xE k l)) aFV).2 h0
   rw [aIL hA] at this
   omega
 ·exact aTJ hA (by omega)
theorem aOT {k : Nat} {l : List Q4} (hl : 2 * l.length = kU k) (h : qI k l ≠ 0) : ∀ i, i < kU k → sm (kU k) (fun j => at2 (xE k l) i j * (qK k l).getD j 0) = (dsB k l).getD i 0 := by
 have hf := aTO hl
 split at hf
 ·exact absurd hf h
 ·intro i hi
  rw [← hf.2.2]
  exact aMB hf.2.1 i hi
end Go.Proofs.YtjbhdfpjnjedhaaGreat
namespace Go.Proofs.YtjbhdfpjnjedhaaGreat
open Go Go.Fx
abbrev Sp := List (Nat × List Rat)
def sub1 (κ : Rat) (s l : List Rat) : List Rat := l.mapIdx (fun c x => x - κ * s.getD c 0)
def rdS (p : Nat × List Rat) (l : List Rat) : List Rat := sub1 (l.getD p.1 0) p.2 l
def rdc (sp : Sp) (l : List Rat) : List Rat := sp.foldl (fun l p => rdS p l) l
def fst0 (l : List Rat) : Nat := l.findIdx (fun x => decide (x ≠ 0))
def dvd (l : List Rat) (κ : Rat) : List Rat := l.map (fun x => x / κ)
def adS (sp : Sp) (l : List Rat) : Bool × Sp :=
 if fst0 (rdc sp l) < l.length then (true, sp ++ [(fst0 (rdc sp l), dvd (rdc sp l) ((rdc sp l).getD (fst0 (rdc sp l)) 0))]) else (false, sp)
def spn (A : Mt) (q : Nat → Bool) : Nat → Sp × List Nat
 | 0 => ([], [])
 | k + 1 => if q k then ((adS (spn A q k).1 (rowAt A k)).2, if (adS (spn A q k).1 (rowAt A k)).1 then (spn A q k).2 ++ [k] else (spn A q k).2) else spn A q k
def spR (sp : Sp) (t : Nat) : List Rat := (sp.getD t (0, [])).2
def spP (sp : Sp) (t : Nat) : Nat := (sp.getD t (0, [])).1
structure SpI (C : Nat) (sp : Sp) : Prop where
 len : ∀ t, t < sp.length → (spR sp t).length = C
 piv : ∀ t, t < sp.length → spP sp t < C
 one : ∀ t, t < sp.length → (spR sp t).getD (spP sp t) 0 = 1
 low : ∀ t u, u < t → t < sp.length → (spR sp t).getD (spP sp u) 0 = 0
def dotL (C : Nat) (l : List Rat) (z : Nat → Rat) : Rat := sm C (fun j => l.getD j 0 * z j)
def kerS (C : Nat) (sp : Sp) (z : Nat → Rat) : Prop := ∀ p ∈ sp, dotL C p.2 z = 0
section
variable {A : Mt} {q : Nat → Bool} {R C : Nat}
end
/- rows that are independent: the rank is their number -/
def indR (K : Mt) (k C : Nat) : Prop := ∀ d : Nat → Rat, (∀ j, j < C → sm k (fun i => d i * at2 K i j) = 0) → ∀ i, i < k → d i = 0
theorem aSK {R n : Nat} {f0 f : Nat → Nat → Rat} {pv : List Nat} {s : Rat} (h : Red R n n f0 f pv s) : pv.length = n ↔ ∀ z, Go.Proofs.YtjbhdfpjnjedhaaGreat.ker R n f0 z → ∀ i, i < n → z i = 0 := by
 have hf := h.free_len
 constructor
 ·intro e z hz c hc
  have h0 : yJ pv n = [] := List.length_eq_zero_iff.1 (by omega)
  have hall : ∀ j, j < n → j ∈ pv := fun j hj => Classical.byContradiction (fun hn => by
   have := aHF.2 ⟨hj, hn⟩
   rw [h0] at this; simp at this)
  rw [h.span hz hc]
  exact kK (fun j hj => by simp only [qE, if_pos (hall j hj)]; grind)
 ·intro hz
  refine Classical.byContradiction (fun hne => ?_)
  obtain ⟨j, hj⟩ : ∃ j, j ∈ yJ pv n := by
   cases hh : yJ pv n with
   | nil => rw [hh] at hf; simp at hf; omega
   | cons a r => exact ⟨a, by simp⟩
  obtain ⟨h1, h2⟩ := aHF.1 hj
  have := hz _ (h.null h1 h2) j h1
  simp only [uH, if_neg h2, if_true] at this
  exact absurd this (by decide)
def mtS (sp : Sp) : Mt := sp.map (·.2)
end Go.Proofs.YtjbhdfpjnjedhaaGreat
namespace Go.Proofs.YtjbhdfpjnjedhaaGreat
open Go Go.Fx
def F1 (k : Nat) (z : Nat → Rat) (s : Q4) : Rat := if k = 0 then z 0 else if k = 1 then (s.x : Rat) * z 0 - (s.y : Rat) * z 1 + z 2 else (s.x : Rat) * z 0 + (s.y : Rat) * z 1 + z 2
def F2 (k : Nat) (z : Nat → Rat) (s : Q4) : Rat := if k = 0 then z 1 else if k = 1 then (s.y : Rat) * z 0 + (s.x : Rat) * z 1 + z 3 else (s.x : Rat) * z 3 + (s.y : Rat) * z 4 + z 5
theorem aHZ {k : Nat} {z : Nat → Rat} {s : Q4} : sm (kU k) (fun j => (cz (dr1 k s)).getD j 0 * z j) = F1 k z s ∧ sm (kU k) (fun j => (cz (dr2 k s)).getD j 0 * z j) = F2 k z s := by
 unfold F1 F2 dr1 dr2 kU
 by_cases h0 : k = 0
 ·simp only [h0, if_true]
  constructor
  ·show 0 + ((1 : Int) : Rat) * z 0 + ((0 : Int) : Rat) * z 1 = z 0
   rw [tT, yX]; grind
  ·show 0 + ((0 : Int) : Rat) * z 0 + ((1 : Int) : Rat) * z 1 = z 1
   rw [tT, yX]; grind
 ·by_cases h1 : k = 1
  ·simp only [h1, if_true, show ¬ (1 : Nat) = 0 by omega, if_false]
   constructor
   ·show 0 + (s.x : Rat) * z 0 + ((-s.y : Int) : Rat) * z 1 + ((1 : Int) : Rat) * z 2 + ((0 : Int) : Rat) * z 3 = _
    rw [tT, yX, Rat.intCast_neg]; grind
   ·show 0 + (s.y : Rat) * z 0 + (s.x : Rat) * z 1 + ((0 : Int) : Rat) * z 2 + ((1 : Int) : Rat) * z 3 = _
    rw [tT, yX]; grind
  ·simp only [h0, h1, if_false]
   constructor
   ·show 0 + (s.x : Rat) * z 0 + (s.y : Rat) * z 1 + ((1 : Int) : Rat) * z 2 + ((0 : Int) : Rat) * z 3 + ((0 : Int) : Rat) * z 4 + ((0 : Int) : Rat) * z 5 = _
    rw [tT, yX]; grind
   ·show 0 + ((0 : Int) : Rat) * z 0 + ((0 : Int) : Rat) * z 1 + ((0 : Int) : Rat) * z 2 + (s.x : Rat) * z 3 + (s.y : Rat) * z 4 + ((1 : Int) : Rat) * z 5 = _
    rw [tT, yX]; grind
theorem yS {k : Nat} {l : List Q4} {z : Nat → Rat} {t : Nat} (ht : t < l.length) : sm (kU k) (fun j => at2 (xE k l) (2 * t) j * z j) = F1 k z (gt l (t : Int)) ∧ sm (kU k) (fun j => at2 (xE k l) (2 * t + 1) j * z j) = F2 k z (gt l (t : Int)) := by
 have hA := zL (k := k) ht
 rw [← (aHZ (k := k) (z := z) (s := gt l (t : Int))).1, ← (aHZ (k := k) (z := z) (s := gt l (t : Int))).2]
 constructor
 ·exact aW (fun j _ => by unfold at2; rw [hA.1])
 ·exact aW (fun j _ => by unfold at2; rw [hA.2])
theorem aWO {k : Nat} {l : List Q4} {z : Nat → Rat} : Go.Proofs.YtjbhdfpjnjedhaaGreat.ker (2 * l.length) (kU k) (at2 (xE k l)) z ↔ ∀ s ∈ l, F1 k z s = 0 ∧ F2 k z s = 0 := by
 constructor
 ·intro h s hs
  obtain ⟨t, ht, rfl⟩ := List.mem_iff_getElem.1 hs
  have h1 := h (2 * t) (by omega)
  have h2 := h (2 * t + 1) (by omega)
  rw [(yS ht).1, gtQ ht] at h1
  rw [(yS ht).2, gtQ ht] at h2
  exact ⟨h1, h2⟩
 ·intro h i hi
  obtain ⟨t, e | e⟩ : ∃ t, i = 2 * t ∨ i = 2 * t + 1 := ⟨i / 2, by omega⟩
  ·have ht : t < l.length := by omega
   rw [e, (yS ht).1, gtQ ht]
   exact (h _ (List.getElem_mem ht)).1
  ·have ht : t < l.length := by omega
   rw [e, (yS ht).2, gtQ ht]
   exact (h _ (List.getElem_mem ht)).2
theorem zU {k : Nat} {l : List Q4} : qI k l ≠ 0 ↔ ∀ z, (∀ s ∈ l, F1 k z s = 0 ∧ F2 k z s = 0) → ∀ j, j < kU k → z j = 0 := by
 have hA := aEW (k := k) (l := l)
 unfold qI
 rw [← aME aFV, aIL hA]
 obtain ⟨_, s, hr⟩ := lS hA (kU k) (Nat.le_refl _)
 unfold rk
 rw [aSK hr]
 constructor
 ·exact fun h z hz => h z (aWO.2 hz)
 ·exact fun h z hz => h z (aWO.1 hz)
theorem aTD {k : Nat} {l : List Q4} (hl : 2 * l.length = kU k) (h : qI k l ≠ 0) : ∀ s ∈ l, F1 k (fun j => (qK k l).getD j 0) s = (db1 k s : Rat) ∧ F2 k (fun j => (qK k l).getD j 0) s = (db2 k s : Rat) := by
 intro s hs
 obtain ⟨t, ht, rfl⟩ := List.mem_iff_getElem.1 hs
 have h1 := aOT hl h (2 * t) (by omega)
 have h2 := aOT hl h (2 * t + 1) (by omega)
 rw [(yS ht).1, (xC ht).1, gtQ ht] at h1
 rw [(yS ht).2, (xC ht).2, gtQ ht] at h2
 exact ⟨h1, h2⟩
theorem aUP {k : Nat} {l : List Q4} (h : qI k l ≠ 0) {z : Nat → Rat} (hz : ∀ s ∈ l, F1 k z s = (db1 k s : Rat) ∧ F2 k z s = (db2 k s : Rat)) : ∀ j, j < kU k → z j = (qK k l).getD j 0 := by
 refine aPS h (aEG (fun i hi => ?_))
 obtain ⟨t, e | e⟩ : ∃ t, i = 2 * t ∨ i = 2 * t + 1 := ⟨i / 2, by omega⟩
 ·have ht : t < l.length := by omega
  rw [e, (yS ht).1, (xC ht).1, gtQ ht]
  exact (hz _ (List.getElem_mem ht)).1
 ·have ht : t < l.length := by omega
  rw [e, (yS ht).2, (xC ht).2, gtQ ht]
  exact (hz _ (List.getElem_mem ht)).2
def er1 (k : Nat) (z : Nat → Rat) (s : Q4) : Rat := F1 k z s - (db1 k s : Rat)
def er2 (k : Nat) (z : Nat → Rat) (s : Q4) : Rat := F2 k z s - (db2 k s : Rat)
def aCK (k : Nat) (z : Nat → Rat) : Rat := if k = 0 then 1 else if k = 1 then z 0 * z 0 + z 1 * z 1 else z 0 * z 4 - z 1 * z 3
theorem aKO {k : Nat} {x : List Rat} : dt 3 (at2 (frm k x)) = aCK k (fun j => x.getD j 0) := by
 unfold frm aCK
 have hd : ∀ a b c d e f : Rat, dt 3 (at2 [[a, b, c], [d, e, f], [0, 0, 1]]) = a * e - b * d := by
  intro a b c d e f
  simp [dt, sm, sgd, sk, at2, rowAt]
  grind
 split
 ·rw [hd]; grind
 ·split
  ·rw [hd]; grind
  ·rw [hd]
theorem aLI {k : Nat} {x : List Rat} {s : Q4} : tO (frm k x) s = er1 k (fun j => x.getD j 0) s * er1 k (fun j => x.getD j 0) s + er2 k (fun j => x.getD j 0) s * er2 k (fun j => x.getD j 0) s := by
 unfold tO er1 er2
 rw [(aKT (k := k) (x := x) (s := s)).1, (aKT (k := k) (x := x) (s := s)).2, (aHZ (k := k) (z := fun j => x.getD j 0) (s := s)).1, (aHZ (k := k) (z := fun j => x.getD j 0) (s := s)).2]
theorem aTL {k : Nat} {z z' : Nat → Rat} (h : ∀ j, j < kU k → z j = z' j) (s : Q4) : F1 k z s = F1 k z' s ∧ F2 k z s = F2 k z' s := by
 rw [← (aHZ (k := k) (z := z) (s := s)).1, ← (aHZ (k := k) (z := z) (s := s)).2, ← (aHZ (k := k) (z := z') (s := s)).1, ← (aHZ (k := k) (z := z') (s := s)).2]
 exact ⟨aW (fun j hj => by rw [h j hj]), aW (fun j hj => by rw [h j hj])⟩
theorem aIQ {k : Nat} {z z' : Nat → Rat} (h : ∀ j, j < kU k → z j = z' j) : aCK k z = aCK k z' := by
 unfold aCK
 split
 ·rfl
 ·split
  ·rename_i h0 h1
   have e : kU k = 4 := by unfold kU; rw [if_neg h0, if_pos h1]
   rw [h 0 (by omega), h 1 (by omega)]
  ·rename_i h0 h1
   have e : kU k = 6 := by unfold kU; rw [if_neg h0, if_neg h1]
   rw [h 0 (by omega), h 1 (by omega), h 3 (by omega), h 4 (by omega)]
structure MovL (k : Nat) (f : Q4 → Q4) where
 T : (Nat → Rat) → (Nat → Rat)
 S : (Nat → Rat) → (Nat → Rat)
 U : (Nat → Rat) → (Nat → Rat)
 Tk : ∀ z s, F1 k z s = 0 ∧ F2 k z s = 0 → F1 k (T z) (f s) = 0 ∧ F2 k (T z) (f s) = 0
 Sk : ∀ z s, F1 k z (f s) = 0 ∧ F2 k z (f s) = 0 → F1 k (S z) s = 0 ∧ F2 k (S z) s = 0
 Tz : ∀ z, (∀ j, j < kU k → T z j = 0) → ∀ j, j < kU k → z j = 0
 Sz : ∀ z, (∀ j, j < kU k → S z j = 0) → ∀ j, j < kU k → z j = 0
 Ue : ∀ z s, er1 k z s = 0 ∧ er2 k z s = 0 → er1 k (U z) (f s) = 0 ∧ er2 k (U z) (f s) = 0
 Um : ∀ z s, er1 k (U z) (f s) * er1 k (U z) (f s) + er2 k (U z) (f s) * er2 k (U z) (f s) = er1 k z s * er1 k z s + er2 k z s * er2 k z s
 Ud : ∀ z, aCK k (U z) = 0 ↔ aCK k z = 0
structure Alike (mp mp' : Option Mt) (f : Q4 → Q4) : Prop where
 none : mp = .none ↔ mp' = .none
 last : ∀ m m', mp = some m → mp' = some m' → ∀ s, oU m 2 s = 0 ↔ oU m' 2 (f s) = 0
 mis : ∀ m m', mp = some m → mp' = some m' → ∀ s, oU m 2 s ≠ 0 → tO m s = tO m' (f s)
theorem aWB {k : Nat} {f : Q4 → Q4} (M : MovL k f) {l : List Q4} (hl : 2 * l.length = kU k) : Alike (mE k l) (mE k (l.map f)) f := by
 have hl' : 2 * (l.map f).length = kU k := by rw [List.length_map]; exact hl
 have hne : l = [] ↔ l.map f = [] := by simp
 have hk : qI k l = 0 ↔ qI k (l.map f) = 0 := by
  have h1 : qI k l ≠ 0 → qI k (l.map f) ≠ 0 := fun h => zU.2 (fun z hz => M.Sz z (zU.1 h _ (fun s hs => M.Sk z s (hz (f s) (List.mem_map_of_mem hs)))))
  have h2 : qI k (l.map f) ≠ 0 → qI k l ≠ 0 := fun h => zU.2 (fun z hz => M.Tz z (zU.1 h _ (fun s hs => by
   obtain ⟨u, hu, rfl⟩ := List.mem_map.1 hs
   exact M.Tk z u (hz u hu))))
  constructor
  ·exact fun e => Classical.byContradiction (fun hn => h2 hn e)
  ·exact fun e => Classical.byContradiction (fun hn => h1 hn e)
 have hx : qI k l ≠ 0 → ∀ j, j < kU k → M.U (fun j => (qK k l).getD j 0) j = (qK k (l.map f)).getD j 0 := fun h => aUP (fun e => h (hk.2 e)) (fun s hs => by
  obtain ⟨u, hu, rfl⟩ := List.mem_map.1 hs
  have he := aTD hl h u hu
  have := M.Ue (fun j => (qK k l).getD j 0) u ⟨by unfold er1; rw [he.1]; grind, by unfold er2; rw [he.2]; grind⟩
  unfold er1 er2 at this
  constructor <;> grind)
 have hd : qI k l ≠ 0 → (dt 3 (at2 (frm k (qK k l))) = 0 ↔ dt 3 (at2 (frm k (qK k (l.map f)))) = 0) := fun h => by
  rw [aKO, aKO, ← aIQ (hx h), M.Ud]
 have hsome : ∀ m m', mE k l = some m → mE k (l.map f) = some m' → qI k l ≠ 0 ∧ m = frm k (qK k l) ∧ m' = frm k (qK k (l.map f)) := by
  intro m m' h h'
  unfold mE at h h'
  split at h
  ·cases h
  ·split at h
   ·cases h
   ·split at h
    ·cases h
    ·rename_i g1 g2 g3
     injection h with h
     split at h'
     ·cases h'
     ·split at h'
      ·cases h'
      ·split at h'
       ·cases h'
       ·injection h' with h'
        exact ⟨g2, h.symm, h'.symm⟩
 refine ⟨?_, fun m m' h h' s => ?_, fun m m' h h' s _ => ?_⟩
 ·unfold mE
  by_cases a : l = []
  ·rw [if_pos a, if_pos (hne.1 a)]
  ·rw [if_neg a, if_neg (fun e => a (hne.2 e))]
   by_cases b : qI k l = 0
   ·rw [if_pos b, if_pos (hk.1 b)]
   ·rw [if_neg b, if_neg (fun e => b (hk.2 e))]
    by_cases c : dt 3 (at2 (frm k (qK k l))) = 0
    ·rw [if_pos c, if_pos ((hd b).1 c)]
    ·rw [if_neg c, if_neg (fun e => c ((hd b).2 e))]
     simp
 ·obtain ⟨_, e1, e2⟩ := hsome m m' h h'
  rw [e1, e2, aBC, aBC]
 ·obtain ⟨h0, rfl, rfl⟩ := hsome m m' h h'
  have hc := aTL (hx h0) (f s)
  rw [aLI, aLI, ← M.Um]
  unfold er1 er2
  rw [hc.1, hc.2]
def iB (a b : Int) (s : Q4) : Q4 := ⟨s.x, s.y, s.u + a, s.v + b⟩
def jH (s : Q4) : Q4 := ⟨s.y, s.x, s.v, s.u⟩
def jZ (s : Q4) : Q4 := ⟨-s.y, s.x, -s.v, s.u⟩
def sf (l : List Rat) (j : Nat) : Rat := l.getD j 0
section
variable {a b : Int}
theorem aJF {k j : Nat} (h0 : k = 0) : j < kU k ↔ j < 2 := by unfold kU; rw [if_pos h0]
theorem aFD {k j : Nat} (h0 : k = 1) : j < kU k ↔ j < 4 := by unfold kU; rw [h0]; exact Iff.rfl
theorem aFJ {k j : Nat} (h0 : k ≠ 0) (h1 : k ≠ 1) : j < kU k ↔ j < 6 := by unfold kU; rw [if_neg h0, if_neg h1]
def idT (z : Nat → Rat) : Nat → Rat := z
def shU (k : Nat) (a b : Int) (z : Nat → Rat) (j : Nat) : Rat := if k = 0 then (if j = 0 then z 0 + a else z 1 + b) else if k = 1 then (if j = 0 then z 0 else if j = 1 then z 1 else if j = 2 then z 2 + a else z 3 + b) else (if j = 0 then z 0 else if j = 1 then z 1 else if j = 2 then z 2 + a else if j = 3 then z 3 else if j = 4 then z 4 else z 5 + b)
def aRU (k : Nat) (a b : Int) : MovL k (iB a b) where
 T := idT
 S := idT
 U := shU k a b
 Tk := fun z s h => h
 Sk := fun z s h => h
 Tz := fun z h => h
 Sz := fun z h => h
 Ue := fun z s h => by
  unfold er1 er2 F1 F2 db1 db2 at *
  unfold shU iB
  by_cases h0 : k = 0
  ·simp [h0, Rat.intCast_add, Rat.intCast_sub] at h ⊢
   constructor <;> grind
  ·by_cases h1 : k = 1
   ·simp [h1, Rat.intCast_add] at h ⊢
    constructor <;> grind
   ·simp [h0, h1, Rat.intCast_add] at h ⊢
    constructor <;> grind
 Um := fun z s => by
  unfold er1 er2 F1 F2 db1 db2
  unfold shU iB
  by_cases h0 : k = 0
  ·simp [h0, Rat.intCast_add, Rat.intCast_sub]
   grind
  ·by_cases h1 : k = 1
   ·simp [h1, Rat.intCast_add]
    grind
   ·simp [h0, h1, Rat.intCast_add]
    grind
 Ud := fun z => by
  unfold aCK shU
  by_cases h0 : k = 0
  ·simp [h0]
  ·by_cases h1 : k = 1
   ·simp [h1]
   ·simp [h0, h1]
def exT (k : Nat) (z : Nat → Rat) (j : Nat) : Rat := if k = 0 then (if j = 0 then z 1 else z 0) else if k = 1 then (if j = 0 then z 0 else if j = 1 then -z 1 else if j = 2 then z 3 else z 2) else (if j = 0 then z 4 else if j = 1 then z 3 else if j = 2 then z 5 else if j = 3 then z 1 else if j = 4 then z 0 else z 2)
theorem exQZ {k : Nat} (z : Nat → Rat) (h : ∀ j, j < kU k → exT k z j = 0) : ∀ j, j < kU k → z j = 0 := by
 unfold exT at h
 by_cases h0 : k = 0
 ·simp only [aJF h0] at h ⊢
  have a0 := h 0 (by omega)
  have a1 := h 1 (by omega)
  simp [h0] at a0 a1
  intro j hj
  obtain rfl | rfl : j = 0 ∨ j = 1 := by omega
  all_goals first | assumption | grind
 ·by_cases h1 : k = 1
  ·simp only [aFD h1] at h ⊢
   have a0 := h 0 (by omega)
   have a1 := h 1 (by omega)
   have a2 := h 2 (by omega)
   have a3 := h 3 (by omega)
   simp [h1] at a0 a1 a2 a3
   intro j hj
   obtain rfl | rfl | rfl | rfl : j = 0 ∨ j = 1 ∨ j = 2 ∨ j = 3 := by omega
   all_goals first | assumption | grind
  ·simp only [aFJ h0 h1] at h ⊢
   have a0 := h 0 (by omega)
   have a1 := h 1 (by omega)
   have a2 := h 2 (by omega)
   have a3 := h 3 (by omega)
   have a4 := h 4 (by omega)
   have a5 := h 5 (by omega)
   simp [h0, h1] at a0 a1 a2 a3 a4 a5
   intro j hj
   obtain rfl | rfl | rfl | rfl | rfl | rfl : j = 0 ∨ j = 1 ∨ j = 2 ∨ j = 3 ∨ j = 4 ∨ j = 5 := by omega
   all_goals first | assumption | grind
def aVA (k : Nat) : MovL k jH where
 T := exT k
 S := exT k
 U := exT k
 Tk := fun z s h => by
  unfold F1 F2 at *
  unfold exT jH
  by_cases h0 : k = 0
  ·simp [h0] at h ⊢
   exact ⟨h.2, h.1⟩
  ·by_cases h1 : k = 1
   ·simp [h1] at h ⊢
    constructor <;> grind
   ·simp [h0, h1] at h ⊢
    constructor <;> grind
 Sk := fun z s h => by
  unfold F1 F2 jH at *
  unfold exT
  by_cases h0 : k = 0
  ·simp [h0] at h ⊢
   exact ⟨h.2, h.1⟩
  ·by_cases h1 : k = 1
   ·simp [h1] at h ⊢
    constructor <;> grind
   ·simp [h0, h1] at h ⊢
    constructor <;> grind
 Tz := exQZ
 Sz := exQZ
 Ue := fun z s h => by
  unfold er1 er2 F1 F2 db1 db2 at *
  unfold exT jH
  by_cases h0 : k = 0
  ·simp [h0, Rat.intCast_sub] at h ⊢
   exact ⟨h.2, h.1⟩
  ·by_cases h1 : k = 1
   ·simp [h1] at h ⊢
    constructor <;> grind
   ·simp [h0, h1] at h ⊢
    constructor <;> grind
 Um := fun z s => by
  unfold er1 er2 F1 F2 db1 db2
  unfold exT jH
  by_cases h0 : k = 0
  ·simp [h0, Rat.intCast_sub]
   grind
  ·by_cases h1 : k = 1
   ·simp [h1]
    grind
   ·simp [h0, h1]
    grind
 Ud := fun z => by
  unfold aCK exT
  by_cases h0 : k = 0
  ·simp [h0]
  ·by_cases h1 : k = 1
   ·simp [h1]
    constructor <;> intro h <;> grind
   ·simp [h0, h1]
    constructor <;> intro h <;> grind
def tuT (k : Nat) (z : Nat → Rat) (j : Nat) : Rat := if k = 0 then (if j = 0 then -z 1 else z 0) else if k = 1 then (if j = 0 then z 0 else if j = 1 then z 1 else if j = 2 then -z 3 else z 2) else (if j = 0 then z 4 else if j = 1 then -z 3 else if j = 2 then -z 5 else if j = 3 then -z 1 else if j = 4 then z 0 else z 2)
def tuS (k : Nat) (z : Nat → Rat) (j : Nat) : Rat := if k = 0 then (if j = 0 then z 1 else -z 0) else if k = 1 then (if j = 0 then z 0 else if j = 1 then z 1 else if j = 2 then z 3 else -z 2) else (if j = 0 then z 4 else if j = 1 then -z 3 else if j = 2 then z 5 else if j = 3 then -z 1 else if j = 4 then z 0 else -z 2)
theorem tuZ {k : Nat} (z : Nat → Rat) (h : ∀ j, j < kU k → tuT k z j = 0) : ∀ j, j < kU k → z j = 0 := by
 unfold tuT at h
 by_cases h0 : k = 0
 ·simp only [aJF h0] at h ⊢
  have a0 := h 0 (by omega)
  have a1 := h 1 (by omega)
  simp [h0] at a0 a1
  intro j hj
  obtain rfl | rfl : j = 0 ∨ j = 1 := by omega
  all_goals first | assumption | grind
 ·by_cases h1 : k = 1
  ·simp only [aFD h1] at h ⊢
   have a0 := h 0 (by omega)
   have a1 := h 1 (by omega)
   have a2 := h 2 (by omega)
   have a3 := h 3 (by omega)
   simp [h1] at a0 a1 a2 a3
   intro j hj
   obtain rfl | rfl | rfl | rfl : j = 0 ∨ j = 1 ∨ j = 2 ∨ j = 3 := by omega
   all_goals first | assumption | grind
  ·simp only [aFJ h0 h1] at h ⊢
   have a0 := h 0 (by omega)
   have a1 := h 1 (by omega)
   have a2 := h 2 (by omega)
   have a3 := h 3 (by omega)
   have a4 := h 4 (by omega)
   have a5 := h 5 (by omega)
   simp [h0, h1] at a0 a1 a2 a3 a4 a5
   intro j hj
   obtain rfl | rfl | rfl | rfl | rfl | rfl : j = 0 ∨ j = 1 ∨ j = 2 ∨ j = 3 ∨ j = 4 ∨ j = 5 := by omega
   all_goals first | assumption | grind
theorem tuZs {k : Nat} (z : Nat → Rat) (h : ∀ j, j < kU k → tuS k z j = 0) : ∀ j, j < kU k → z j = 0 := by
 unfold tuS at h
 by_cases h0 : k = 0
 ·simp only [aJF h0] at h ⊢
  have a0 := h 0 (by omega)
  have a1 := h 1 (by omega)
  simp [h0] at a0 a1
  intro j hj
  obtain rfl | rfl : j = 0 ∨ j = 1 := by omega
  all_goals first | assumption | grind
 ·by_cases h1 : k = 1
  ·simp only [aFD h1] at h ⊢
   have a0 := h 0 (by omega)
   have a1 := h 1 (by omega)
   have a2 := h 2 (by omega)
   have a3 := h 3 (by omega)
   simp [h1] at a0 a1 a2 a3
   intro j hj
   obtain rfl | rfl | rfl | rfl : j = 0 ∨ j = 1 ∨ j = 2 ∨ j = 3 := by omega
   all_goals first | assumption | grind
  ·simp only [aFJ h0 h1] at h ⊢
   have a0 := h 0 (by omega)
   have a1 := h 1 (by omega)
   have a2 := h 2 (by omega)
   have a3 := h 3 (by omega)
   have a4 := h 4 (by omega)
   have a5 := h 5 (by omega)
   simp [h0, h1] at a0 a1 a2 a3 a4 a5
   intro j hj
   obtain rfl | rfl | rfl | rfl | rfl | rfl : j = 0 ∨ j = 1 ∨ j = 2 ∨ j = 3 ∨ j = 4 ∨ j = 5 := by omega
   all_goals first | assumption | grind
def aSZ (k : Nat) : MovL k jZ where
 T := tuT k
 S := tuS k
 U := tuT k
 Tk := fun z s h => by
  unfold F1 F2 at *
  unfold tuT jZ
  by_cases h0 : k = 0
  ·simp [h0] at h ⊢
   constructor <;> grind
  ·by_cases h1 : k = 1
   ·simp [h1, Rat.intCast_neg] at h ⊢
    constructor <;> grind
   ·simp [h0, h1, Rat.intCast_neg] at h ⊢
    constructor <;> grind
 Sk := fun z s h => by
  unfold F1 F2 jZ at *
  unfold tuS
  by_cases h0 : k = 0
  ·simp [h0] at h ⊢
   constructor <;> grind
  ·by_cases h1 : k = 1
   ·simp [h1, Rat.intCast_neg] at h ⊢
    constructor <;> grind
   ·simp [h0, h1, Rat.intCast_neg] at h ⊢
    constructor <;> grind
 Tz := tuZ
 Sz := tuZs
 Ue := fun z s h => by
  unfold er1 er2 F1 F2 db1 db2 at *
  unfold tuT jZ
  by_cases h0 : k = 0
  ·simp [h0, Rat.intCast_sub, Rat.intCast_neg] at h ⊢
   constructor <;> grind
  ·by_cases h1 : k = 1
   ·simp [h1, Rat.intCast_neg] at h ⊢
    constructor <;> grind
   ·simp [h0, h1, Rat.intCast_neg] at h ⊢
    constructor <;> grind
 Um := fun z s => by
  unfold er1 er2 F1 F2 db1 db2
  unfold tuT jZ
  by_cases h0 : k = 0
  ·simp [h0, Rat.intCast_sub, Rat.intCast_neg]
   grind
  ·by_cases h1 : k = 1
   ·simp [h1, Rat.intCast_neg]
    grind
   ·simp [h0, h1, Rat.intCast_neg]
    grind
 Ud := fun z => by
  unfold aCK tuT
  by_cases h0 : k = 0
  ·simp [h0]
  ·by_cases h1 : k = 1
   ·simp [h1]
   ·simp [h0, h1]
    constructor <;> intro h <;> grind
end
end Go.Proofs.YtjbhdfpjnjedhaaGreat
