/- Chapter 29, plain: pairs, the maps that they determine, by how much a map misses a pair, samples. Ranks, plain: the kernel of a reduced matrix; systems with more unknowns than equations; ranks compared by kernels. Kernels and systems, plain: the canonical basis of the kernel, what it spans; when a system has a solution, and which one is returned. Chapter 29, plain: least squares. Chapter 29, plain: the equations of pairs, and by how much a map of a kind's form misses them. matrix: Echelon, Rank, Null. -/
import Derived.Test.YtjbhdfpjnjedhaaGreatZqax
import Derived.Test.YtjbhdfpjnjedhaaGreatZqaw
set_option linter.unusedSimpArgs false
set_option linter.unusedVariables false
set_option maxRecDepth 100000
set_option maxHeartbeats 4000000
namespace Go.Proofs.YtjbhdfpjnjedhaaGreat
open Go Go.Fx
structure Q4 where
 x : Int
 y : Int
 u : Int
 v : Int
instance Q4.inh : Inhabited Q4 := ⟨⟨0, 0, 0, 0⟩⟩
abbrev kP (s : Q4) : List Value := [.int .i64 s.x, .int .i64 s.y, .int .i64 s.u, .int .i64 s.v]
abbrev vQ4 (s : Q4) : Value := .agg (kP s).toArray
instance Q4.szd : Sized kP 4 := ⟨fun _ => rfl⟩
def farC (a b : Int) : Prop := (a < -32768 ∨ b < -32768) ∨ 32768 < a ∨ 32768 < b
instance farC.dec (a b : Int) : Decidable (farC a b) := inferInstanceAs (Decidable ((a < -32768 ∨ b < -32768) ∨ 32768 < a ∨ 32768 < b))
def Q4.far (s : Q4) : Prop := farC s.x s.y ∨ farC s.u s.v
instance Q4.far.dec (s : Q4) : Decidable s.far := inferInstanceAs (Decidable (farC s.x s.y ∨ farC s.u s.v))
def anyFar (l : List Q4) : Prop := ∃ s ∈ l, s.far
instance anyFar.dec (l : List Q4) : Decidable (anyFar l) := inferInstanceAs (Decidable (∃ s ∈ l, s.far))
def oD (l : List Q4) : Int := if l.length = 0 then 1 else if 64 < l.length then 3 else if anyFar l then 2 else 0
structure Q4.near (s : Q4) : Prop where
 x : -32768 ≤ s.x ∧ s.x ≤ 32768
 y : -32768 ≤ s.y ∧ s.y ≤ 32768
 u : -32768 ≤ s.u ∧ s.u ≤ 32768
 v : -32768 ≤ s.v ∧ s.v ≤ 32768
theorem Q4.near_of {s : Q4} (h : ¬ s.far) : s.near := by
 unfold Q4.far farC at h
 refine ⟨?_, ?_, ?_, ?_⟩ <;> omega
theorem zW {l : List Q4} (h : oD l = 0) : (1 ≤ l.length ∧ l.length ≤ 64) ∧ ∀ s ∈ l, s.near := by
 unfold oD at h
 split at h
 ·omega
 ·split at h
  ·omega
  ·split at h
   ·omega
   ·rename_i h1 h2 h3
    exact ⟨by omega, fun s hs => Q4.near_of (fun e => h3 ⟨s, hs, e⟩)⟩
def cz (l : List Int) : List Rat := l.map (fun x : Int => (x : Rat))
def dr1 (k : Nat) (s : Q4) : List Int := if k = 0 then [1, 0] else if k = 1 then [s.x, -s.y, 1, 0] else [s.x, s.y, 1, 0, 0, 0]
def dr2 (k : Nat) (s : Q4) : List Int := if k = 0 then [0, 1] else if k = 1 then [s.y, s.x, 0, 1] else [0, 0, 0, s.x, s.y, 1]
def db1 (k : Nat) (s : Q4) : Int := if k = 0 then s.u - s.x else s.u
def db2 (k : Nat) (s : Q4) : Int := if k = 0 then s.v - s.y else s.v
def kU (k : Nat) : Nat := if k = 0 then 2 else if k = 1 then 4 else 6
def xE (k : Nat) (l : List Q4) : Mt := l.flatMap (fun s => [cz (dr1 k s), cz (dr2 k s)])
def dsB (k : Nat) (l : List Q4) : List Rat := l.flatMap (fun s => [(db1 k s : Rat), (db2 k s : Rat)])
def frm (k : Nat) (x : List Rat) : Mt :=
 if k = 0 then [[1, 0, x.getD 0 0], [0, 1, x.getD 1 0], [0, 0, 1]]
 else if k = 1 then [[x.getD 0 0, -x.getD 1 0, x.getD 2 0], [x.getD 1 0, x.getD 0 0, x.getD 3 0], [0, 0, 1]]
 else [[x.getD 0 0, x.getD 1 0, x.getD 2 0], [x.getD 3 0, x.getD 4 0, x.getD 5 0], [0, 0, 1]]
def nrN (R C : Nat) (A : Mt) : Mt := mkM C C (fun i j => sm R (fun t => at2 A t i * at2 A t j))
def nrB (R C : Nat) (A : Mt) (b : List Rat) : List Rat := (List.range C).map (fun i => sm R (fun t => at2 A t i * b.getD t 0))
def lsX (R C : Nat) (A : Mt) (b : List Rat) : List Rat := (List.range C).map (fun i => sm C (fun t => at2 (aAB C (nrN R C A)) i t * (nrB R C A b).getD t 0))
def qK (k : Nat) (l : List Q4) : List Rat := lsX (2 * l.length) (kU k) (xE k l) (dsB k l)
def qI (k : Nat) (l : List Q4) : Rat := dt (kU k) (at2 (nrN (2 * l.length) (kU k) (xE k l)))
def mE (k : Nat) (l : List Q4) : Option Mt := if l = [] then none else if qI k l = 0 then none else if dt 3 (at2 (frm k (qK k l))) = 0 then none else some (frm k (qK k l))
def oU (m : Mt) (i : Nat) (s : Q4) : Rat := at2 m i 0 * (s.x : Rat) + at2 m i 1 * (s.y : Rat) + at2 m i 2
def aJP (m : Mt) (s : Q4) : Rat := oU m 0 s / oU m 2 s - (s.u : Rat)
def aJC (m : Mt) (s : Q4) : Rat := oU m 1 s / oU m 2 s - (s.v : Rat)
def tO (m : Mt) (s : Q4) : Rat := aJP m s * aJP m s + aJC m s * aJC m s
def okQ (m : Mt) (tol : Int) (s : Q4) : Prop := oU m 2 s ≠ 0 ∧ tO m s ≤ (tol : Rat)
instance okQ.dec (m : Mt) (tol : Int) (s : Q4) : Decidable (okQ m tol s) := inferInstanceAs (Decidable (oU m 2 s ≠ 0 ∧ tO m s ≤ (tol : Rat)))
def aFT (m : Mt) (l : List Q4) (tol : Int) : Nat → List Int
 | 0 => []
 | n + 1 => if okQ m tol (gt l (n : Int)) then aFT m l tol n ++ [(n : Int)] else aFT m l tol n
def kF (m : Mt) (l : List Q4) (tol : Int) : List Int := aFT m l tol l.length
theorem uI {m : Mt} {l : List Q4} {tol : Int} : ∀ {n : Nat}, (aFT m l tol n).length ≤ n
 | 0 => Nat.le_refl _
 | n + 1 => by
  have ih := uI (m := m) (l := l) (tol := tol) (n := n)
  unfold aFT
  split
  ·simp; exact ih
  ·omega
def nE (l : List Q4) (smp : List Int) : List Q4 := smp.map (fun i => gt l i)
def zK (n : Nat) : Nat → Nat → List (List Int)
 | 0, _ => [[]]
 | k + 1, a => (List.range (n - a)).flatMap (fun j => (zK n k (a + j + 1)).map (fun l => ((a + j : Nat) : Int) :: l))
def yF (n k a m : Nat) : List (List Int) := (List.range m).flatMap (fun j => (zK n k (a + j + 1)).map (fun l => ((a + j : Nat) : Int) :: l))
theorem aCE {n k a : Nat} : zK n (k + 1) a = yF n k a (n - a) := rfl
theorem aNL {n k a : Nat} : yF n k a 0 = [] := rfl
theorem aDR {n k a m : Nat} : yF n k a (m + 1) = yF n k a m ++ (zK n k (a + m + 1)).map (fun l => ((a + m : Nat) : Int) :: l) := by
 unfold yF
 rw [List.range_succ, List.flatMap_append]
 simp
theorem aKJ {n : Nat} : ∀ {k a : Nat}, n < a + (k + 1) → zK n (k + 1) a = []
 | 0, a, h => by
  rw [aCE, show n - a = 0 by omega]; rfl
 | k + 1, a, h => by
  rw [aCE]
  unfold yF
  rw [List.flatMap_eq_nil_iff]
  intro j hj
  rw [aKJ (k := k) (a := a + j + 1) (by omega)]
  rfl
theorem aOY {n k a m : Nat} (hm : n < a + m + (k + 1)) (hle : m ≤ n - a) : yF n k a m = zK n (k + 1) a := by
 rw [aCE]
 by_cases hna : n ≤ a
 ·rw [show n - a = 0 by omega, show m = 0 by omega]
 have h : ∀ d, yF n k a (m + d) = yF n k a m ∨ n < a + m + d := by
  intro d
  induction d with
  | zero => exact .inl rfl
  | succ d ih =>
   by_cases h : n < a + m + (d + 1)
   ·exact .inr (by omega)
   rcases ih with ih | ih
   ·refine .inl ?_
    rw [← Nat.add_assoc, aDR, ih]
    cases k with
    | zero => omega
    | succ k => rw [aKJ (by omega)]; simp
   ·omega
 rcases h (n - a - m) with h | h
 ·rw [show n - a = m + (n - a - m) by omega, h]
 ·omega
structure SmpP (n k a : Nat) (l : List Int) : Prop where
 len : l.length = k
 lt : ∀ x ∈ l, (a : Int) ≤ x ∧ x < n
 asc : l.Pairwise (· < ·)
theorem aEU {n : Nat} : ∀ {k a : Nat} {l : List Int}, l ∈ zK n k a → SmpP n k a l
 | 0, a, l, h => by
  rw [show zK n 0 a = [[]] from rfl, List.mem_singleton] at h
  subst h
  exact ⟨rfl, fun x hx => absurd hx List.not_mem_nil, List.Pairwise.nil⟩
 | k + 1, a, l, h => by
  unfold zK at h
  obtain ⟨j, hj, h⟩ := List.mem_flatMap.1 h
  obtain ⟨r, hr, rfl⟩ := List.mem_map.1 h
  have hj' := List.mem_range.1 hj
  have ih := aEU hr
  refine ⟨by simp [ih.len], fun x hx => ?_, List.pairwise_cons.2 ⟨fun x hx => ?_, ih.asc⟩⟩
  ·rcases List.mem_cons.1 hx with rfl | hx
   ·omega
   ·have := ih.lt x hx; omega
  ·have := ih.lt x hx; omega
def zB (mdl : List Int → Option Mt) (inl : Mt → List Int) (o : Option (List Int × List Int × Mt)) (l : List Int) : Option (List Int × List Int × Mt) :=
 match mdl l with
 | none => o
 | some m => match o with
  | none => some (l, inl m, m)
  | some f => if f.2.1.length < (inl m).length then some (l, inl m, m) else o
def mK (mdl : List Int → Option Mt) (inl : Mt → List Int) (ls : List (List Int)) : Option (List Int × List Int × Mt) := ls.foldl (zB mdl inl) none
theorem vL {mdl : List Int → Option Mt} {inl : Mt → List Int} {ls : List (List Int)} {l : List Int} : mK mdl inl (ls ++ [l]) = zB mdl inl (mK mdl inl ls) l := by
 unfold mK
 rw [List.foldl_append]
 rfl
theorem aAH {mdl : List Int → Option Mt} {inl : Mt → List Int} : ∀ (ls done : List (List Int)) (o : Option (List Int × List Int × Mt)), (∀ f, o = some f → f.1 ∈ done ∧ mdl f.1 = some f.2.2 ∧ f.2.1 = inl f.2.2) →
  ∀ f, ls.foldl (zB mdl inl) o = some f → f.1 ∈ done ++ ls ∧ mdl f.1 = some f.2.2 ∧ f.2.1 = inl f.2.2
 | [], done, o, h, f, hf => by
  obtain ⟨a, b, c⟩ := h f hf
  exact ⟨by simpa using a, b, c⟩
 | l :: ls, done, o, h, f, hf => by
  have := aAH ls (done ++ [l]) (zB mdl inl o l) (fun g hg => by
   unfold zB at hg
   split at hg
   ·obtain ⟨a, b, c⟩ := h g hg
    exact ⟨List.mem_append_left _ a, b, c⟩
   ·rename_i m hm
    split at hg
    ·injection hg with hg; subst hg; exact ⟨by simp, hm, rfl⟩
    ·split at hg
     ·injection hg with hg; subst hg; exact ⟨by simp, hm, rfl⟩
     ·obtain ⟨a, b, c⟩ := h g hg
      exact ⟨List.mem_append_left _ a, b, c⟩) f hf
  simpa using this
theorem yA {mdl : List Int → Option Mt} {inl : Mt → List Int} {ls : List (List Int)} {f : List Int × List Int × Mt} (h : mK mdl inl ls = some f) : f.1 ∈ ls ∧ mdl f.1 = some f.2.2 ∧ f.2.1 = inl f.2.2 := by
 have := aAH (mdl := mdl) (inl := inl) ls [] none (fun f h => by cases h) f h
 simpa using this
end Go.Proofs.YtjbhdfpjnjedhaaGreat
namespace Go.Proofs.YtjbhdfpjnjedhaaGreat
open Go Go.Fx
def qE (pv : List Nat) (z : Nat → Rat) : Nat → Rat := fun j => if j ∈ pv then 0 else z j
theorem qG {pv : List Nat} {i : Nat} (h : i < pv.length) : pv.getD i 0 = pv[i] := by simp [List.getD, h]
theorem mW {pv : List Nat} {j : Nat} : j ∈ pv ↔ ∃ t, t < pv.length ∧ pv.getD t 0 = j := by
 rw [List.mem_iff_getElem]
 constructor
 ·rintro ⟨t, ht, e⟩; exact ⟨t, ht, by simp [List.getD, ht, e]⟩
 ·rintro ⟨t, ht, e⟩; exact ⟨t, ht, by simpa [List.getD, ht] using e⟩
theorem Red.piv_lt {R C j : Nat} {f0 f : Nat → Nat → Rat} {pv : List Nat} {s : Rat} (h : Red R C j f0 f pv s) {t : Nat} (ht : t < pv.length) : pv.getD t 0 < j := (h.inc t ht).1
theorem Red.piv_inj {R C j : Nat} {f0 f : Nat → Nat → Rat} {pv : List Nat} {s : Rat} (h : Red R C j f0 f pv s) {t u : Nat} (ht : t < pv.length) (hu : u < pv.length) (e : pv.getD t 0 = pv.getD u 0) : t = u := by
 rcases Nat.lt_trichotomy t u with l | l | l
 ·have := (h.inc u hu).2.2 t l; omega
 ·exact l
 ·have := (h.inc t ht).2.2 u l; omega
theorem Red.row {R C : Nat} {f0 f : Nat → Nat → Rat} {pv : List Nat} {s : Rat} (h : Red R C C f0 f pv s) {t : Nat} (ht : t < pv.length) (z : Nat → Rat) : sm C (fun j => f t j * z j) = z (pv.getD t 0) + sm C (fun j => f t j * qE pv z j) := by
 have hR := h.len
 have h1 : sm C (fun j => f t j * z j) = sm C (fun j => (f t j * z j - f t j * qE pv z j) + f t j * qE pv z j) := aW (fun j _ => by grind)
 rw [h1, aEZ]
 congr 1
 rw [nP (p := pv.getD t 0) (h.piv_lt ht) (fun j hj hne => ?_)]
 ·have hm : pv.getD t 0 ∈ pv := mW.2 ⟨t, ht, rfl⟩
  rw [h.unit t t ht (by omega)]
  simp only [qE, if_pos hm, nG, if_true]; grind
 ·by_cases hm : j ∈ pv
  ·obtain ⟨u, hu, rfl⟩ := mW.1 hm
   have : t ≠ u := fun e => hne (by rw [e])
   rw [h.unit u t hu (by omega)]
   simp only [nG, if_neg this]; grind
  ·simp only [qE, if_neg hm]; grind
theorem Red.kerE {R C : Nat} {f0 f : Nat → Nat → Rat} {pv : List Nat} {s : Rat} (h : Red R C C f0 f pv s) (z : Nat → Rat) : Go.Proofs.YtjbhdfpjnjedhaaGreat.ker R C f0 z ↔ ∀ t, t < pv.length → z (pv.getD t 0) + sm C (fun j => f t j * qE pv z j) = 0 := by
 rw [← h.ker z]
 constructor
 ·intro hk t ht
  rw [← h.row ht z]; exact hk t (by have := h.len; omega)
 ·intro hk i hi
  by_cases e : i < pv.length
  ·rw [h.row e z]; exact hk i e
  ·exact kK (fun j hj => by rw [h.zero i j (by omega) hi hj]; grind)
theorem hom {m n : Nat} (g : Nat → Nat → Rat) (hmn : m < n) : ∃ w : Nat → Rat, (∀ e, e < m → sm n (fun u => g e u * w u) = 0) ∧ ∃ u, u < n ∧ w u ≠ 0 := by
 obtain ⟨_, s, h⟩ := lS (A := (List.range m).map (fun i => (List.range n).map (g i))) (R := m) (C := n) ⟨by simp, fun i hi => by simp [rowAt, List.getD, hi]⟩ n (Nat.le_refl _)
 generalize qM ((List.range m).map (fun i => (List.range n).map (g i))) n = st at h
 obtain ⟨E, pv⟩ := st
 simp only at h
 have hg : ∀ i j, i < m → j < n → at2 ((List.range m).map (fun i => (List.range n).map (g i))) i j = g i j := fun i j hi hj => by simp [at2, rowAt, List.getD, hi, hj]
 have hlen := h.len
 -- a free place
 have hfree : ∃ j, j < n ∧ j ∉ pv := by
  refine Classical.byContradiction (fun hno => ?_)
  have hall : ∀ j, j < n → j ∈ pv := fun j hj => Classical.byContradiction (fun hn => hno ⟨j, hj, hn⟩)
  have : (List.range n).length ≤ pv.length := by
   have hsub : ∀ x ∈ List.range n, x ∈ pv := fun x hx => hall x (List.mem_range.1 hx)
   exact List.Nodup.length_le_of_subset List.nodup_range hsub
  simp at this; omega
 obtain ⟨j, hj, hjp⟩ := hfree
 refine ⟨fun c => if c ∈ pv then - at2 E (pv.idxOf c) j else if c = j then 1 else 0, ?_, j, hj, by simp only [if_neg hjp, if_true]; decide⟩
 have hk : ker m n (at2 ((List.range m).map (fun i => (List.range n).map (g i)))) (fun c => if c ∈ pv then - at2 E (pv.idxOf c) j else if c = j then 1 else 0) := by
  rw [h.kerE]
  intro t ht
  have hm : pv.getD t 0 ∈ pv := mW.2 ⟨t, ht, rfl⟩
  have hidx : pv.idxOf (pv.getD t 0) = t := by
   have h1 : pv.idxOf (pv.getD t 0) < pv.length := List.idxOf_lt_length_of_mem hm
   refine h.piv_inj h1 ht ?_
   have := List.getElem_idxOf h1
   exact (qG h1).trans this
  simp only [if_pos hm, hidx]
  rw [nP (p := j) hj (fun c hc hne => ?_)]
  ·simp only [qE, if_neg hjp, if_true]; grind
  ·simp only [qE]
   by_cases e : c ∈ pv
   ·rw [if_pos e]; grind
   ·rw [if_neg e, if_neg e, if_neg hne]; grind
 intro e he
 refine Eq.trans (aW (fun u hu => ?_)) (hk e he)
 rw [hg e u he hu]
theorem aWC {R C n : Nat} {f : Nat → Nat → Rat} {Z : Nat → Nat → Rat} {d : Nat → Rat} (h : ∀ i, i < n → ker R C f (Z i)) : ker R C f (fun j => sm n (fun i => d i * Z i j)) := fun t ht => by
 have h1 : sm C (fun j => f t j * sm n (fun i => d i * Z i j)) = sm C (fun j => sm n (fun i => d i * (f t j * Z i j))) := aW (fun j _ => by rw [← jN]; exact aW (fun i _ => by grind))
 rw [h1, qY]
 exact kK (fun i hi => by rw [jN, h i hi t ht]; grind)
theorem aST {R C : Nat} {f : Nat → Nat → Rat} {x y : Nat → Rat} {c d : Rat} (hx : ker R C f x) (hy : ker R C f y) : ker R C f (fun j => c * x j + d * y j) := fun t ht => by
 have : ∀ j, f t j * (c * x j + d * y j) = c * (f t j * x j) + d * (f t j * y j) := fun j => by grind
 simp only [this]
 rw [aBH, hx t ht, hy t ht]; grind
theorem Red.count {R C m k : Nat} {f0 f : Nat → Nat → Rat} {pv : List Nat} {s : Rat} (h : Red R C C f0 f pv s) (g : Nat → Nat → Rat) (Z : Nat → Nat → Rat)
  (hg : ∀ z, Go.Proofs.YtjbhdfpjnjedhaaGreat.ker m C g z → Go.Proofs.YtjbhdfpjnjedhaaGreat.ker R C f0 z) (hZ : ∀ i, i < k → Go.Proofs.YtjbhdfpjnjedhaaGreat.ker R C f0 (Z i))
  (hi : ∀ d : Nat → Rat, Go.Proofs.YtjbhdfpjnjedhaaGreat.ker m C g (fun j => sm k (fun i => d i * Z i j)) → ∀ i, i < k → d i = 0) : pv.length + k ≤ m := by
 refine Classical.byContradiction (fun hlt => ?_)
 obtain ⟨p, hp⟩ : ∃ p, p = pv.length := ⟨_, rfl⟩
 rw [← hp] at hlt
 obtain ⟨w, hw, u, hu, hwu⟩ := hom (m := m) (n := p + k) (fun e u => if u < p then g e (pv.getD u 0) else sm C (fun j => g e j * Z (u - p) j)) (by omega)
 -- the vector
 obtain ⟨x, hx⟩ : ∃ x : Nat → Rat, x = fun j => sm p (fun t => w t * nG (pv.getD t 0) j) := ⟨_, rfl⟩
 obtain ⟨y, hy⟩ : ∃ y : Nat → Rat, y = fun j => sm k (fun i => w (p + i) * Z i j) := ⟨_, rfl⟩
 have kx : ∀ e, sm C (fun j => g e j * x j) = sm p (fun t => g e (pv.getD t 0) * w t) := fun e => by
  have h1 : sm C (fun j => g e j * x j) = sm C (fun j => sm p (fun t => w t * (g e j * nG (pv.getD t 0) j))) := aW (fun j _ => by rw [hx, ← jN]; exact aW (fun i _ => by grind))
  rw [h1, qY]
  refine aW (fun t ht => ?_)
  rw [jN, nP (p := pv.getD t 0) (h.piv_lt (by omega)) (fun j _ hne => by simp only [nG]; rw [if_neg (fun e => hne e.symm)]; grind)]
  simp only [nG, if_true]; grind
 have ky : ∀ e, sm C (fun j => g e j * y j) = sm k (fun i => sm C (fun j => g e j * Z i j) * w (p + i)) := fun e => by
  have h1 : sm C (fun j => g e j * y j) = sm C (fun j => sm k (fun i => w (p + i) * (g e j * Z i j))) := aW (fun j _ => by rw [hy, ← jN]; exact aW (fun i _ => by grind))
  rw [h1, qY]
  exact aW (fun i _ => by rw [jN]; grind)
 have kg : Go.Proofs.YtjbhdfpjnjedhaaGreat.ker m C g (fun j => 1 * x j + 1 * y j) := fun e he => by
  have : ∀ j, g e j * (1 * x j + 1 * y j) = 1 * (g e j * x j) + 1 * (g e j * y j) := fun j => by grind
  simp only [this]
  rw [aBH, kx, ky]
  have := hw e he
  rw [wE, aW (n := p) (g := fun t => g e (pv.getD t 0) * w t) (fun t ht => by rw [if_pos ht]), aW (n := k) (g := fun i => sm C (fun j => g e j * Z i j) * w (p + i)) (fun t _ => by rw [if_neg (by omega), Nat.add_sub_cancel_left])] at this
  grind
 have ky0 : Go.Proofs.YtjbhdfpjnjedhaaGreat.ker R C f0 y := by rw [hy]; exact aWC (d := fun i => w (p + i)) hZ
 have kx0 : Go.Proofs.YtjbhdfpjnjedhaaGreat.ker R C f0 x := by
  have h1 := aST (c := 1) (d := -1) (hg _ kg) ky0
  have e : (fun j => 1 * (1 * x j + 1 * y j) + -1 * y j) = x := by funext j; grind
  rwa [e] at h1
 have hx0 : ∀ t, t < p → x (pv.getD t 0) = w t := fun t ht => by
  rw [hx]
  show sm p (fun u => w u * nG (pv.getD u 0) (pv.getD t 0)) = _
  rw [nP (p := t) ht (fun u hu hne => by simp only [nG]; rw [if_neg (fun e => hne (h.piv_inj (by omega) (by omega) e))]; grind)]
  simp only [nG, if_true]; grind
 have hoff : ∀ j, qE pv x j = 0 := fun j => by
  unfold qE
  by_cases e : j ∈ pv
  ·rw [if_pos e]
  ·rw [if_neg e, hx]
   exact kK (fun t ht => by simp only [nG]; rw [if_neg (fun e' => e (mW.2 ⟨t, by omega, e'⟩))]; grind)
 have hw0 : ∀ t, t < p → w t = 0 := fun t ht => by
  have := (h.kerE x).1 kx0 t (by omega)
  rw [hx0 t ht, kK (fun j _ => by rw [hoff j]; grind)] at this
  grind
 have hxz : ∀ j, x j = 0 := fun j => by rw [hx]; exact kK (fun t ht => by rw [hw0 t ht]; grind)
 have kgy : Go.Proofs.YtjbhdfpjnjedhaaGreat.ker m C g (fun j => sm k (fun i => w (p + i) * Z i j)) := by
  have e : (fun j => 1 * x j + 1 * y j) = (fun j => sm k (fun i => w (p + i) * Z i j)) := by funext j; rw [hxz j, hy]; grind
  rwa [e] at kg
 have hd := hi (fun i => w (p + i)) kgy
 by_cases e : u < p
 ·exact hwu (hw0 u e)
 ·have := hd (u - p) (by omega)
  rw [show p + (u - p) = u by omega] at this
  exact hwu this
theorem Red.kerP {R C : Nat} {f0 f : Nat → Nat → Rat} {pv : List Nat} {s : Rat} (h : Red R C C f0 f pv s) (z : Nat → Rat) : Go.Proofs.YtjbhdfpjnjedhaaGreat.ker pv.length C f z ↔ Go.Proofs.YtjbhdfpjnjedhaaGreat.ker R C f0 z := by
 rw [h.kerE]
 constructor
 ·intro hk t ht; rw [← h.row ht z]; exact hk t ht
 ·intro hk t ht; rw [h.row ht z]; exact hk t ht
section
variable {R C R' : Nat} {f0 f g0 g : Nat → Nat → Rat} {pv qv : List Nat} {s s' : Rat}
theorem Red.le (h : Red R C C f0 f pv s) (h' : Red R' C C g0 g qv s') (hk : ∀ z, Go.Proofs.YtjbhdfpjnjedhaaGreat.ker R' C g0 z → Go.Proofs.YtjbhdfpjnjedhaaGreat.ker R C f0 z) : pv.length ≤ qv.length := by
 have := h.count (k := 0) g (fun _ _ => 0) (fun z hz => hk z ((h'.kerP z).1 hz)) (fun i hi => by omega) (fun d _ i hi => by omega)
 omega
end
end Go.Proofs.YtjbhdfpjnjedhaaGreat
namespace Go.Proofs.YtjbhdfpjnjedhaaGreat
open Go Go.Fx
def uH (f : Nat → Nat → Rat) (pv : List Nat) (j c : Nat) : Rat := if c ∈ pv then - f (pv.idxOf c) j else if c = j then 1 else 0
def yJ (pv : List Nat) (C : Nat) : List Nat := (List.range C).filter (fun j => decide (j ∉ pv))
def nullV (E : Mt) (pv : List Nat) (C j : Nat) : List Rat := (List.range C).map (uH (at2 E) pv j)
def nullM (E : Mt) (pv : List Nat) (C : Nat) : Mt := (yJ pv C).map (nullV E pv C)
def aWN (A : Mt) (C : Nat) : Mt := nullM (qM A C).1 (qM A C).2 C
def rk (A : Mt) (C : Nat) : Nat := (qM A C).2.length
theorem Red.idx {R C j : Nat} {f0 f : Nat → Nat → Rat} {pv : List Nat} {s : Rat} (h : Red R C j f0 f pv s) {t : Nat} (ht : t < pv.length) : pv.idxOf (pv.getD t 0) = t := by
 have hm : pv.getD t 0 ∈ pv := mW.2 ⟨t, ht, rfl⟩
 have h1 : pv.idxOf (pv.getD t 0) < pv.length := List.idxOf_lt_length_of_mem hm
 exact h.piv_inj h1 ht ((qG h1).trans (List.getElem_idxOf h1))
theorem Red.idx_lt {pv : List Nat} {c : Nat} (hm : c ∈ pv) : pv.idxOf c < pv.length ∧ pv.getD (pv.idxOf c) 0 = c := by
 have h1 : pv.idxOf c < pv.length := List.idxOf_lt_length_of_mem hm
 exact ⟨h1, (qG h1).trans (List.getElem_idxOf h1)⟩
section
variable {R C : Nat} {f0 f : Nat → Nat → Rat} {pv : List Nat} {s : Rat}
theorem Red.null (h : Red R C C f0 f pv s) {j : Nat} (hj : j < C) (hp : j ∉ pv) : Go.Proofs.YtjbhdfpjnjedhaaGreat.ker R C f0 (uH f pv j) := by
 rw [h.kerE]
 intro t ht
 have hm : pv.getD t 0 ∈ pv := mW.2 ⟨t, ht, rfl⟩
 simp only [uH, if_pos hm, h.idx ht]
 rw [nP (p := j) hj (fun c hc hne => ?_)]
 ·simp only [qE, uH, if_neg hp, if_true]; grind
 ·simp only [qE, uH]
  by_cases e : c ∈ pv
  ·rw [if_pos e]; grind
  ·rw [if_neg e, if_neg e, if_neg hne]; grind
theorem Red.span (h : Red R C C f0 f pv s) {z : Nat → Rat} (hz : Go.Proofs.YtjbhdfpjnjedhaaGreat.ker R C f0 z) {c : Nat} (hc : c < C) : z c = sm C (fun j => qE pv z j * uH f pv j c) := by
 by_cases hm : c ∈ pv
 ·obtain ⟨h1, h2⟩ := Red.idx_lt hm
  have := (h.kerE z).1 hz _ h1
  rw [h2] at this
  have e : sm C (fun j => qE pv z j * uH f pv j c) = sm C (fun j => (-1 : Rat) * (f (pv.idxOf c) j * qE pv z j)) := aW (fun j _ => by simp only [uH, if_pos hm]; grind)
  rw [e, jN]; grind
 ·rw [nP (p := c) hc (fun j _ hne => by simp only [uH, if_neg hm, if_neg (show ¬ c = j from fun e => hne e.symm)]; grind)]
  simp only [qE, uH, if_neg hm, if_true]; grind
theorem Red.nodup (h : Red R C C f0 f pv s) : pv.Nodup := by
 rw [List.nodup_iff_pairwise_ne, List.pairwise_iff_getElem]
 intro i j hi hj hij e
 have := h.piv_inj (t := i) (u := j) hi hj (by rw [qG hi, qG hj]; exact e)
 omega
theorem aAJ (p : Nat → Bool) : ∀ l : List Nat, (l.filter p).length + (l.filter (fun x => !p x)).length = l.length
 | [] => rfl
 | x :: l => by
  have ih := aAJ p l
  rw [List.filter_cons, List.filter_cons, List.length_cons]
  cases p x <;> simp <;> omega
theorem Red.free_len (h : Red R C C f0 f pv s) : (yJ pv C).length + pv.length = C := by
 have h1 : ((List.range C).filter (fun j => decide (j ∉ pv))).length + ((List.range C).filter (fun j => !decide (j ∉ pv))).length = C := by
  have := aAJ (fun j => decide (j ∉ pv)) (List.range C)
  rw [List.length_range] at this; omega
 have h2 : ((List.range C).filter (fun j => !decide (j ∉ pv))).length = pv.length := by
  apply Nat.le_antisymm
  ·refine List.Nodup.length_le_of_subset (List.Pairwise.filter _ List.nodup_range) (fun x hx => ?_)
   have := (List.mem_filter.1 hx).2
   simpa using this
  ·refine List.Nodup.length_le_of_subset h.nodup (fun x hx => ?_)
   obtain ⟨t, ht, rfl⟩ := mW.1 hx
   refine List.mem_filter.2 ⟨List.mem_range.2 (h.piv_lt ht), by simpa using hx⟩
 unfold yJ
 omega
theorem aHF {pv : List Nat} {C j : Nat} : j ∈ yJ pv C ↔ j < C ∧ j ∉ pv := by
 unfold yJ
 rw [List.mem_filter, List.mem_range]
 simp
end
/- systems: the right side is the column C of a wider matrix -/
section
variable {R C W : Nat} {f0 f : Nat → Nat → Rat} {pv : List Nat} {s : Rat}
def solF (f : Nat → Nat → Rat) (pv : List Nat) (C c : Nat) : Rat := if c ∈ pv then f (pv.idxOf c) C else 0
def aRX (R C : Nat) (f : Nat → Nat → Rat) (pv : List Nat) : Prop := ∀ i, pv.length ≤ i → i < R → f i C = 0
def aGM (C : Nat) (x : Nat → Rat) (y : Rat) : Nat → Rat := fun j => if j < C then x j else if j = C then y else 0
theorem zQ {C W : Nat} (hW : C < W) {g x : Nat → Rat} {y : Rat} : sm W (fun j => g j * aGM C x y j) = sm C (fun j => g j * x j) + g C * y := by
 obtain ⟨d, rfl⟩ : ∃ d, W = C + 1 + d := ⟨W - (C + 1), by omega⟩
 rw [wE]
 have h1 : sm (C + 1) (fun j => g j * aGM C x y j) = sm C (fun j => g j * x j) + g C * y := by
  simp only [sm]
  rw [aW (n := C) (g := fun j => g j * x j) (fun j hj => by simp only [aGM, if_pos hj])]
  simp only [aGM, Nat.lt_irrefl, if_false, if_true]
 have h2 : sm d (fun k => g (C + 1 + k) * aGM C x y (C + 1 + k)) = 0 := kK (fun k _ => by
  simp only [aGM, if_neg (show ¬ C + 1 + k < C by omega), if_neg (show ¬ C + 1 + k = C by omega)]; grind)
 rw [h1, h2]; grind
theorem Red.rowC (h : Red R W C f0 f pv s) {t : Nat} (ht : t < pv.length) (x : Nat → Rat) : sm C (fun j => f t j * x j) = x (pv.getD t 0) + sm C (fun j => f t j * qE pv x j) := by
 have hR := h.len
 have h1 : sm C (fun j => f t j * x j) = sm C (fun j => (f t j * x j - f t j * qE pv x j) + f t j * qE pv x j) := aW (fun j _ => by grind)
 rw [h1, aEZ]
 congr 1
 rw [nP (p := pv.getD t 0) (h.piv_lt ht) (fun j hj hne => ?_)]
 ·have hm : pv.getD t 0 ∈ pv := mW.2 ⟨t, ht, rfl⟩
  rw [h.unit t t ht (by omega)]
  simp only [qE, if_pos hm, nG, if_true]; grind
 ·by_cases hm : j ∈ pv
  ·obtain ⟨u, hu, rfl⟩ := mW.1 hm
   have : t ≠ u := fun e => hne (by rw [e])
   rw [h.unit u t hu (by omega)]
   simp only [nG, if_neg this]; grind
  ·simp only [qE, if_neg hm]; grind
theorem Red.sol (h : Red R W C f0 f pv s) (hW : C < W) (x : Nat → Rat) : (∀ i, i < R → sm C (fun j => f0 i j * x j) = f0 i C) ↔ (∀ i, i < R → sm C (fun j => f i j * x j) = f i C) := by
 have k0 : Go.Proofs.YtjbhdfpjnjedhaaGreat.ker R W f0 (aGM C x (-1)) ↔ (∀ i, i < R → sm C (fun j => f0 i j * x j) = f0 i C) := by
  unfold Go.Proofs.YtjbhdfpjnjedhaaGreat.ker
  constructor
  ·intro hk i hi; have := hk i hi; rw [zQ hW] at this; grind
  ·intro hk i hi; have := hk i hi; rw [zQ hW]; grind
 have k1 : Go.Proofs.YtjbhdfpjnjedhaaGreat.ker R W f (aGM C x (-1)) ↔ (∀ i, i < R → sm C (fun j => f i j * x j) = f i C) := by
  unfold Go.Proofs.YtjbhdfpjnjedhaaGreat.ker
  constructor
  ·intro hk i hi; have := hk i hi; rw [zQ hW] at this; grind
  ·intro hk i hi; have := hk i hi; rw [zQ hW]; grind
 exact (k0.symm.trans (h.ker _).symm).trans k1
theorem Red.sol_x (h : Red R W C f0 f pv s) (hW : C < W) (ok : aRX R C f pv) : ∀ i, i < R → sm C (fun j => f0 i j * solF f pv C j) = f0 i C := by
 rw [h.sol hW]
 intro i hi
 by_cases e : i < pv.length
 ·rw [h.rowC e]
  have hm : pv.getD i 0 ∈ pv := mW.2 ⟨i, e, rfl⟩
  rw [kK (fun j _ => by
   simp only [qE, solF]
   by_cases hj : j ∈ pv
   ·rw [if_pos hj]; grind
   ·rw [if_neg hj, if_neg hj]; grind)]
  simp only [solF, if_pos hm, h.idx e]; grind
 ·rw [kK (fun j hj => by rw [h.zero i j (by omega) hi hj]; grind), ok i (by omega) hi]
theorem Red.sol_iff (h : Red R W C f0 f pv s) (hW : C < W) : aRX R C f pv ↔ ∃ x : Nat → Rat, ∀ i, i < R → sm C (fun j => f0 i j * x j) = f0 i C := by
 constructor
 ·intro ok; exact ⟨_, h.sol_x hW ok⟩
 ·rintro ⟨x, hx⟩ i hp hi
  have := (h.sol hW x).1 hx i hi
  rw [← this]
  exact kK (fun j hj => by rw [h.zero i j hp hi hj]; grind)
end
end Go.Proofs.YtjbhdfpjnjedhaaGreat
namespace Go.Proofs.YtjbhdfpjnjedhaaGreat
open Go Go.Fx
theorem aYP {R C : Nat} {A : Mt} {i j : Nat} (hi : i < C) (hj : j < C) : at2 (nrN R C A) i j = sm R (fun t => at2 A t i * at2 A t j) := uL hi hj
theorem aWR {R C : Nat} {A : Mt} {b : List Rat} {i : Nat} (hi : i < C) : (nrB R C A b).getD i 0 = sm R (fun t => at2 A t i * b.getD t 0) := by simp [nrB, List.getD, hi]
theorem aXT {R C : Nat} {A : Mt} {b : List Rat} {i : Nat} (hi : i < C) : (lsX R C A b).getD i 0 = sm C (fun t => at2 (aAB C (nrN R C A)) i t * (nrB R C A b).getD t 0) := by simp [lsX, List.getD, hi]
theorem aVX {R C : Nat} {A : Mt} {b : List Rat} : (lsX R C A b).length = C := by simp [lsX]
theorem aHA {n : Nat} {f g : Nat → Nat → Rat} {x : Nat → Rat} {i : Nat} : sm n (fun j => rE n f g i j * x j) = sm n (fun t => f i t * sm n (fun j => g t j * x j)) := by
 have e1 : sm n (fun j => rE n f g i j * x j) = sm n (fun j => sm n (fun t => f i t * g t j * x j)) := aW (fun j _ => by
  unfold rE
  rw [Rat.mul_comm, ← jN]
  exact aW (fun t _ => by rw [Rat.mul_comm]))
 rw [e1, qY]
 exact aW (fun t _ => by
  rw [← jN]
  exact aW (fun j _ => by rw [Rat.mul_assoc]))
theorem aRD {n i : Nat} {x : Nat → Rat} (hi : i < n) : sm n (fun j => nG i j * x j) = x i := by
 rw [nP hi (fun j _ h => by simp [nG, Ne.symm h])]
 simp [nG]
theorem aPS {R C : Nat} {A : Mt} {b : List Rat} (h : dt C (at2 (nrN R C A)) ≠ 0) {x : Nat → Rat} (hx : ∀ i, i < C → sm C (fun j => at2 (nrN R C A) i j * x j) = (nrB R C A b).getD i 0) : ∀ i, i < C → x i = (lsX R C A b).getD i 0 := by
 intro i hi
 rw [aXT hi, ← aRD (x := x) hi]
 have e : sm C (fun j => nG i j * x j) = sm C (fun j => rE C (at2 (aAB C (nrN R C A))) (at2 (nrN R C A)) i j * x j) := aW (fun j hj => by rw [(aLD h).2 i j hi hj])
 rw [e, aHA]
 exact aW (fun t ht => by rw [hx t ht])
theorem aYF {R C : Nat} {A : Mt} {x : Nat → Rat} {i : Nat} (hi : i < C) : sm C (fun j => at2 (nrN R C A) i j * x j) = sm R (fun t => at2 A t i * sm C (fun j => at2 A t j * x j)) := by
 have e1 : sm C (fun j => at2 (nrN R C A) i j * x j) = sm C (fun j => sm R (fun t => at2 A t i * (at2 A t j * x j))) := aW (fun j hj => by
  rw [aYP hi hj, Rat.mul_comm, ← jN]
  exact aW (fun t _ => by rw [Rat.mul_comm, Rat.mul_assoc]))
 rw [e1, qY]
 exact aW (fun t _ => by rw [← jN])
theorem aEG {R C : Nat} {A : Mt} {b : List Rat} {x : Nat → Rat} (h : ∀ t, t < R → sm C (fun j => at2 A t j * x j) = b.getD t 0) : ∀ i, i < C → sm C (fun j => at2 (nrN R C A) i j * x j) = (nrB R C A b).getD i 0 := by
 intro i hi
 rw [aYF hi, aWR hi]
 exact aW (fun t ht => by rw [h t ht])
def sqS (R C : Nat) (A : Mt) (b : List Rat) (x : Nat → Rat) : Rat := sm R (fun t => (sm C (fun j => at2 A t j * x j) - b.getD t 0) * (sm C (fun j => at2 A t j * x j) - b.getD t 0))
end Go.Proofs.YtjbhdfpjnjedhaaGreat
namespace Go.Proofs.YtjbhdfpjnjedhaaGreat
open Go Go.Fx
theorem gtQ {α : Type} [Inhabited α] {l : List α} {i : Nat} (h : i < l.length) : gt l (i : Int) = l[i] := by simp [gt, List.getD, h]
theorem aKL {k : Nat} {l : List Q4} : (xE k l).length = 2 * l.length := by
 unfold xE
 induction l with
 | nil => rfl
 | cons s r ih => rw [List.flatMap_cons, List.length_append, ih]; simp; omega
theorem zL {k : Nat} : ∀ {l : List Q4} {i : Nat}, i < l.length → rowAt (xE k l) (2 * i) = cz (dr1 k (gt l (i : Int))) ∧ rowAt (xE k l) (2 * i + 1) = cz (dr2 k (gt l (i : Int)))
 | s :: r, 0, _ => ⟨rfl, rfl⟩
 | s :: r, i + 1, h => by
  have ih := zL (k := k) (l := r) (i := i) (by simpa using h)
  have e1 : gt (s :: r) ((i + 1 : Nat) : Int) = gt r (i : Int) := by rw [gtQ h, gtQ (by simpa using h)]; rfl
  rw [e1, ← ih.1, ← ih.2]
  have e2 : xE k (s :: r) = cz (dr1 k s) :: cz (dr2 k s) :: xE k r := rfl
  have e3 : 2 * (i + 1) = 2 * i + 1 + 1 := by omega
  rw [e2, e3]
  exact ⟨rfl, rfl⟩
theorem xC {k : Nat} : ∀ {l : List Q4} {i : Nat}, i < l.length → (dsB k l).getD (2 * i) 0 = ((db1 k (gt l (i : Int)) : Int) : Rat) ∧ (dsB k l).getD (2 * i + 1) 0 = ((db2 k (gt l (i : Int)) : Int) : Rat)
 | s :: r, 0, _ => ⟨rfl, rfl⟩
 | s :: r, i + 1, h => by
  have ih := xC (k := k) (l := r) (i := i) (by simpa using h)
  have e1 : gt (s :: r) ((i + 1 : Nat) : Int) = gt r (i : Int) := by rw [gtQ h, gtQ (by simpa using h)]; rfl
  rw [e1, ← ih.1, ← ih.2]
  have e2 : dsB k (s :: r) = ((db1 k s : Int) : Rat) :: ((db2 k s : Int) : Rat) :: dsB k r := rfl
  have e3 : 2 * (i + 1) = 2 * i + 1 + 1 := by omega
  rw [e2, e3]
  exact ⟨rfl, rfl⟩
theorem aPE {k : Nat} {s : Q4} : (dr1 k s).length = kU k ∧ (dr2 k s).length = kU k := by
 unfold dr1 dr2 kU
 split
 ·exact ⟨rfl, rfl⟩
 ·split <;> exact ⟨rfl, rfl⟩
theorem aQZ {l : List Int} : (cz l).length = l.length := by simp [cz]
theorem aEW {k : Nat} {l : List Q4} : qP (xE k l) (2 * l.length) (kU k) := ⟨aKL, fun i hi => by
 obtain ⟨t, h | h⟩ : ∃ t, i = 2 * t ∨ i = 2 * t + 1 := ⟨i / 2, by omega⟩
 ·rw [h, (zL (by omega)).1, aQZ, aPE.1]
 ·rw [h, (zL (by omega)).2, aQZ, aPE.2]⟩
theorem aKH {k : Nat} {l : List Q4} : (dsB k l).length = 2 * l.length := by
 unfold dsB
 induction l with
 | nil => rfl
 | cons s r ih => rw [List.flatMap_cons, List.length_append, ih]; simp; omega
theorem aBC {k : Nat} {x : List Rat} {s : Q4} : oU (frm k x) 2 s = 1 := by
 unfold frm
 split
 ·show (0 : Rat) * (s.x : Rat) + 0 * (s.y : Rat) + 1 = 1
  grind
 ·split
  ·show (0 : Rat) * (s.x : Rat) + 0 * (s.y : Rat) + 1 = 1
   grind
  ·show (0 : Rat) * (s.x : Rat) + 0 * (s.y : Rat) + 1 = 1
   grind
theorem tT : ((0 : Int) : Rat) = 0 := rfl
theorem yX : ((1 : Int) : Rat) = 1 := rfl
theorem aKT {k : Nat} {x : List Rat} {s : Q4} :
  aJP (frm k x) s = sm (kU k) (fun j => (cz (dr1 k s)).getD j 0 * x.getD j 0) - ((db1 k s : Int) : Rat) ∧ aJC (frm k x) s = sm (kU k) (fun j => (cz (dr2 k s)).getD j 0 * x.getD j 0) - ((db2 k s : Int) : Rat) := by
 unfold aJP aJC
 rw [aBC]
 unfold frm dr1 dr2 db1 db2 kU
 by_cases h0 : k = 0
 ·simp only [h0, if_true]
  rw [Rat.intCast_sub, Rat.intCast_sub]
  constructor
  ·show (1 * (s.x : Rat) + 0 * (s.y : Rat) + x.getD 0 0) / 1 - (s.u : Rat) = (0 + ((1 : Int) : Rat) * x.getD 0 0 + ((0 : Int) : Rat) * x.getD 1 0) - ((s.u : Rat) - (s.x : Rat))
   rw [tT, yX]; grind
  ·show (0 * (s.x : Rat) + 1 * (s.y : Rat) + x.getD 1 0) / 1 - (s.v : Rat) = (0 + ((0 : Int) : Rat) * x.getD 0 0 + ((1 : Int) : Rat) * x.getD 1 0) - ((s.v : Rat) - (s.y : Rat))
   rw [tT, yX]; grind
 ·by_cases h1 : k = 1
  ·simp only [h1, if_true, show ¬ (1 : Nat) = 0 by omega, if_false]
   constructor
   ·show (x.getD 0 0 * (s.x : Rat) + -x.getD 1 0 * (s.y : Rat) + x.getD 2 0) / 1 - (s.u : Rat) = (0 + (s.x : Rat) * x.getD 0 0 + ((-s.y : Int) : Rat) * x.getD 1 0 + ((1 : Int) : Rat) * x.getD 2 0 + ((0 : Int) : Rat) * x.getD 3 0) - (s.u : Rat)
    rw [tT, yX, Rat.intCast_neg]; grind
   ·show (x.getD 1 0 * (s.x : Rat) + x.getD 0 0 * (s.y : Rat) + x.getD 3 0) / 1 - (s.v : Rat) = (0 + (s.y : Rat) * x.getD 0 0 + (s.x : Rat) * x.getD 1 0 + ((0 : Int) : Rat) * x.getD 2 0 + ((1 : Int) : Rat) * x.getD 3 0) - (s.v : Rat)
    rw [tT, yX]; grind
  ·simp only [h0, h1, if_false]
   constructor
   ·show (x.getD 0 0 * (s.x : Rat) + x.getD 1 0 * (s.y : Rat) + x.getD 2 0) / 1 - (s.u : Rat) = (0 + (s.x : Rat) * x.getD 0 0 + (s.y : Rat) * x.getD 1 0 + ((1 : Int) : Rat) * x.getD 2 0 + ((0 : Int) : Rat) * x.getD 3 0 + ((0 : Int) : Rat) * x.getD 4 0 + ((0 : Int) : Rat) * x.getD 5 0) - (s.u : Rat)
    rw [tT, yX]; grind
   ·show (x.getD 3 0 * (s.x : Rat) + x.getD 4 0 * (s.y : Rat) + x.getD 5 0) / 1 - (s.v : Rat) = (0 + ((0 : Int) : Rat) * x.getD 0 0 + ((0 : Int) : Rat) * x.getD 1 0 + ((0 : Int) : Rat) * x.getD 2 0 + (s.x : Rat) * x.getD 3 0 + (s.y : Rat) * x.getD 4 0 + ((1 : Int) : Rat) * x.getD 5 0) - (s.v : Rat)
    rw [tT, yX]; grind
def totQ (m : Mt) (l : List Q4) : Rat := sm l.length (fun t => tO m (gt l (t : Int)))
end Go.Proofs.YtjbhdfpjnjedhaaGreat
namespace Go.Proofs.YtjbhdfpjnjedhaaGreat
open Go Go.Fx
abbrev pvI (q : Option Addr) (pv : List Nat) : aT := aR q (recs eZ (zs pv))
def EchP (A : Mt) (R C k : Nat) (M0 : List Ent) (I0 : List aT) (v : Value) (M : List Ent) (I : List aT) : Prop :=
 M0 = M ∧ ∃ (m : MX) (pv : List Nat) (q : Option Addr) (c : Nat), v = .tuple #[mv m, .slice q pv.length c, .int .i64 0] ∧ qM A C = (m.q, pv) ∧ m.dim R C ∧ I = pvI q pv :: lT m k :: I0
def NlP (A : Mt) (C k : Nat) (M0 : List Ent) (I0 : List aT) (v : Value) (M : List Ent) (I : List aT) : Prop :=
 M0 = M ∧ ∃ m : MX, v = .tuple #[mv m, .int .i64 0] ∧ m.q = aWN A C ∧ (∀ r ∈ m.rows, r.es.length = C) ∧ I = lT m k :: I0
section
variable {X : List Nat} {w0 : World} {M : List Ent} {I : List aT}
theorem Mem.blkL {w : World} {b k : Nat} {es : List RE} {ty : TypeId} (h : Mem X w0 (.blk b (recs eR es) ty :: M) I w) (ha : dL es k ∈ I) : Mem X w0 M (nT ⟨some ⟨b, 0, none⟩, es.length, es⟩ k :: I) w := by
 have h1 := h.freezeB .here
 refine (h1.add (φ := nT ⟨some ⟨b, 0, none⟩, es.length, es⟩ k) ⟨(h1.sl (List.Mem.head _)), (((h1.imm _ (List.Mem.tail _ ha)).2 : AllR es k _ w)).go, ⟨Nat.le_refl _, .inl (Ok.mk _ _)⟩⟩).inc (.of fun φ hφ => ?_)
 rcases List.mem_cons.1 hφ with rfl | hφ
 ·exact List.Mem.head _
 ·exact List.Mem.tail _ (List.Mem.tail _ hφ)
variable {P : Program} {n : Nat} {Q : Exit → Act → World → Prop} {G : Env}
theorem aKZ {cd : Code} {b k : Nat} {es : List RE} {ty : TypeId} (ha : dL es k ∈ I) (h : TD P n cd Q G X w0 M (nT ⟨some ⟨b, 0, none⟩, es.length, es⟩ k :: I)) : TD P n cd Q G X w0 (.blk b (recs eR es) ty :: M) I := aEN (fun _ hw => Mem.blkL hw ha) h
end
section
variable {X : List Nat} {w0 : World} {M0 : List Ent} {I0 : List aT}
/- reduce, and what it changed is only read from now on -/
/- a matrix made is only read from now on -/
end
end Go.Proofs.YtjbhdfpjnjedhaaGreat
