/- Chapter 29, plain: pairs, the maps that they determine, by how much a map misses a pair, samples. Ranks, plain: the kernel of a reduced matrix; systems with more unknowns than equations; ranks compared by kernels. Kernels and systems, plain: the canonical basis of the kernel, what it spans; when a system has a solution, and which one is returned. Chapter 29, plain: least squares. Chapter 29, plain: the equations of pairs, and by how much a map of a kind's form misses them. matrix: Echelon, Rank, Null. matrix: column, Solve, Refute. The document's Echelon, Rank. Controlled observations, plain: Fredholm's alternative, rows left out, the rank of the transposed matrix, weights, certificates. Chapter 29, plain: the law's way to solve the equations gives the same maps. Spans, plain: rows that are added one by one, reduced by the rows before; the number of pivots is the rank. Chapter 29, plain: moving all targets, exchanging x and y, turning all points: the maps of the kinds other than homographies. The homographies of samples, plain: the law's way (a vector of the kernel, divided by its first number that is not 0) gives the same map; moving the pairs. Chapter 29, plain: homographies of moved pairs. -/
import Derived.Test.YtmmmfphealhapaaGreatZraw
import Derived.Test.YtmmmfphealhapaaGreatZrae
set_option linter.unusedSimpArgs false
set_option linter.unusedVariables false
set_option maxRecDepth 100000
set_option maxHeartbeats 4000000
namespace Go.Proofs.YtmmmfphealhapaaGreat
open Go Go.Fx
structure Q4 where
 x : Int
 y : Int
 u : Int
 v : Int
instance Q4.inh : Inhabited Q4 := ⟨⟨0, 0, 0, 0⟩⟩
abbrev kI (s : Q4) : List Value := [.int .i64 s.x, .int .i64 s.y, .int .i64 s.u, .int .i64 s.v]
abbrev vQ4 (s : Q4) : Value := .agg (kI s).toArray
instance Q4.szd : Sized kI 4 := ⟨fun _ => rfl⟩
def farC (a b : Int) : Prop := (a < -32768 ∨ b < -32768) ∨ 32768 < a ∨ 32768 < b
instance farC.dec (a b : Int) : Decidable (farC a b) := inferInstanceAs (Decidable ((a < -32768 ∨ b < -32768) ∨ 32768 < a ∨ 32768 < b))
def Q4.far (s : Q4) : Prop := farC s.x s.y ∨ farC s.u s.v
instance Q4.far.dec (s : Q4) : Decidable s.far := inferInstanceAs (Decidable (farC s.x s.y ∨ farC s.u s.v))
def anyFar (l : List Q4) : Prop := ∃ s ∈ l, s.far
instance anyFar.dec (l : List Q4) : Decidable (anyFar l) := inferInstanceAs (Decidable (∃ s ∈ l, s.far))
def pI (l : List Q4) : Int := if l.length = 0 then 1 else if 64 < l.length then 3 else if anyFar l then 2 else 0
structure Q4.near (s : Q4) : Prop where
 x : -32768 ≤ s.x ∧ s.x ≤ 32768
 y : -32768 ≤ s.y ∧ s.y ≤ 32768
 u : -32768 ≤ s.u ∧ s.u ≤ 32768
 v : -32768 ≤ s.v ∧ s.v ≤ 32768
theorem Q4.near_of {s : Q4} (h : ¬ s.far) : s.near := by
 unfold Q4.far farC at h
 refine ⟨?_, ?_, ?_, ?_⟩ <;> omega
theorem aBL {l : List Q4} (h : pI l = 0) : (1 ≤ l.length ∧ l.length ≤ 64) ∧ ∀ s ∈ l, s.near := by
 unfold pI at h
 split at h
 ·omega
 ·split at h
  ·omega
  ·split at h
   ·omega
   ·rename_i h1 h2 h3
    exact ⟨by omega, fun s hs => Q4.near_of (fun e => h3 ⟨s, hs, e⟩)⟩
def cz (l : List Int) : List Rat := l.map (fun x : Int => (x : Rat))
def dr1 (k : Nat) (s : Q4) : List Int := if k = 0 then [1, 0] else if k = 1 then [s.x, -s.y, 1, 0] else [s.x, s.y, 1, 0, 0, 0]
def dr2 (k : Nat) (s : Q4) : List Int := if k = 0 then [0, 1] else if k = 1 then [s.y, s.x, 0, 1] else [0, 0, 0, s.x, s.y, 1]
def db1 (k : Nat) (s : Q4) : Int := if k = 0 then s.u - s.x else s.u
def db2 (k : Nat) (s : Q4) : Int := if k = 0 then s.v - s.y else s.v
def nco (k : Nat) : Nat := if k = 0 then 2 else if k = 1 then 4 else 6
def dsA (k : Nat) (l : List Q4) : Mt := l.flatMap (fun s => [cz (dr1 k s), cz (dr2 k s)])
def dsB (k : Nat) (l : List Q4) : List Rat := l.flatMap (fun s => [(db1 k s : Rat), (db2 k s : Rat)])
def frm (k : Nat) (x : List Rat) : Mt :=
 if k = 0 then [[1, 0, x.getD 0 0], [0, 1, x.getD 1 0], [0, 0, 1]]
 else if k = 1 then [[x.getD 0 0, -x.getD 1 0, x.getD 2 0], [x.getD 1 0, x.getD 0 0, x.getD 3 0], [0, 0, 1]]
 else [[x.getD 0 0, x.getD 1 0, x.getD 2 0], [x.getD 3 0, x.getD 4 0, x.getD 5 0], [0, 0, 1]]
def nrN (R C : Nat) (A : Mt) : Mt := mkM C C (fun i j => sm R (fun t => at2 A t i * at2 A t j))
def nrB (R C : Nat) (A : Mt) (b : List Rat) : List Rat := (List.range C).map (fun i => sm R (fun t => at2 A t i * b.getD t 0))
def lsX (R C : Nat) (A : Mt) (b : List Rat) : List Rat := (List.range C).map (fun i => sm C (fun t => at2 (invM C (nrN R C A)) i t * (nrB R C A b).getD t 0))
def fitX (k : Nat) (l : List Q4) : List Rat := lsX (2 * l.length) (nco k) (dsA k l) (dsB k l)
def fitD (k : Nat) (l : List Q4) : Rat := dt (nco k) (at2 (nrN (2 * l.length) (nco k) (dsA k l)))
def fitP (k : Nat) (l : List Q4) : Option Mt := if l = [] then none else if fitD k l = 0 then none else if dt 3 (at2 (frm k (fitX k l))) = 0 then none else some (frm k (fitX k l))
def oN (m : Mt) (i : Nat) (s : Q4) : Rat := at2 m i 0 * (s.x : Rat) + at2 m i 1 * (s.y : Rat) + at2 m i 2
def aLO (m : Mt) (s : Q4) : Rat := oN m 0 s / oN m 2 s - (s.u : Rat)
def aLD (m : Mt) (s : Q4) : Rat := oN m 1 s / oN m 2 s - (s.v : Rat)
def tF (m : Mt) (s : Q4) : Rat := aLO m s * aLO m s + aLD m s * aLD m s
def okQ (m : Mt) (tol : Int) (s : Q4) : Prop := oN m 2 s ≠ 0 ∧ tF m s ≤ (tol : Rat)
instance okQ.dec (m : Mt) (tol : Int) (s : Q4) : Decidable (okQ m tol s) := inferInstanceAs (Decidable (oN m 2 s ≠ 0 ∧ tF m s ≤ (tol : Rat)))
def yL (m : Mt) (l : List Q4) (tol : Int) : Nat → List Int
 | 0 => []
 | n + 1 => if okQ m tol (gt l (n : Int)) then yL m l tol n ++ [(n : Int)] else yL m l tol n
def gD (m : Mt) (l : List Q4) (tol : Int) : List Int := yL m l tol l.length
theorem qN {m : Mt} {l : List Q4} {tol : Int} : ∀ {n : Nat}, (yL m l tol n).length ≤ n
 | 0 => Nat.le_refl _
 | n + 1 => by
  have ih := qN (m := m) (l := l) (tol := tol) (n := n)
  unfold yL
  split
  ·simp; exact ih
  ·omega
def mD (l : List Q4) (smp : List Int) : List Q4 := smp.map (fun i => gt l i)
def uM (n : Nat) : Nat → Nat → List (List Int)
 | 0, _ => [[]]
 | k + 1, a => (List.range (n - a)).flatMap (fun j => (uM n k (a + j + 1)).map (fun l => ((a + j : Nat) : Int) :: l))
def wS (n k a m : Nat) : List (List Int) := (List.range m).flatMap (fun j => (uM n k (a + j + 1)).map (fun l => ((a + j : Nat) : Int) :: l))
theorem yH {n k a : Nat} : uM n (k + 1) a = wS n k a (n - a) := rfl
theorem aIC {n k a : Nat} : wS n k a 0 = [] := rfl
theorem aAM {n k a m : Nat} : wS n k a (m + 1) = wS n k a m ++ (uM n k (a + m + 1)).map (fun l => ((a + m : Nat) : Int) :: l) := by
 unfold wS
 rw [List.range_succ, List.flatMap_append]
 simp
theorem aHP {n : Nat} : ∀ {k a : Nat}, n < a + (k + 1) → uM n (k + 1) a = []
 | 0, a, h => by
  rw [yH, show n - a = 0 by omega]; rfl
 | k + 1, a, h => by
  rw [yH]
  unfold wS
  rw [List.flatMap_eq_nil_iff]
  intro j hj
  rw [aHP (k := k) (a := a + j + 1) (by omega)]
  rfl
theorem aKZ {n k a m : Nat} (hm : n < a + m + (k + 1)) (hle : m ≤ n - a) : wS n k a m = uM n (k + 1) a := by
 rw [yH]
 by_cases hna : n ≤ a
 ·rw [show n - a = 0 by omega, show m = 0 by omega]
 have h : ∀ d, wS n k a (m + d) = wS n k a m ∨ n < a + m + d := by
  intro d
  induction d with
  | zero => exact .inl rfl
  | succ d ih =>
   by_cases h : n < a + m + (d + 1)
   ·exact .inr (by omega)
   rcases ih with ih | ih
   ·refine .inl ?_
    rw [← Nat.add_assoc, aAM, ih]
    cases k with
    | zero => omega
    | succ k => rw [aHP (by omega)]; simp
   ·omega
 rcases h (n - a - m) with h | h
 ·rw [show n - a = m + (n - a - m) by omega, h]
 ·omega
structure SmpP (n k a : Nat) (l : List Int) : Prop where
 len : l.length = k
 lt : ∀ x ∈ l, (a : Int) ≤ x ∧ x < n
 asc : l.Pairwise (· < ·)
theorem aHT {n : Nat} : ∀ {k a : Nat} {l : List Int}, l ∈ uM n k a → SmpP n k a l
 | 0, a, l, h => by
  rw [show uM n 0 a = [[]] from rfl, List.mem_singleton] at h
  subst h
  exact ⟨rfl, fun x hx => absurd hx List.not_mem_nil, List.Pairwise.nil⟩
 | k + 1, a, l, h => by
  unfold uM at h
  obtain ⟨j, hj, h⟩ := List.mem_flatMap.1 h
  obtain ⟨r, hr, rfl⟩ := List.mem_map.1 h
  have hj' := List.mem_range.1 hj
  have ih := aHT hr
  refine ⟨by simp [ih.len], fun x hx => ?_, List.pairwise_cons.2 ⟨fun x hx => ?_, ih.asc⟩⟩
  ·rcases List.mem_cons.1 hx with rfl | hx
   ·omega
   ·have := ih.lt x hx; omega
  ·have := ih.lt x hx; omega
theorem aGS {n : Nat} : ∀ {k a : Nat} {l : List Int}, SmpP n k a l → l ∈ uM n k a
 | 0, a, l, h => by
  have := List.length_eq_zero_iff.1 h.len
  subst this
  exact List.mem_singleton.2 rfl
 | k + 1, a, l, h => by
  obtain ⟨x, r, rfl⟩ := List.exists_cons_of_length_eq_add_one h.len
  have hx := h.lt x List.mem_cons_self
  have ha := List.pairwise_cons.1 h.asc
  have e : ((a + (x.toNat - a) : Nat) : Int) = x := by omega
  unfold uM
  refine List.mem_flatMap.2 ⟨x.toNat - a, List.mem_range.2 (by omega), List.mem_map.2 ⟨r, ?_, by rw [e]⟩⟩
  refine aGS ⟨by have := h.len; simp at this; exact this, fun z hz => ?_, ha.2⟩
  have h1 := ha.1 z hz
  have h2 := h.lt z (List.mem_cons_of_mem _ hz)
  omega
def uQ (mdl : List Int → Option Mt) (inl : Mt → List Int) (o : Option (List Int × List Int × Mt)) (l : List Int) : Option (List Int × List Int × Mt) :=
 match mdl l with
 | none => o
 | some m => match o with
  | none => some (l, inl m, m)
  | some f => if f.2.1.length < (inl m).length then some (l, inl m, m) else o
def kL (mdl : List Int → Option Mt) (inl : Mt → List Int) (ls : List (List Int)) : Option (List Int × List Int × Mt) := ls.foldl (uQ mdl inl) none
theorem uO {mdl : List Int → Option Mt} {inl : Mt → List Int} {ls : List (List Int)} {l : List Int} : kL mdl inl (ls ++ [l]) = uQ mdl inl (kL mdl inl ls) l := by
 unfold kL
 rw [List.foldl_append]
 rfl
theorem yR {mdl : List Int → Option Mt} {inl : Mt → List Int} : ∀ (ls done : List (List Int)) (o : Option (List Int × List Int × Mt)), (∀ f, o = some f → f.1 ∈ done ∧ mdl f.1 = some f.2.2 ∧ f.2.1 = inl f.2.2) →
  ∀ f, ls.foldl (uQ mdl inl) o = some f → f.1 ∈ done ++ ls ∧ mdl f.1 = some f.2.2 ∧ f.2.1 = inl f.2.2
 | [], done, o, h, f, hf => by
  obtain ⟨a, b, c⟩ := h f hf
  exact ⟨by simpa using a, b, c⟩
 | l :: ls, done, o, h, f, hf => by
  have := yR ls (done ++ [l]) (uQ mdl inl o l) (fun g hg => by
   unfold uQ at hg
   split at hg
   ·obtain ⟨a, b, c⟩ := h g hg
    exact ⟨List.mem_append_left _ a, b, c⟩
   ·rename_i m hm
    split at hg
    ·injection hg with hg; subst hg; exact ⟨by simp, hm, rfl⟩
    ·split at hg
     ·injection hg with hg; subst hg; exact ⟨by simp, hm, rfl⟩
     ·obtain ⟨a, b, c⟩ := h g hg
      exact ⟨List.mem_append_left _ a, b, c⟩) f hf
  simpa using this
theorem aAK {mdl : List Int → Option Mt} {inl : Mt → List Int} {ls : List (List Int)} {f : List Int × List Int × Mt} (h : kL mdl inl ls = some f) : f.1 ∈ ls ∧ mdl f.1 = some f.2.2 ∧ f.2.1 = inl f.2.2 := by
 have := yR (mdl := mdl) (inl := inl) ls [] none (fun f h => by cases h) f h
 simpa using this
end Go.Proofs.YtmmmfphealhapaaGreat
namespace Go.Proofs.YtmmmfphealhapaaGreat
open Go Go.Fx
def offP (pv : List Nat) (z : Nat → Rat) : Nat → Rat := fun j => if j ∈ pv then 0 else z j
section
variable {R C R' : Nat} {f0 f g0 g : Nat → Nat → Rat} {pv qv : List Nat} {s s' : Rat}
end
end Go.Proofs.YtmmmfphealhapaaGreat
namespace Go.Proofs.YtmmmfphealhapaaGreat
open Go Go.Fx
def nullF (f : Nat → Nat → Rat) (pv : List Nat) (j c : Nat) : Rat := if c ∈ pv then - f (pv.idxOf c) j else if c = j then 1 else 0
def freeP (pv : List Nat) (C : Nat) : List Nat := (List.range C).filter (fun j => decide (j ∉ pv))
def nullV (E : Mt) (pv : List Nat) (C j : Nat) : List Rat := (List.range C).map (nullF (at2 E) pv j)
def nullM (E : Mt) (pv : List Nat) (C : Nat) : Mt := (freeP pv C).map (nullV E pv C)
def nullA (A : Mt) (C : Nat) : Mt := nullM (xD A C).1 (xD A C).2 C
def rk (A : Mt) (C : Nat) : Nat := (xD A C).2.length
section
variable {R C : Nat} {f0 f : Nat → Nat → Rat} {pv : List Nat} {s : Rat}
end
/- systems: the right side is the column C of a wider matrix -/
section
variable {R C W : Nat} {f0 f : Nat → Nat → Rat} {pv : List Nat} {s : Rat}
def solF (f : Nat → Nat → Rat) (pv : List Nat) (C c : Nat) : Rat := if c ∈ pv then f (pv.idxOf c) C else 0
def solOk (R C : Nat) (f : Nat → Nat → Rat) (pv : List Nat) : Prop := ∀ i, pv.length ≤ i → i < R → f i C = 0
def ext1 (C : Nat) (x : Nat → Rat) (y : Rat) : Nat → Rat := fun j => if j < C then x j else if j = C then y else 0
end
end Go.Proofs.YtmmmfphealhapaaGreat
namespace Go.Proofs.YtmmmfphealhapaaGreat
open Go Go.Fx
def sqS (R C : Nat) (A : Mt) (b : List Rat) (x : Nat → Rat) : Rat := sm R (fun t => (sm C (fun j => at2 A t j * x j) - b.getD t 0) * (sm C (fun j => at2 A t j * x j) - b.getD t 0))
end Go.Proofs.YtmmmfphealhapaaGreat
namespace Go.Proofs.YtmmmfphealhapaaGreat
open Go Go.Fx
theorem gtQ {α : Type} [Inhabited α] {l : List α} {i : Nat} (h : i < l.length) : gt l (i : Int) = l[i] := by simp [gt, List.getD, h]
def totQ (m : Mt) (l : List Q4) : Rat := sm l.length (fun t => tF m (gt l (t : Int)))
end Go.Proofs.YtmmmfphealhapaaGreat
namespace Go.Proofs.YtmmmfphealhapaaGreat
open Go Go.Fx
abbrev pvI (q : Option Addr) (pv : List Nat) : bA := aX q (recs eZ (zs pv))
def EchP (A : Mt) (R C k : Nat) (M0 : List Ent) (I0 : List bA) (v : Value) (M : List Ent) (I : List bA) : Prop :=
 M0 = M ∧ ∃ (m : MX) (pv : List Nat) (q : Option Addr) (c : Nat), v = .tuple #[mv m, .slice q pv.length c, .int .i64 0] ∧ xD A C = (m.q, pv) ∧ m.dim R C ∧ I = pvI q pv :: pM m k :: I0
def NlP (A : Mt) (C k : Nat) (M0 : List Ent) (I0 : List bA) (v : Value) (M : List Ent) (I : List bA) : Prop :=
 M0 = M ∧ ∃ m : MX, v = .tuple #[mv m, .int .i64 0] ∧ m.q = nullA A C ∧ (∀ r ∈ m.rows, r.es.length = C) ∧ I = pM m k :: I0
section
variable {X : List Nat} {w0 : World} {M : List Ent} {I : List bA}
variable {P : Program} {n : Nat} {Q : Exit → Act → World → Prop} {G : Env}
end
section
variable {X : List Nat} {w0 : World} {M0 : List Ent} {I0 : List bA}
/- reduce, and what it changed is only read from now on -/
/- a matrix made is only read from now on -/
end
end Go.Proofs.YtmmmfphealhapaaGreat
namespace Go.Proofs.YtmmmfphealhapaaGreat
open Go Go.Fx
def bes1 (R C : Nat) (A : Mt) (b : List Rat) : Mt := mkM R (C + 1) (fun i j => if j < C then at2 A i j else b.getD i 0)
def besU (R C : Nat) (A : Mt) (b : List Rat) : Mt := mkM R (C + 1 + R) (fun i j => if j < C then at2 A i j else if j = C then b.getD i 0 else dlt i (j - (C + 1)))
def solB (R C : Nat) (f : Nat → Nat → Rat) (pv : List Nat) : Prop := ∀ i ∈ List.range R, pv.length ≤ i → f i C = 0
instance (R C : Nat) (f : Nat → Nat → Rat) (pv : List Nat) : Decidable (solB R C f pv) := by unfold solB; exact inferInstance
def solP (R C : Nat) (A : Mt) (b : List Rat) : Prop := solB R C (at2 (xD (bes1 R C A b) C).1) (xD (bes1 R C A b) C).2
instance (R C : Nat) (A : Mt) (b : List Rat) : Decidable (solP R C A b) := by unfold solP; exact inferInstance
def solL (R C : Nat) (A : Mt) (b : List Rat) : List Rat := (List.range C).map (solF (at2 (xD (bes1 R C A b) C).1) (xD (bes1 R C A b) C).2 C)
/- the wider matrix tells the same -/
section
variable {X : List Nat} {w0 : World} {M0 : List Ent} {I0 : List bA}
end
end Go.Proofs.YtmmmfphealhapaaGreat
namespace Go.Proofs.YtmmmfphealhapaaGreat
open Go Go.Fx
def rEchO (A : Mt) (R C k : Nat) (M0 : List Ent) (I0 : List bA) (v : Value) (M : List Ent) (I : List bA) : Prop :=
 ∃ (bo co : Nat) (tlo : List Value) (rows : List MS) (E : Mt) (pv : List Nat) (q : Option Addr) (c : Nat), v = .tuple #[.slice (some ⟨bo, 0, none⟩) R co, .slice q pv.length c] ∧ R ≤ co ∧ Shp rows R C ∧ xD A C = (E, pv) ∧ Pw rows R C (at2 E) ∧
  M = .row q pv.length c (recs eZ (zs pv)) 3 1 :: .blk bo (recs eS rows ++ tlo) 70 :: (rows.map entS ++ M0) ∧ I = allS rows k :: I0
def rEchP (A : Mt) (R C k : Nat) (M0 : List Ent) (I0 : List bA) (v : Value) (M : List Ent) (I : List bA) : Prop :=
 M0 = M ∧ ∃ (m : MX) (pv : List Nat) (q : Option Addr) (c : Nat), v = .tuple #[mv m, .slice q pv.length c] ∧ xD A C = (m.q, pv) ∧ m.dim R C ∧ I = pvI q pv :: pM m k :: I0
section
variable {X : List Nat} {w0 : World} {M0 : List Ent} {I0 : List bA}
end
end Go.Proofs.YtmmmfphealhapaaGreat
namespace Go.Proofs.YtmmmfphealhapaaGreat
open Go Go.Fx
def unL (n i : Nat) : List Rat := (List.range n).map (dlt i)
def rw1 (A : Mt) (C i : Nat) (z : Nat → Rat) : Rat := sm C (fun j => at2 A i j * z j)
def ctl (R C : Nat) (A : Mt) (i : Nat) : Prop := ¬ solP R C A (unL R i)
instance (R C : Nat) (A : Mt) (i : Nat) : Decidable (ctl R C A i) := by unfold ctl; exact inferInstance
/- rows left out -/
def rowsM (A : Mt) (ix : List Nat) : Mt := ix.map (rowAt A)
def restI (R : Nat) (set : List Int) : List Nat := (List.range R).filter (fun i => decide ((i : Int) ∉ set))
def und (R C : Nat) (A : Mt) (set : List Int) : Prop := rk (rowsM A (restI R set)) C < rk A C
instance (R C : Nat) (A : Mt) (set : List Int) : Decidable (und R C A set) := by unfold und; exact inferInstance
/- the transposed matrix -/
def trM (R C : Nat) (A : Mt) : Mt := mkM C R (fun i j => at2 A j i)
/- certificates -/
/- weights: the normal matrix has the kernel of the design matrix -/
def nrmM (R C : Nat) (A : Mt) (p : Nat → Rat) : Mt := mkM C C (fun i j => sm R (fun k => p k * at2 A k i * at2 A k j))
/- the document's inverse: the pivots of the matrix with the unit matrix beside -/
end Go.Proofs.YtmmmfphealhapaaGreat
namespace Go.Proofs.YtmmmfphealhapaaGreat
open Go Go.Fx
end Go.Proofs.YtmmmfphealhapaaGreat
namespace Go.Proofs.YtmmmfphealhapaaGreat
open Go Go.Fx
abbrev Sp := List (Nat × List Rat)
def sub1 (κ : Rat) (s l : List Rat) : List Rat := l.mapIdx (fun c x => x - κ * s.getD c 0)
def rdS (p : Nat × List Rat) (l : List Rat) : List Rat := sub1 (l.getD p.1 0) p.2 l
def rdc (sp : Sp) (l : List Rat) : List Rat := sp.foldl (fun l p => rdS p l) l
def fst0 (l : List Rat) : Nat := l.findIdx (fun x => decide (x ≠ 0))
def dvd (l : List Rat) (κ : Rat) : List Rat := l.map (fun x => x / κ)
def adS (sp : Sp) (l : List Rat) : Bool × Sp :=
 if fst0 (rdc sp l) < l.length then (true, sp ++ [(fst0 (rdc sp l), dvd (rdc sp l) ((rdc sp l).getD (fst0 (rdc sp l)) 0))]) else (false, sp)
def spn (A : Mt) (q : Nat → Bool) : Nat → Sp × List Nat
 | 0 => ([], [])
 | k + 1 => if q k then ((adS (spn A q k).1 (rowAt A k)).2, if (adS (spn A q k).1 (rowAt A k)).1 then (spn A q k).2 ++ [k] else (spn A q k).2) else spn A q k
def spR (sp : Sp) (t : Nat) : List Rat := (sp.getD t (0, [])).2
def spP (sp : Sp) (t : Nat) : Nat := (sp.getD t (0, [])).1
structure SpI (C : Nat) (sp : Sp) : Prop where
 len : ∀ t, t < sp.length → (spR sp t).length = C
 piv : ∀ t, t < sp.length → spP sp t < C
 one : ∀ t, t < sp.length → (spR sp t).getD (spP sp t) 0 = 1
 low : ∀ t u, u < t → t < sp.length → (spR sp t).getD (spP sp u) 0 = 0
def dotL (C : Nat) (l : List Rat) (z : Nat → Rat) : Rat := sm C (fun j => l.getD j 0 * z j)
def kerS (C : Nat) (sp : Sp) (z : Nat → Rat) : Prop := ∀ p ∈ sp, dotL C p.2 z = 0
section
variable {A : Mt} {q : Nat → Bool} {R C : Nat}
end
/- rows that are independent: the rank is their number -/
def indR (K : Mt) (k C : Nat) : Prop := ∀ d : Nat → Rat, (∀ j, j < C → sm k (fun i => d i * at2 K i j) = 0) → ∀ i, i < k → d i = 0
def mtS (sp : Sp) : Mt := sp.map (·.2)
end Go.Proofs.YtmmmfphealhapaaGreat
namespace Go.Proofs.YtmmmfphealhapaaGreat
open Go Go.Fx
def F1 (k : Nat) (z : Nat → Rat) (s : Q4) : Rat := if k = 0 then z 0 else if k = 1 then (s.x : Rat) * z 0 - (s.y : Rat) * z 1 + z 2 else (s.x : Rat) * z 0 + (s.y : Rat) * z 1 + z 2
def F2 (k : Nat) (z : Nat → Rat) (s : Q4) : Rat := if k = 0 then z 1 else if k = 1 then (s.y : Rat) * z 0 + (s.x : Rat) * z 1 + z 3 else (s.x : Rat) * z 3 + (s.y : Rat) * z 4 + z 5
def er1 (k : Nat) (z : Nat → Rat) (s : Q4) : Rat := F1 k z s - (db1 k s : Rat)
def er2 (k : Nat) (z : Nat → Rat) (s : Q4) : Rat := F2 k z s - (db2 k s : Rat)
def detF (k : Nat) (z : Nat → Rat) : Rat := if k = 0 then 1 else if k = 1 then z 0 * z 0 + z 1 * z 1 else z 0 * z 4 - z 1 * z 3
structure MovL (k : Nat) (f : Q4 → Q4) where
 T : (Nat → Rat) → (Nat → Rat)
 S : (Nat → Rat) → (Nat → Rat)
 U : (Nat → Rat) → (Nat → Rat)
 Tk : ∀ z s, F1 k z s = 0 ∧ F2 k z s = 0 → F1 k (T z) (f s) = 0 ∧ F2 k (T z) (f s) = 0
 Sk : ∀ z s, F1 k z (f s) = 0 ∧ F2 k z (f s) = 0 → F1 k (S z) s = 0 ∧ F2 k (S z) s = 0
 Tz : ∀ z, (∀ j, j < nco k → T z j = 0) → ∀ j, j < nco k → z j = 0
 Sz : ∀ z, (∀ j, j < nco k → S z j = 0) → ∀ j, j < nco k → z j = 0
 Ue : ∀ z s, er1 k z s = 0 ∧ er2 k z s = 0 → er1 k (U z) (f s) = 0 ∧ er2 k (U z) (f s) = 0
 Um : ∀ z s, er1 k (U z) (f s) * er1 k (U z) (f s) + er2 k (U z) (f s) * er2 k (U z) (f s) = er1 k z s * er1 k z s + er2 k z s * er2 k z s
 Ud : ∀ z, detF k (U z) = 0 ↔ detF k z = 0
structure Alike (mp mp' : Option Mt) (f : Q4 → Q4) : Prop where
 none : mp = .none ↔ mp' = .none
 last : ∀ m m', mp = some m → mp' = some m' → ∀ s, oN m 2 s = 0 ↔ oN m' 2 (f s) = 0
 mis : ∀ m m', mp = some m → mp' = some m' → ∀ s, oN m 2 s ≠ 0 → tF m s = tF m' (f s)
def aQB (a b : Int) (s : Q4) : Q4 := ⟨s.x, s.y, s.u + a, s.v + b⟩
def exchQ (s : Q4) : Q4 := ⟨s.y, s.x, s.v, s.u⟩
def turnQ (s : Q4) : Q4 := ⟨-s.y, s.x, -s.v, s.u⟩
def sf (l : List Rat) (j : Nat) : Rat := l.getD j 0
section
variable {a b : Int}
def idT (z : Nat → Rat) : Nat → Rat := z
def shU (k : Nat) (a b : Int) (z : Nat → Rat) (j : Nat) : Rat := if k = 0 then (if j = 0 then z 0 + a else z 1 + b) else if k = 1 then (if j = 0 then z 0 else if j = 1 then z 1 else if j = 2 then z 2 + a else z 3 + b) else (if j = 0 then z 0 else if j = 1 then z 1 else if j = 2 then z 2 + a else if j = 3 then z 3 else if j = 4 then z 4 else z 5 + b)
def exT (k : Nat) (z : Nat → Rat) (j : Nat) : Rat := if k = 0 then (if j = 0 then z 1 else z 0) else if k = 1 then (if j = 0 then z 0 else if j = 1 then -z 1 else if j = 2 then z 3 else z 2) else (if j = 0 then z 4 else if j = 1 then z 3 else if j = 2 then z 5 else if j = 3 then z 1 else if j = 4 then z 0 else z 2)
def tuT (k : Nat) (z : Nat → Rat) (j : Nat) : Rat := if k = 0 then (if j = 0 then -z 1 else z 0) else if k = 1 then (if j = 0 then z 0 else if j = 1 then z 1 else if j = 2 then -z 3 else z 2) else (if j = 0 then z 4 else if j = 1 then -z 3 else if j = 2 then -z 5 else if j = 3 then -z 1 else if j = 4 then z 0 else z 2)
def tuS (k : Nat) (z : Nat → Rat) (j : Nat) : Rat := if k = 0 then (if j = 0 then z 1 else -z 0) else if k = 1 then (if j = 0 then z 0 else if j = 1 then z 1 else if j = 2 then z 3 else -z 2) else (if j = 0 then z 4 else if j = 1 then -z 3 else if j = 2 then z 5 else if j = 3 then -z 1 else if j = 4 then z 0 else -z 2)
end
end Go.Proofs.YtmmmfphealhapaaGreat
namespace Go.Proofs.YtmmmfphealhapaaGreat
open Go Go.Fx
def hr1 (s : Q4) : List Int := [s.x, s.y, 1, 0, 0, 0, -s.u * s.x, -s.u * s.y, -s.u]
def hr2 (s : Q4) : List Int := [0, 0, 0, s.x, s.y, 1, -s.v * s.x, -s.v * s.y, -s.v]
def hA (l : List Q4) : Mt := l.flatMap (fun s => [cz (hr1 s), cz (hr2 s)])
def oP (s : Q4) : T3 Int := ⟨s.x, s.y, 1⟩
def ptT (s : Q4) : T3 Int := ⟨s.u, s.v, 1⟩
def ofH (z : Nat → Rat) : M9 Rat := ⟨⟨z 0, z 1, z 2⟩, ⟨z 3, z 4, z 5⟩, ⟨z 6, z 7, z 8⟩⟩
def sG : List Rat → Rat
 | [] => 0
 | x :: r => if x = 0 then sG r else x
def pW (l : List Rat) : List Rat := l.map (fun x => x / sG l)
theorem aBC {s : Rat} (hs : s ≠ 0) : ∀ l : List Rat, sG (l.map (fun x => s * x)) = s * sG l
 | [] => by show (0 : Rat) = s * 0; grind
 | x :: r => by
  have ih := aBC hs r
  show (if s * x = 0 then sG (r.map (fun x => s * x)) else s * x) = s * (if x = 0 then sG r else x)
  by_cases h : x = 0
  ·rw [if_pos h, if_pos (by rw [h]; grind), ih]
  ·rw [if_neg h, if_neg (fun e => (Rat.mul_eq_zero.1 e).elim hs h)]
theorem uI {s x f : Rat} (hs : s ≠ 0) : s * x / (s * f) = x / f := by
 by_cases hf : f = 0
 ·subst hf
  have e1 : s * (0 : Rat) = 0 := by grind
  rw [e1, Rat.div_def, Rat.div_def]
  have e2 : (0 : Rat)⁻¹ = 0 := by decide +kernel
  rw [e2]; grind
 ·grind
theorem aAQ {s : Rat} (hs : s ≠ 0) (l : List Rat) : pW (l.map (fun x => s * x)) = pW l := by
 unfold pW
 rw [aBC hs, List.map_map]
 exact List.map_congr_left (fun x _ => uI hs)
theorem aOW {l : List Rat} : sG l = 0 ↔ ∀ x ∈ l, x = 0 := by
 induction l with
 | nil => simp [sG]
 | cons x r ih =>
  show (if x = 0 then sG r else x) = 0 ↔ _
  by_cases h : x = 0
  ·rw [if_pos h, ih]; simp [h]
  ·rw [if_neg h]; simp [h]
def bD {α : Type} (m : M9 α) : List α := [m.x.a, m.x.b, m.x.c, m.y.a, m.y.b, m.y.c, m.z.a, m.z.b, m.z.c]
def tK (l : List Rat) : Mt := [[l.getD 0 0, l.getD 1 0, l.getD 2 0], [l.getD 3 0, l.getD 4 0, l.getD 5 0], [l.getD 6 0, l.getD 7 0, l.getD 8 0]]
def l4 (ps : List Q4) : P4 Int := ⟨oP (gt ps 0), oP (gt ps 1), oP (gt ps 2), oP (gt ps 3)⟩
def m4 (ps : List Q4) : P4 Int := ⟨ptT (gt ps 0), ptT (gt ps 1), ptT (gt ps 2), ptT (gt ps 3)⟩
def colP (l : P4 Int) : Prop := l.k0 = 0 ∨ l.k1 = 0 ∨ l.k2 = 0 ∨ l.k3 = 0
instance colP.dec (l : P4 Int) : Decidable (colP l) := inferInstanceAs (Decidable (l.k0 = 0 ∨ l.k1 = 0 ∨ l.k2 = 0 ∨ l.k3 = 0))
def eD (ps : List Q4) : M9 Int := oZ (l4 ps) (m4 ps)
def zK (ps : List Q4) : Option Mt := if colP (l4 ps) ∨ colP (m4 ps) then none else some (tK (pW (bD (dB (eD ps)))))
theorem int_ne {z : Int} (h : z ≠ 0) : (z : Rat) ≠ 0 := fun e => h (by
 have : ((z : Int) : Rat) = ((0 : Int) : Rat) := e
 exact Rat.intCast_inj.1 this)
theorem tC {l : P4 Int} (h : ¬ colP l) : (bY l).ok := by
 unfold colP at h
 have hk := aQW l
 refine ⟨?_, ?_, ?_, ?_⟩
 ·rw [← hk.1]; exact int_ne (fun e => h (.inl e))
 ·rw [← hk.2.1]; exact int_ne (fun e => h (.inr (.inl e)))
 ·rw [← hk.2.2.1]; exact int_ne (fun e => h (.inr (.inr (.inl e))))
 ·rw [← hk.2.2.2]; exact int_ne (fun e => h (.inr (.inr (.inr e))))
theorem iF {a b : Rat} (ha : a ≠ 0) (hb : b ≠ 0) : a * b ≠ 0 := fun e => (Rat.mul_eq_zero.1 e).elim ha hb
theorem aOB {ps : List Q4} (hl : ¬ colP (l4 ps)) (hm : ¬ colP (m4 ps)) {H : M9 Rat} {c0 c1 c2 c3 : Rat} (h0 : H.app (bY (l4 ps)).p = (bY (m4 ps)).p.smul c0) (h1 : H.app (bY (l4 ps)).q = (bY (m4 ps)).q.smul c1)
  (h2 : H.app (bY (l4 ps)).r = (bY (m4 ps)).r.smul c2) (h3 : H.app (bY (l4 ps)).s = (bY (m4 ps)).s.smul c3) (hH : ∃ x ∈ bD H, x ≠ 0) : ∃ s : Rat, s ≠ 0 ∧ bD H = (bD (dB (eD ps))).map (fun x => s * x) := by
 have ol := tC hl
 have om := tC hm
 obtain ⟨e1, e2, e3⟩ := aIG ol om h0 h1 h2 h3
 unfold eD
 rw [wR]
 have hκ := iF (iF (iF om.h3 ol.h0) ol.h1) ol.h2
 generalize (bY (m4 ps)).k3 * (bY (l4 ps)).k0 * (bY (l4 ps)).k1 * (bY (l4 ps)).k2 = κ at *
 generalize oZ (bY (l4 ps)) (bY (m4 ps)) = G at *
 simp only [T3.smul, T3.mk.injEq] at e1 e2 e3
 obtain ⟨a1, a2, a3⟩ := e1
 obtain ⟨b1, b2, b3⟩ := e2
 obtain ⟨d1, d2, d3⟩ := e3
 have key : ∀ x g : Rat, κ * x = c3 * g → x = c3 / κ * g := by intro x g h; grind
 have hc : c3 ≠ 0 := by
  intro e
  obtain ⟨x, hx, hx0⟩ := hH
  apply hx0
  have z : ∀ y g : Rat, κ * y = c3 * g → y = 0 := by
   intro y g h
   have : κ * y = 0 := by rw [h, e]; grind
   exact (Rat.mul_eq_zero.1 this).resolve_left hκ
  simp only [bD, List.mem_cons, List.not_mem_nil, or_false] at hx
  rcases hx with rfl | rfl | rfl | rfl | rfl | rfl | rfl | rfl | rfl
  ·exact z _ _ a1
  ·exact z _ _ a2
  ·exact z _ _ a3
  ·exact z _ _ b1
  ·exact z _ _ b2
  ·exact z _ _ b3
  ·exact z _ _ d1
  ·exact z _ _ d2
  ·exact z _ _ d3
 refine ⟨c3 / κ, by grind, ?_⟩
 simp only [bD, List.map]
 rw [key _ _ a1, key _ _ a2, key _ _ a3, key _ _ b1, key _ _ b2, key _ _ b3, key _ _ d1, key _ _ d2, key _ _ d3]
theorem aKG {m m' : Mt} {c : Rat} (hc : c ≠ 0) (h : ∀ i j, i < 3 → j < 3 → at2 m' i j = c * at2 m i j) (s : Q4) : (oN m' 2 s = 0 ↔ oN m 2 s = 0) ∧ tF m' s = tF m s := by
 have hr : ∀ i, i < 3 → oN m' i s = c * oN m i s := fun i hi => by
  unfold oN
  rw [h i 0 hi (by omega), h i 1 hi (by omega), h i 2 hi (by omega)]
  grind
 constructor
 ·rw [hr 2 (by omega)]
  constructor
  ·exact fun e => (Rat.mul_eq_zero.1 e).resolve_left hc
  ·intro e; rw [e]; grind
 ·unfold tF aLO aLD
  rw [hr 0 (by omega), hr 1 (by omega), hr 2 (by omega), uI hc, uI hc]
end Go.Proofs.YtmmmfphealhapaaGreat
namespace Go.Proofs.YtmmmfphealhapaaGreat
open Go Go.Fx
theorem vU {ps : List Q4} (hl : ¬ colP (l4 ps)) (hm : ¬ colP (m4 ps)) : ∃ x ∈ bD (eD ps), x ≠ 0 := by
 apply Classical.byContradiction
 intro hn
 have hz : ∀ x ∈ bD (eD ps), x = 0 := fun x hx => Classical.byContradiction (fun h => hn ⟨x, hx, h⟩)
 have h1 := (aEM (bY (l4 ps)) (bY (m4 ps))).1
 rw [← wR] at h1
 have h2 := congrArg T3.c h1
 have za : (eD ps).z.a = 0 := hz _ (by simp [bD])
 have zb : (eD ps).z.b = 0 := hz _ (by simp [bD])
 have zc : (eD ps).z.c = 0 := hz _ (by simp [bD])
 have e1 : ((dB (eD ps)).app (bY (l4 ps)).p).c = 0 := by
  show ((eD ps).z.a : Rat) * _ + ((eD ps).z.b : Rat) * _ + ((eD ps).z.c : Rat) * _ = 0
  rw [za, zb, zc, show ((0 : Int) : Rat) = 0 from rfl, Rat.zero_mul, Rat.zero_mul, Rat.zero_mul, Rat.add_zero, Rat.add_zero]
 have oL := tC hl
 have oM := tC hm
 have hK := iF (iF (iF oM.h0 oL.h1) oL.h2) oL.h3
 have e2 : ((bY (m4 ps)).p.smul ((bY (m4 ps)).k0 * (bY (l4 ps)).k1 * (bY (l4 ps)).k2 * (bY (l4 ps)).k3)).c = (bY (m4 ps)).k0 * (bY (l4 ps)).k1 * (bY (l4 ps)).k2 * (bY (l4 ps)).k3 := by
  show _ * ((1 : Int) : Rat) = _
  rw [show ((1 : Int) : Rat) = 1 from rfl, Rat.mul_one]
 exact hK (e2.symm.trans (h2.symm.trans e1))
def pF (s : Q4) : T3 Rat := iU (oP s)
def pT (s : Q4) : T3 Rat := iU (ptT s)
def xP (H : M9 Rat) : Mt := tK (bD H)
theorem xQ (H : M9 Rat) (s : Q4) : oN (xP H) 0 s = H.x.dot (pF s) ∧ oN (xP H) 1 s = H.y.dot (pF s) ∧ oN (xP H) 2 s = H.z.dot (pF s) := by
 have h : ∀ a b c : Rat, a * (s.x : Rat) + b * (s.y : Rat) + c = a * (s.x : Rat) + b * (s.y : Rat) + c * ((1 : Int) : Rat) := fun a b c => by rw [show ((1 : Int) : Rat) = 1 from rfl, Rat.mul_one]
 exact ⟨h _ _ _, h _ _ _, h _ _ _⟩
structure HomM (f : Q4 → Q4) where
 T : M9 Rat → M9 Rat
 ap : ∀ H s c, H.app (pF s) = (pT s).smul c → (T H).app (pF (f s)) = (pT (f s)).smul c
 nz : ∀ H, (∀ x ∈ bD (T H), x = 0) → ∀ x ∈ bD H, x = 0
 last : ∀ H s, (T H).z.dot (pF (f s)) = H.z.dot (pF s)
 mis : ∀ H s, H.z.dot (pF s) ≠ 0 → tF (xP (T H)) (f s) = tF (xP H) s
 col : ∀ a b c d, (colP ⟨oP (f a), oP (f b), oP (f c), oP (f d)⟩ ↔ colP ⟨oP a, oP b, oP c, oP d⟩) ∧ (colP ⟨ptT (f a), ptT (f b), ptT (f c), ptT (f d)⟩ ↔ colP ⟨ptT a, ptT b, ptT c, ptT d⟩)
theorem aIF {ps : List Q4} (h1 : ¬ colP (l4 ps)) (h2 : ¬ colP (m4 ps)) {H : M9 Rat} {s : Rat} (hs : s ≠ 0) (hH : bD H = (bD (dB (eD ps))).map (fun x => s * x)) : ∃ c : Rat, c ≠ 0 ∧ ∀ i j, i < 3 → j < 3 → at2 (tK (pW (bD (dB (eD ps))))) i j = c * at2 (xP H) i j := by
 have hn : sG (bD H) ≠ 0 := fun e => by
  obtain ⟨x, hx, hx0⟩ := vU h1 h2
  have h3 := aOW.1 e (s * (x : Rat)) (by rw [hH]; exact List.mem_map_of_mem (List.mem_map_of_mem hx))
  exact iF hs (int_ne hx0) h3
 have e : pW (bD (dB (eD ps))) = (bD H).map (fun x => x / sG (bD H)) := by
  rw [← aAQ hs, ← hH]; rfl
 refine ⟨1 / sG (bD H), by grind, fun i j hi hj => ?_⟩
 rw [e]
 obtain rfl | rfl | rfl : i = 0 ∨ i = 1 ∨ i = 2 := by omega
 all_goals obtain rfl | rfl | rfl : j = 0 ∨ j = 1 ∨ j = 2 := by omega
 all_goals
  unfold xP
  simp only [tK, bD, at2, rowAt, List.map, List.getD]
  simp
  grind
theorem aOJ (H : M9 Rat) (s : Q4) : tF (xP H) s = (H.x.dot (pF s) / H.z.dot (pF s) - (s.u : Rat)) * (H.x.dot (pF s) / H.z.dot (pF s) - (s.u : Rat)) + (H.y.dot (pF s) / H.z.dot (pF s) - (s.v : Rat)) * (H.y.dot (pF s) / H.z.dot (pF s) - (s.v : Rat)) := by
 unfold tF aLO aLD
 rw [(xQ H s).1, (xQ H s).2.1, (xQ H s).2.2]
def shT (a b : Int) (H : M9 Rat) : M9 Rat := ⟨H.x.add (H.z.smul (a : Rat)), H.y.add (H.z.smul (b : Rat)), H.z⟩
def exTH (H : M9 Rat) : M9 Rat := ⟨⟨H.y.b, H.y.a, H.y.c⟩, ⟨H.x.b, H.x.a, H.x.c⟩, ⟨H.z.b, H.z.a, H.z.c⟩⟩
def tuTH (H : M9 Rat) : M9 Rat := ⟨⟨H.y.b, -H.y.a, -H.y.c⟩, ⟨-H.x.b, H.x.a, H.x.c⟩, ⟨-H.z.b, H.z.a, H.z.c⟩⟩
end Go.Proofs.YtmmmfphealhapaaGreat
