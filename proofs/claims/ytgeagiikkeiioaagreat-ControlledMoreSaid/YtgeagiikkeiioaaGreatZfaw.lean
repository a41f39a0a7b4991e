/- Matrices: elimination as a function on lists; one or two rows brought to the front. -/
import Derived.Test.YtgeagiikkeiioaaGreatZfav
import Derived.Test.YtgeagiikkeiioaaGreatZfau
set_option linter.unusedSimpArgs false
set_option linter.unusedVariables false
set_option maxRecDepth 100000
set_option maxHeartbeats 4000000
namespace Go.Proofs.YtgeagiikkeiioaaGreat
open Go Go.Fx
abbrev Mt := List (List Rat)
def rowAt (A : Mt) (i : Nat) : List Rat := A.getD i []
def at2 (A : Mt) (i j : Nat) : Rat := (rowAt A i).getD j 0
def swp (A : Mt) (r k : Nat) : Mt := (A.set r (rowAt A k)).set k (rowAt A r)
def iH (j : Nat) (κ : Rat) (l : List Rat) : List Rat := l.mapIdx (fun c x => if c < j then x else κ * x)
def nE (j : Nat) (κ : Rat) (p : List Rat) (l : List Rat) : List Rat := l.mapIdx (fun c x => if c < j then x else x - κ * p.getD c 0)
def mG (A : Mt) (j : Nat) : Nat → Nat → Nat
 | 0, k => k
 | f + 1, k => if k < A.length ∧ at2 A k j = 0 then mG A j f (k + 1) else k
def tZ (A : Mt) (r j : Nat) (pr : List Rat) : Mt := A.mapIdx (fun i row => if i = r then row else if row.getD j 0 = 0 then row else nE j (row.getD j 0) pr row)
def vS (A : Mt) (r j k : Nat) : Mt :=
 tZ ((swp A r k).set r (iH j (1 / at2 (swp A r k) r j) (rowAt (swp A r k) r))) r j (iH j (1 / at2 (swp A r k) r j) (rowAt (swp A r k) r))
def aMR (s : Mt × List Nat) (j : Nat) : Mt × List Nat :=
 if mG s.1 j (s.1.length - s.2.length) s.2.length < s.1.length then (vS s.1 s.2.length j (mG s.1 j (s.1.length - s.2.length) s.2.length), s.2 ++ [j]) else s
def jV (A : Mt) (n : Nat) : Mt × List Nat := (List.range n).foldl aMR (A, [])
theorem wS (A : Mt) (n : Nat) : jV A (n + 1) = aMR (jV A n) n := by
 unfold jV
 rw [List.range_succ, List.foldl_append]
 rfl
abbrev qs (es : List RE) : List Rat := es.map (·.q)
abbrev mq (rows : List MR) : Mt := rows.map (fun r => qs r.es)
theorem eY {α : Type} [Inhabited α] {ms : List α} {i : Nat} (h : i < ms.length) : gt ms (i : Int) = ms[i] := iU h
theorem rV {rows : List MR} {i : Nat} (h : i < rows.length) : rowAt (mq rows) i = qs (gt rows (i : Int)).es := by
 unfold rowAt
 rw [eY h]
 simp [List.getD, h]
theorem lZ {es : List RE} {j : Nat} (h : j < es.length) : (qs es).getD j 0 = (gt es (j : Int)).q := by
 rw [eY h]
 simp [List.getD, h]
theorem aCI {rows : List MR} {i j : Nat} (h : i < rows.length) (hj : j < (gt rows (i : Int)).es.length) : at2 (mq rows) i j = (gt (gt rows (i : Int)).es (j : Int)).q := by
 unfold at2
 rw [rV h, lZ hj]
theorem aFQ {rows : List MR} {i : Nat} {r : MR} : mq (rows.set i r) = (mq rows).set i (qs r.es) := by simp [List.map_set]
theorem aET {A : Mt} {j : Nat} : ∀ (f k : Nat), k + f = A.length → k ≤ mG A j f k ∧ mG A j f k ≤ A.length ∧ (mG A j f k < A.length → at2 A (mG A j f k) j ≠ 0)
 | 0, k, h => ⟨Nat.le_refl _, by simp [mG]; omega, fun h' => by simp [mG] at h'; omega⟩
 | f + 1, k, h => by
  unfold mG
  by_cases hc : k < A.length ∧ at2 A k j = 0
  ·rw [if_pos hc]
   obtain ⟨h1, h2, h3⟩ := aET (A := A) (j := j) f (k + 1) (by omega)
   exact ⟨by omega, h2, h3⟩
  ·rw [if_neg hc]
   exact ⟨Nat.le_refl _, by omega, fun hk h0 => hc ⟨hk, h0⟩⟩
/- permutations -/
theorem mM {α : Type} : ∀ (l : List α) (i : Nat) (h : i < l.length), l.Perm (l[i] :: l.eraseIdx i)
 | [], _, h => by simp at h
 | x :: r, 0, _ => by simp
 | x :: r, i + 1, h => by
  have ih := mM r i (by simpa using h)
  simp only [List.getElem_cons_succ, List.eraseIdx_cons_succ]
  exact (List.Perm.cons _ ih).trans (List.Perm.swap _ _ _)
def lY {α : Type} (l : List α) (i j : Nat) : List α := (l.eraseIdx (max i j)).eraseIdx (min i j)
theorem sN {α : Type} (l : List α) (i j : Nat) (hi : i < l.length) (hj : j < l.length) (hij : i ≠ j) : l.Perm (l[i] :: l[j] :: lY l i j) := by
 rcases Nat.lt_or_ge i j with h | h
 ·have e1 : max i j = j := by omega
  have e2 : min i j = i := by omega
  unfold lY
  rw [e1, e2]
  have h1 := mM l j hj
  have hl : i < (l.eraseIdx j).length := by rw [List.length_eraseIdx_of_lt hj]; omega
  have h2 := mM (l.eraseIdx j) i hl
  rw [List.getElem_eraseIdx_of_lt hl h] at h2
  exact (h1.trans (List.Perm.cons _ h2)).trans (List.Perm.swap _ _ _)
 ·have e1 : max i j = i := by omega
  have e2 : min i j = j := by omega
  unfold lY
  rw [e1, e2]
  have h1 := mM l i hi
  have hl : j < (l.eraseIdx i).length := by rw [List.length_eraseIdx_of_lt hi]; omega
  have h2 := mM (l.eraseIdx i) j hl
  rw [List.getElem_eraseIdx_of_lt hl (by omega)] at h2
  exact h1.trans (List.Perm.cons _ h2)
theorem wK {α : Type} (l : List α) (i j : Nat) (x : α) (hij : i ≠ j) : lY (l.set i x) i j = lY l i j := by
 unfold lY
 rcases Nat.lt_or_ge i j with h | h
 ·have e1 : max i j = j := by omega
  have e2 : min i j = i := by omega
  rw [e1, e2]
  apply List.ext_getElem?
  intro n
  simp only [List.getElem?_eraseIdx, List.getElem?_set]
  split <;> split <;> (try split) <;> first | rfl | omega
 ·have e1 : max i j = i := by omega
  rw [e1, List.eraseIdx_set_eq]
theorem aAI {α : Type} (l : List α) (i : Nat) (x : α) : (l.set i x).eraseIdx i = l.eraseIdx i := List.eraseIdx_set_eq ..
theorem xO {rows : List MR} {i : Nat} {es : List RE} (hi : i < rows.length) (hl : es.length = (gt rows (i : Int)).es.length) : recs eM (rows.set i ⟨(gt rows (i : Int)).b, es⟩) = recs eM rows := by
 have h1 := qR (enc := eM) rows i ⟨(gt rows (i : Int)).b, es⟩ hi
 rw [← h1]
 have e : eM ⟨(gt rows (i : Int)).b, es⟩ = eM (gt rows (i : Int)) := by simp [eM, hl]
 rw [e, qR (enc := eM) rows i _ hi, eY hi, List.set_getElem_self]
end Go.Proofs.YtgeagiikkeiioaaGreat
