/- matrix: unit, quotient, subtract Matrices: elimination as a function on lists; one or two rows brought to the front. -/
import Derived.Test.YtkccjglmnhgabaaGreatZhax
import Derived.Test.YtkccjglmnhgabaaGreatZhao
import Derived.Test.YtkccjglmnhgabaaGreatZhav
set_option linter.unusedSimpArgs false
set_option linter.unusedVariables false
set_option maxRecDepth 100000
set_option maxHeartbeats 4000000
namespace Go.Proofs.YtkccjglmnhgabaaGreat
open Go Go.Fx
theorem rF (q : Rat) : q.num.sign = 0 ↔ q = 0 := ⟨fun h => Rat.num_eq_zero.1 (Int.sign_eq_zero_iff_zero.1 h), fun h => by rw [h]; rfl⟩
theorem Hv.stR {I : List aZ} {es : List RE} {e : RE} {i : Int} {k : Nat} (h1 : fE es k ∈ I) (h2 : bM e k ∈ I) : Hv I (fE (st es i e) k) := ⟨fun X w hw => ⟨fun x hx => by
 rcases List.mem_or_eq_of_mem_set hx with hx | hx
 ·exact (hw _ h1 : AllR es k X w).go x hx
 ·rw [hx]; exact hw _ h2⟩⟩
theorem yU {es : List RE} {e : RE} {i t : Nat} (hi : i < es.length) : gt (st es (i : Int) e) (t : Int) = if t = i then e else gt es (t : Int) := by
 rw [aKB e ⟨by omega, by omega⟩ (by omega)]
 by_cases h : t = i
 ·rw [if_pos h, if_pos (by omega)]
 ·rw [if_neg h, if_neg (by omega)]
section
variable {X : List Nat} {w0 : World} {M0 : List Ent} {I0 : List aZ}
theorem aNK {i j : Int} : CD Tryz.prog 110 [.int .i64 i, .int .i64 j] X w0 M0 I0 (RQ (if i = j then 1 else 0) 0 M0 I0) := by
 have h1 := fun M0 I0 => mV (X := X) (w0 := w0) (M0 := M0) (I0 := I0) (x := 1) (by decide) (k := 0) (by decide)
 have h0 := fun M0 I0 => mV (X := X) (w0 := w0) (M0 := M0) (I0 := I0) (x := 0) (by decide) (k := 0) (by decide)
 refine bE Tryz.func110 rfl Tryz.ntmps110 rfl ?_
 refine aL ?_
 refine aM ?_
 (refine aB rfl rfl ?_; intro b2; refine ⟨okF, ?_⟩)
 by_cases h : i = j
 ·rw [if_pos h]
  repeat (refine aV ?_)
  (refine aA rfl (h1 _ _) rfl rfl ?_; rintro _ _ _ ⟨rfl, e, rfl, he, rfl⟩; refine ⟨okF, ?_⟩)
  repeat (refine aV ?_)
  refine bK (cs := eR e) (.inl rfl) rfl rfl aC rfl M0 (bM e 0 :: I0) aD aF ⟨rfl, e, rfl, he, rfl⟩
 ·rw [if_neg h]
  repeat (refine aV ?_)
  (refine aA rfl (h0 _ _) rfl rfl ?_; rintro _ _ _ ⟨rfl, e, rfl, he, rfl⟩; refine ⟨okF, ?_⟩)
  repeat (refine aV ?_)
  refine bK (cs := eR e) (.inl rfl) rfl rfl aC rfl M0 (bM e 0 :: I0) aD aF ⟨rfl, e, rfl, he, rfl⟩
theorem aCV {a b : RE} {k m : Nat} (hk : k + m ≤ 500000000000) (hb0 : b.q ≠ 0) (ha : Hv I0 (bM a k)) (hb : Hv I0 (bM b m)) :
  CD Tryz.prog 165 [rv a, rv b] X w0 M0 I0 (RQ (a.q / b.q) (k + m) M0 I0) := by
 refine bE Tryz.func165 rfl Tryz.ntmps165 rfl ?_
 refine aL ?_
 refine aM ?_
 (refine aR rfl rfl rfl ?_; intro b1; refine ⟨okF, ?_⟩)
 (refine aR rfl rfl rfl ?_; intro b2; refine ⟨okF, ?_⟩)
 (refine aB rfl rfl ?_; intro b3; refine ⟨okF, ?_⟩)
 repeat (refine aV ?_)
 (refine aA rfl (oC hk hb0 ha hb) rfl rfl ?_; rintro _ _ _ ⟨rfl, e, rfl, he, rfl⟩; refine ⟨okF, ?_⟩)
 repeat (refine aV ?_)
 (refine aB rfl rfl ?_; intro b4; refine ⟨okF, ?_⟩)
 repeat (refine aV ?_)
 refine bK (cs := eR e) (.inl rfl) rfl rfl aC rfl M0 (bM e (k + m) :: I0) aD aF ⟨rfl, e, rfl, he, rfl⟩
theorem aDG {b1 b2 : Nat} {es os : List RE} {κ : RE} {kz h m fr n : Nat} {M1 : List Ent} (hn : n ≤ 1000) (hK : kz + (m + h) + 1 ≤ 400000000000) (hes : es.length = n) (hos : os.length = n) (hfr : fr ≤ n)
  (he : fE es kz ∈ I0) (ho : fE os h ∈ I0) (hκ : bM κ m ∈ I0) (hM : M0 = .blk b1 (recs eR es) 37 :: .blk b2 (recs eR os) 37 :: M1) :
  CD Tryz.prog 164 [.slice (some ⟨b1, 0, none⟩) n n, .slice (some ⟨b2, 0, none⟩) n n, rv κ, .int .i64 (fr : Int)] X w0 M0 I0 (fun v M I => v = .tuple #[] ∧ ∃ es' : List RE, es'.length = n ∧ (∀ t : Nat, t < n → (gt es' (t : Int)).q = if t < fr then (gt es (t : Int)).q else (gt es (t : Int)).q - κ.q * (gt os (t : Int)).q) ∧ M = .blk b1 (recs eR es') 37 :: .blk b2 (recs eR os) 37 :: M1 ∧ I = fE es' (kz + (m + h) + 1) :: I0) := by
 subst hM
 refine aNL Tryz.func164 rfl Tryz.ntmps164 rfl ?_
 refine aL ?_
 refine aM ?_
 (refine aR rfl rfl rfl ?_; intro bk; refine ⟨okF, ?_⟩)
 repeat (refine aV ?_)
 refine fD (φ := fE es (kz + (m + h) + 1)) (Hv.allMono he (by omega)) ?_
 refine bG [0, 1, 6] rfl (fun k G M I => ∃ (j : Nat) (e1 : List RE), fr ≤ j ∧ j ≤ n ∧ k = n - j ∧ e1.length = n ∧ (∀ t : Nat, j ≤ t → gt e1 (t : Int) = gt es (t : Int)) ∧ (∀ t : Nat, t < j → (gt e1 (t : Int)).q = if t < fr then (gt es (t : Int)).q else (gt es (t : Int)).q - κ.q * (gt os (t : Int)).q) ∧ G = [(8, .int .i64 j)] ∧ M = .blk bk (eR κ) 37 :: .blk b1 (recs eR e1) 37 :: .blk b2 (recs eR os) 37 :: M1 ∧ I = fE e1 (kz + (m + h) + 1) :: I0) (n - fr) _ _ _ aO aD aF (⟨fr, es, by omega, hfr, rfl, hes, fun _ _ => rfl, fun t ht => by rw [if_pos ht], rfl, rfl, rfl⟩) ?_
 rintro kk G M I ⟨j, e1, hj1, hj, rfl, hel, hkeep, hdone, rfl, rfl, rfl⟩
 by_cases hjn : j < n
 ·have hgj : gt e1 (j : Int) = gt es (j : Int) := hkeep j (Nat.le_refl _)
  have hvj : Hv (fE e1 (kz + (m + h) + 1) :: I0) (bM (gt os (j : Int)) h) := (Hv.all (i := (j : Int)) ho (by omega) (Nat.le_refl _)).cons
  have hve : Hv (fE e1 (kz + (m + h) + 1) :: I0) (bM (gt e1 (j : Int)) kz) := by rw [hgj]; exact (Hv.all (i := (j : Int)) he (by omega) (Nat.le_refl _)).cons
  have hvk : Hv (fE e1 (kz + (m + h) + 1) :: I0) (bM κ m) := (Hv.mem hκ).cons
  have hS := kE (X := X) (w0 := w0) (M0 := .blk bk (eR κ) 37 :: .blk b1 (recs eR e1) 37 :: .blk b2 (recs eR os) 37 :: M1) (e := gt os (j : Int)) (k := h) (by omega) hvj
  by_cases h0 : (gt os (j : Int)).q = 0
  ·rw [(rF _).2 h0] at hS
   repeat (refine aV ?_)
   (refine aA rfl (hS) rfl rfl ?_; rintro _ _ _ ⟨rfl, rfl, rfl⟩; refine ⟨okF, ?_⟩)
   repeat (refine aV ?_)
   refine aS (n - (j + 1)) _ _ _ (by first | omega | (simp only [List.length_append, List.length_cons, List.length_nil]; omega)) aO aD aF (⟨j + 1, e1, by omega, by omega, rfl, hel, fun t ht => hkeep t (by omega), fun t ht => ?_, rfl, rfl, rfl⟩)
   by_cases htj : t = j
   ·subst htj
    rw [if_neg (by omega), hgj, h0, Rat.mul_zero, Rat.sub_eq_add_neg, Rat.neg_zero, Rat.add_zero]
   ·exact hdone t (by omega)
  ·have hs0 : ¬ (gt os (j : Int)).q.num.sign = 0 := fun h => h0 ((rF _).1 h)
   generalize (gt os (j : Int)).q.num.sign = sg at *
   repeat (refine aV ?_)
   (refine aA rfl (hS) rfl rfl ?_; rintro _ _ _ ⟨rfl, rfl, rfl⟩; refine ⟨okF, ?_⟩)
   repeat (refine aV ?_)
   (repeat refine aL ?_); refine bT 2 [0, 1, 2, 3, 4, 5, 6, 7, 8, 9, 10, 11, 12, 13, 14] [2, 2, 2, 2, 2, 1, 1, 2, 2, 2, 1, 0, 0, 0, 0] mixed (by kernel_rfl) ?_
   repeat (refine aV ?_)
   (refine aA rfl (mF (k := m) (m := h) (by omega) hvk hvj) rfl rfl ?_; rintro _ _ _ ⟨rfl, e2, rfl, he2, rfl⟩; refine ⟨okF, ?_⟩)
   (refine aA rfl (vO (k := kz) (m := m + h) (by omega) hve.cons (Hv.mem (List.Mem.head _))) rfl rfl ?_; rintro _ _ _ ⟨rfl, e3, rfl, he3, rfl⟩; refine ⟨okF, ?_⟩)
   repeat (refine yXf ?_)
   refine iT (vs := eR e3) rfl rfl rfl (Ones.one e3) lU (StAts.r e3 (by omega) rfl) rfl rfl ⟨okF, ?_⟩
   repeat (refine aV ?_)
   refine bJ (φ := fE (st e1 (j : Int) e3) (kz + (m + h) + 1)) (Hv.stR aC aC) ?_
   refine aS (n - (j + 1)) _ _ _ (by first | omega | (simp only [List.length_append, List.length_cons, List.length_nil]; omega)) aO aD aF (⟨j + 1, st e1 (j : Int) e3, by omega, by omega, rfl, by rw [eT]; exact hel, fun t ht => ?_, fun t ht => ?_, rfl, rfl, rfl⟩)
   ·rw [yU (by omega), if_neg (by omega)]; exact hkeep t (by omega)
   ·rw [yU (by omega)]
    by_cases htj : t = j
    ·subst htj
     rw [if_pos rfl, if_neg (by omega), he3, he2, hgj]
    ·rw [if_neg htj]; exact hdone t (by omega)
 ·obtain rfl : j = n := by omega
  repeat (refine aV ?_)
  refine aOB (by first | exact .inl rfl | exact .inr rfl) rfl _ _ aD aF (⟨rfl, e1, hel, hdone, rfl, rfl⟩)
end
end Go.Proofs.YtkccjglmnhgabaaGreat
namespace Go.Proofs.YtkccjglmnhgabaaGreat
open Go Go.Fx
abbrev Mt := List (List Rat)
def rowAt (A : Mt) (i : Nat) : List Rat := A.getD i []
def at2 (A : Mt) (i j : Nat) : Rat := (rowAt A i).getD j 0
def swp (A : Mt) (r k : Nat) : Mt := (A.set r (rowAt A k)).set k (rowAt A r)
def iQ (j : Nat) (κ : Rat) (l : List Rat) : List Rat := l.mapIdx (fun c x => if c < j then x else κ * x)
def nQ (j : Nat) (κ : Rat) (p : List Rat) (l : List Rat) : List Rat := l.mapIdx (fun c x => if c < j then x else x - κ * p.getD c 0)
def mX (A : Mt) (j : Nat) : Nat → Nat → Nat
 | 0, k => k
 | f + 1, k => if k < A.length ∧ at2 A k j = 0 then mX A j f (k + 1) else k
def sP (A : Mt) (r j : Nat) (pr : List Rat) : Mt := A.mapIdx (fun i row => if i = r then row else if row.getD j 0 = 0 then row else nQ j (row.getD j 0) pr row)
def vP (A : Mt) (r j k : Nat) : Mt :=
 sP ((swp A r k).set r (iQ j (1 / at2 (swp A r k) r j) (rowAt (swp A r k) r))) r j (iQ j (1 / at2 (swp A r k) r j) (rowAt (swp A r k) r))
def aKN (s : Mt × List Nat) (j : Nat) : Mt × List Nat :=
 if mX s.1 j (s.1.length - s.2.length) s.2.length < s.1.length then (vP s.1 s.2.length j (mX s.1 j (s.1.length - s.2.length) s.2.length), s.2 ++ [j]) else s
def kM (A : Mt) (n : Nat) : Mt × List Nat := (List.range n).foldl aKN (A, [])
theorem wQ (A : Mt) (n : Nat) : kM A (n + 1) = aKN (kM A n) n := by
 unfold kM
 rw [List.range_succ, List.foldl_append]
 rfl
abbrev qs (es : List RE) : List Rat := es.map (·.q)
abbrev mq (rows : List MR) : Mt := rows.map (fun r => qs r.es)
theorem fH {α : Type} [Inhabited α] {ms : List α} {i : Nat} (h : i < ms.length) : gt ms (i : Int) = ms[i] := lI h
theorem sF {rows : List MR} {i : Nat} (h : i < rows.length) : rowAt (mq rows) i = qs (gt rows (i : Int)).es := by
 unfold rowAt
 rw [fH h]
 simp [List.getD, h]
theorem kH {es : List RE} {j : Nat} (h : j < es.length) : (qs es).getD j 0 = (gt es (j : Int)).q := by
 rw [fH h]
 simp [List.getD, h]
theorem aAZ {rows : List MR} {i j : Nat} (h : i < rows.length) (hj : j < (gt rows (i : Int)).es.length) : at2 (mq rows) i j = (gt (gt rows (i : Int)).es (j : Int)).q := by
 unfold at2
 rw [sF h, kH hj]
theorem aFQ {rows : List MR} {i : Nat} {r : MR} : mq (rows.set i r) = (mq rows).set i (qs r.es) := by simp [List.map_set]
theorem aCG {A : Mt} {j : Nat} : ∀ (f k : Nat), k + f = A.length → k ≤ mX A j f k ∧ mX A j f k ≤ A.length ∧ (mX A j f k < A.length → at2 A (mX A j f k) j ≠ 0)
 | 0, k, h => ⟨Nat.le_refl _, by simp [mX]; omega, fun h' => by simp [mX] at h'; omega⟩
 | f + 1, k, h => by
  unfold mX
  by_cases hc : k < A.length ∧ at2 A k j = 0
  ·rw [if_pos hc]
   obtain ⟨h1, h2, h3⟩ := aCG (A := A) (j := j) f (k + 1) (by omega)
   exact ⟨by omega, h2, h3⟩
  ·rw [if_neg hc]
   exact ⟨Nat.le_refl _, by omega, fun hk h0 => hc ⟨hk, h0⟩⟩
/- permutations -/
theorem nG {α : Type} : ∀ (l : List α) (i : Nat) (h : i < l.length), l.Perm (l[i] :: l.eraseIdx i)
 | [], _, h => by simp at h
 | x :: r, 0, _ => by simp
 | x :: r, i + 1, h => by
  have ih := nG r i (by simpa using h)
  simp only [List.getElem_cons_succ, List.eraseIdx_cons_succ]
  exact (List.Perm.cons _ ih).trans (List.Perm.swap _ _ _)
def lZ {α : Type} (l : List α) (i j : Nat) : List α := (l.eraseIdx (max i j)).eraseIdx (min i j)
theorem sH {α : Type} (l : List α) (i j : Nat) (hi : i < l.length) (hj : j < l.length) (hij : i ≠ j) : l.Perm (l[i] :: l[j] :: lZ l i j) := by
 rcases Nat.lt_or_ge i j with h | h
 ·have e1 : max i j = j := by omega
  have e2 : min i j = i := by omega
  unfold lZ
  rw [e1, e2]
  have h1 := nG l j hj
  have hl : i < (l.eraseIdx j).length := by rw [List.length_eraseIdx_of_lt hj]; omega
  have h2 := nG (l.eraseIdx j) i hl
  rw [List.getElem_eraseIdx_of_lt hl h] at h2
  exact (h1.trans (List.Perm.cons _ h2)).trans (List.Perm.swap _ _ _)
 ·have e1 : max i j = i := by omega
  have e2 : min i j = j := by omega
  unfold lZ
  rw [e1, e2]
  have h1 := nG l i hi
  have hl : j < (l.eraseIdx i).length := by rw [List.length_eraseIdx_of_lt hi]; omega
  have h2 := nG (l.eraseIdx i) j hl
  rw [List.getElem_eraseIdx_of_lt hl (by omega)] at h2
  exact h1.trans (List.Perm.cons _ h2)
theorem wI {α : Type} (l : List α) (i j : Nat) (x : α) (hij : i ≠ j) : lZ (l.set i x) i j = lZ l i j := by
 unfold lZ
 rcases Nat.lt_or_ge i j with h | h
 ·have e1 : max i j = j := by omega
  have e2 : min i j = i := by omega
  rw [e1, e2]
  apply List.ext_getElem?
  intro n
  simp only [List.getElem?_eraseIdx, List.getElem?_set]
  split <;> split <;> (try split) <;> first | rfl | omega
 ·have e1 : max i j = i := by omega
  rw [e1, List.eraseIdx_set_eq]
theorem zT {α : Type} (l : List α) (i : Nat) (x : α) : (l.set i x).eraseIdx i = l.eraseIdx i := List.eraseIdx_set_eq ..
theorem xD {rows : List MR} {i : Nat} {es : List RE} (hi : i < rows.length) (hl : es.length = (gt rows (i : Int)).es.length) : recs eM (rows.set i ⟨(gt rows (i : Int)).b, es⟩) = recs eM rows := by
 have h1 := qM (enc := eM) rows i ⟨(gt rows (i : Int)).b, es⟩ hi
 rw [← h1]
 have e : eM ⟨(gt rows (i : Int)).b, es⟩ = eM (gt rows (i : Int)) := by simp [eM, hl]
 rw [e, qM (enc := eM) rows i _ hi, fH hi, List.set_getElem_self]
end Go.Proofs.YtkccjglmnhgabaaGreat
