/- matrix: unit, quotient, subtract Matrices: elimination as a function on lists; one or two rows brought to the front. -/
import Derived.Test.YtgeagiikkeiioaaGreatZgaw
import Derived.Test.YtgeagiikkeiioaaGreatZgao
import Derived.Test.YtgeagiikkeiioaaGreatZgav
set_option linter.unusedSimpArgs false
set_option linter.unusedVariables false
set_option maxRecDepth 100000
set_option maxHeartbeats 4000000
namespace Go.Proofs.YtgeagiikkeiioaaGreat
open Go Go.Fx
theorem mP (q : Rat) : q.num.sign = 0 ↔ q = 0 := ⟨fun h => Rat.num_eq_zero.1 (Int.sign_eq_zero_iff_zero.1 h), fun h => by rw [h]; rfl⟩
theorem Hv.stR {I : List bA} {es : List RE} {e : RE} {i : Int} {k : Nat} (h1 : cK es k ∈ I) (h2 : eQ e k ∈ I) : Hv I (cK (st es i e) k) := ⟨fun X w hw => ⟨fun x hx => by
 rcases List.mem_or_eq_of_mem_set hx with hx | hx
 ·exact (hw _ h1 : AllR es k X w).go x hx
 ·rw [hx]; exact hw _ h2⟩⟩
theorem sI {es : List RE} {e : RE} {i t : Nat} (hi : i < es.length) : gt (st es (i : Int) e) (t : Int) = if t = i then e else gt es (t : Int) := by
 rw [aFR e ⟨by omega, by omega⟩ (by omega)]
 by_cases h : t = i
 ·rw [if_pos h, if_pos (by omega)]
 ·rw [if_neg h, if_neg (by omega)]
section
variable {X : List Nat} {w0 : World} {M0 : List Ent} {I0 : List bA}
theorem aKN {i j : Int} : CD Tryz.prog 135 [.int .i64 i, .int .i64 j] X w0 M0 I0 (RQ (if i = j then 1 else 0) 0 M0 I0) := by
 have h1 := fun M0 I0 => lX (X := X) (w0 := w0) (M0 := M0) (I0 := I0) (x := 1) (by decide) (k := 0) (by decide)
 have h0 := fun M0 I0 => lX (X := X) (w0 := w0) (M0 := M0) (I0 := I0) (x := 0) (by decide) (k := 0) (by decide)
 refine bD Tryz.func135 rfl Tryz.ntmps135 rfl ?_
 refine aJ ?_
 refine aI ?_
 (refine aN rfl rfl ?_; intro b2; refine ⟨okF, ?_⟩)
 by_cases h : i = j
 ·rw [if_pos h]
  repeat (refine aV ?_)
  (refine aA rfl (h1 _ _) rfl rfl ?_; rintro _ _ _ ⟨rfl, e, rfl, he, rfl⟩; refine ⟨okF, ?_⟩)
  repeat (refine aV ?_)
  refine bG (cs := eR e) (.inl rfl) rfl rfl aB rfl M0 (eQ e 0 :: I0) aC aD ⟨rfl, e, rfl, he, rfl⟩
 ·rw [if_neg h]
  repeat (refine aV ?_)
  (refine aA rfl (h0 _ _) rfl rfl ?_; rintro _ _ _ ⟨rfl, e, rfl, he, rfl⟩; refine ⟨okF, ?_⟩)
  repeat (refine aV ?_)
  refine bG (cs := eR e) (.inl rfl) rfl rfl aB rfl M0 (eQ e 0 :: I0) aC aD ⟨rfl, e, rfl, he, rfl⟩
theorem zN {a b : RE} {k m : Nat} (hk : k + m ≤ 500000000000) (hb0 : b.q ≠ 0) (ha : Hv I0 (eQ a k)) (hb : Hv I0 (eQ b m)) :
  CD Tryz.prog 196 [rv a, rv b] X w0 M0 I0 (RQ (a.q / b.q) (k + m) M0 I0) := by
 refine bD Tryz.func196 rfl Tryz.ntmps196 rfl ?_
 refine aJ ?_
 refine aI ?_
 (refine aP rfl rfl rfl ?_; intro b1; refine ⟨okF, ?_⟩)
 (refine aP rfl rfl rfl ?_; intro b2; refine ⟨okF, ?_⟩)
 (refine aN rfl rfl ?_; intro b3; refine ⟨okF, ?_⟩)
 repeat (refine aV ?_)
 (refine aA rfl (aII hk hb0 ha hb) rfl rfl ?_; rintro _ _ _ ⟨rfl, e, rfl, he, rfl⟩; refine ⟨okF, ?_⟩)
 repeat (refine aV ?_)
 (refine aN rfl rfl ?_; intro b4; refine ⟨okF, ?_⟩)
 repeat (refine aV ?_)
 refine bG (cs := eR e) (.inl rfl) rfl rfl aB rfl M0 (eQ e (k + m) :: I0) aC aD ⟨rfl, e, rfl, he, rfl⟩
theorem aGQ {b1 b2 : Nat} {es os : List RE} {κ : RE} {kz h m fr n : Nat} {M1 : List Ent} (hn : n ≤ 1000) (hK : kz + (m + h) + 1 ≤ 400000000000) (hes : es.length = n) (hos : os.length = n) (hfr : fr ≤ n)
  (he : cK es kz ∈ I0) (ho : cK os h ∈ I0) (hκ : eQ κ m ∈ I0) (hM : M0 = .blk b1 (recs eR es) 42 :: .blk b2 (recs eR os) 42 :: M1) :
  CD Tryz.prog 201 [.slice (some ⟨b1, 0, none⟩) n n, .slice (some ⟨b2, 0, none⟩) n n, rv κ, .int .i64 (fr : Int)] X w0 M0 I0 (fun v M I => v = .tuple #[] ∧ ∃ es' : List RE, es'.length = n ∧ (∀ t : Nat, t < n → (gt es' (t : Int)).q = if t < fr then (gt es (t : Int)).q else (gt es (t : Int)).q - κ.q * (gt os (t : Int)).q) ∧ M = .blk b1 (recs eR es') 42 :: .blk b2 (recs eR os) 42 :: M1 ∧ I = cK es' (kz + (m + h) + 1) :: I0) := by
 subst hM
 refine aDY Tryz.func201 rfl Tryz.ntmps201 rfl ?_
 refine aJ ?_
 refine aI ?_
 (refine aP rfl rfl rfl ?_; intro bk; refine ⟨okF, ?_⟩)
 repeat (refine aV ?_)
 refine bL (φ := cK es (kz + (m + h) + 1)) (Hv.allMono he (by omega)) ?_
 refine aS [0, 1, 6] rfl (fun k G M I => ∃ (j : Nat) (e1 : List RE), fr ≤ j ∧ j ≤ n ∧ k = n - j ∧ e1.length = n ∧ (∀ t : Nat, j ≤ t → gt e1 (t : Int) = gt es (t : Int)) ∧ (∀ t : Nat, t < j → (gt e1 (t : Int)).q = if t < fr then (gt es (t : Int)).q else (gt es (t : Int)).q - κ.q * (gt os (t : Int)).q) ∧ G = [(8, .int .i64 j)] ∧ M = .blk bk (eR κ) 42 :: .blk b1 (recs eR e1) 42 :: .blk b2 (recs eR os) 42 :: M1 ∧ I = cK e1 (kz + (m + h) + 1) :: I0) (n - fr) _ _ _ aO aC aD (⟨fr, es, by omega, hfr, rfl, hes, fun _ _ => rfl, fun t ht => by rw [if_pos ht], rfl, rfl, rfl⟩) ?_
 rintro kk G M I ⟨j, e1, hj1, hj, rfl, hel, hkeep, hdone, rfl, rfl, rfl⟩
 by_cases hjn : j < n
 ·have hgj : gt e1 (j : Int) = gt es (j : Int) := hkeep j (Nat.le_refl _)
  have hvj : Hv (cK e1 (kz + (m + h) + 1) :: I0) (eQ (gt os (j : Int)) h) := (Hv.all (i := (j : Int)) ho (by omega) (Nat.le_refl _)).cons
  have hve : Hv (cK e1 (kz + (m + h) + 1) :: I0) (eQ (gt e1 (j : Int)) kz) := by rw [hgj]; exact (Hv.all (i := (j : Int)) he (by omega) (Nat.le_refl _)).cons
  have hvk : Hv (cK e1 (kz + (m + h) + 1) :: I0) (eQ κ m) := (Hv.mem hκ).cons
  have hS := lZ (X := X) (w0 := w0) (M0 := .blk bk (eR κ) 42 :: .blk b1 (recs eR e1) 42 :: .blk b2 (recs eR os) 42 :: M1) (e := gt os (j : Int)) (k := h) (by omega) hvj
  by_cases h0 : (gt os (j : Int)).q = 0
  ·rw [(mP _).2 h0] at hS
   repeat (refine aV ?_)
   (refine aA rfl (hS) rfl rfl ?_; rintro _ _ _ ⟨rfl, rfl, rfl⟩; refine ⟨okF, ?_⟩)
   repeat (refine aV ?_)
   refine aM (n - (j + 1)) _ _ _ (by first | omega | (simp only [List.length_append, List.length_cons, List.length_nil]; omega)) aO aC aD (⟨j + 1, e1, by omega, by omega, rfl, hel, fun t ht => hkeep t (by omega), fun t ht => ?_, rfl, rfl, rfl⟩)
   by_cases htj : t = j
   ·subst htj
    rw [if_neg (by omega), hgj, h0, Rat.mul_zero, Rat.sub_eq_add_neg, Rat.neg_zero, Rat.add_zero]
   ·exact hdone t (by omega)
  ·have hs0 : ¬ (gt os (j : Int)).q.num.sign = 0 := fun h => h0 ((mP _).1 h)
   generalize (gt os (j : Int)).q.num.sign = sg at *
   repeat (refine aV ?_)
   (refine aA rfl (hS) rfl rfl ?_; rintro _ _ _ ⟨rfl, rfl, rfl⟩; refine ⟨okF, ?_⟩)
   repeat (refine aV ?_)
   (repeat refine aJ ?_); refine bK 2 [0, 1, 2, 3, 4, 5, 6, 7, 8, 9, 10, 11, 12, 13, 14] [2, 2, 2, 2, 2, 1, 1, 2, 2, 2, 1, 0, 0, 0, 0] mixed (by kernel_rfl) ?_
   repeat (refine aV ?_)
   (refine aA rfl (aEN (k := m) (m := h) (by omega) hvk hvj) rfl rfl ?_; rintro _ _ _ ⟨rfl, e2, rfl, he2, rfl⟩; refine ⟨okF, ?_⟩)
   (refine aA rfl (aSP (k := kz) (m := m + h) (by omega) hve.cons (Hv.mem (List.Mem.head _))) rfl rfl ?_; rintro _ _ _ ⟨rfl, e3, rfl, he3, rfl⟩; refine ⟨okF, ?_⟩)
   repeat (refine yXf ?_)
   refine fH (vs := eR e3) rfl rfl rfl (Ones.one e3) kU (StAts.r e3 (by omega) rfl) rfl rfl ⟨okF, ?_⟩
   repeat (refine aV ?_)
   refine fM (φ := cK (st e1 (j : Int) e3) (kz + (m + h) + 1)) (Hv.stR aB aB) ?_
   refine aM (n - (j + 1)) _ _ _ (by first | omega | (simp only [List.length_append, List.length_cons, List.length_nil]; omega)) aO aC aD (⟨j + 1, st e1 (j : Int) e3, by omega, by omega, rfl, by rw [dH]; exact hel, fun t ht => ?_, fun t ht => ?_, rfl, rfl, rfl⟩)
   ·rw [sI (by omega), if_neg (by omega)]; exact hkeep t (by omega)
   ·rw [sI (by omega)]
    by_cases htj : t = j
    ·subst htj
     rw [if_pos rfl, if_neg (by omega), he3, he2, hgj]
    ·rw [if_neg htj]; exact hdone t (by omega)
 ·obtain rfl : j = n := by omega
  repeat (refine aV ?_)
  refine aSE (by first | exact .inl rfl | exact .inr rfl) rfl _ _ aC aD (⟨rfl, e1, hel, hdone, rfl, rfl⟩)
end
end Go.Proofs.YtgeagiikkeiioaaGreat
namespace Go.Proofs.YtgeagiikkeiioaaGreat
open Go Go.Fx
abbrev Mt := List (List Rat)
def rowAt (A : Mt) (i : Nat) : List Rat := A.getD i []
def at2 (A : Mt) (i j : Nat) : Rat := (rowAt A i).getD j 0
def swp (A : Mt) (r k : Nat) : Mt := (A.set r (rowAt A k)).set k (rowAt A r)
def iU (j : Nat) (κ : Rat) (l : List Rat) : List Rat := l.mapIdx (fun c x => if c < j then x else κ * x)
def oF (j : Nat) (κ : Rat) (p : List Rat) (l : List Rat) : List Rat := l.mapIdx (fun c x => if c < j then x else x - κ * p.getD c 0)
def kX (A : Mt) (j : Nat) : Nat → Nat → Nat
 | 0, k => k
 | f + 1, k => if k < A.length ∧ at2 A k j = 0 then kX A j f (k + 1) else k
def uQ (A : Mt) (r j : Nat) (pr : List Rat) : Mt := A.mapIdx (fun i row => if i = r then row else if row.getD j 0 = 0 then row else oF j (row.getD j 0) pr row)
def sU (A : Mt) (r j k : Nat) : Mt :=
 uQ ((swp A r k).set r (iU j (1 / at2 (swp A r k) r j) (rowAt (swp A r k) r))) r j (iU j (1 / at2 (swp A r k) r j) (rowAt (swp A r k) r))
def aGD (s : Mt × List Nat) (j : Nat) : Mt × List Nat :=
 if kX s.1 j (s.1.length - s.2.length) s.2.length < s.1.length then (sU s.1 s.2.length j (kX s.1 j (s.1.length - s.2.length) s.2.length), s.2 ++ [j]) else s
def iH (A : Mt) (n : Nat) : Mt × List Nat := (List.range n).foldl aGD (A, [])
theorem pR (A : Mt) (n : Nat) : iH A (n + 1) = aGD (iH A n) n := by
 unfold iH
 rw [List.range_succ, List.foldl_append]
 rfl
abbrev qs (es : List RE) : List Rat := es.map (·.q)
abbrev mq (rows : List MR) : Mt := rows.map (fun r => qs r.es)
theorem dY {α : Type} [Inhabited α] {ms : List α} {i : Nat} (h : i < ms.length) : gt ms (i : Int) = ms[i] := jC h
theorem uA {rows : List MR} {i : Nat} (h : i < rows.length) : rowAt (mq rows) i = qs (gt rows (i : Int)).es := by
 unfold rowAt
 rw [dY h]
 simp [List.getD, h]
theorem kS {es : List RE} {j : Nat} (h : j < es.length) : (qs es).getD j 0 = (gt es (j : Int)).q := by
 rw [dY h]
 simp [List.getD, h]
theorem aEZ {rows : List MR} {i j : Nat} (h : i < rows.length) (hj : j < (gt rows (i : Int)).es.length) : at2 (mq rows) i j = (gt (gt rows (i : Int)).es (j : Int)).q := by
 unfold at2
 rw [uA h, kS hj]
theorem aIH {rows : List MR} {i : Nat} {r : MR} : mq (rows.set i r) = (mq rows).set i (qs r.es) := by simp [List.map_set]
theorem xJ {A : Mt} {j : Nat} : ∀ (f k : Nat), k + f = A.length → k ≤ kX A j f k ∧ kX A j f k ≤ A.length ∧ (kX A j f k < A.length → at2 A (kX A j f k) j ≠ 0)
 | 0, k, h => ⟨Nat.le_refl _, by simp [kX]; omega, fun h' => by simp [kX] at h'; omega⟩
 | f + 1, k, h => by
  unfold kX
  by_cases hc : k < A.length ∧ at2 A k j = 0
  ·rw [if_pos hc]
   obtain ⟨h1, h2, h3⟩ := xJ (A := A) (j := j) f (k + 1) (by omega)
   exact ⟨by omega, h2, h3⟩
  ·rw [if_neg hc]
   exact ⟨Nat.le_refl _, by omega, fun hk h0 => hc ⟨hk, h0⟩⟩
/- permutations -/
theorem nX {α : Type} : ∀ (l : List α) (i : Nat) (h : i < l.length), l.Perm (l[i] :: l.eraseIdx i)
 | [], _, h => by simp at h
 | x :: r, 0, _ => by simp
 | x :: r, i + 1, h => by
  have ih := nX r i (by simpa using h)
  simp only [List.getElem_cons_succ, List.eraseIdx_cons_succ]
  exact (List.Perm.cons _ ih).trans (List.Perm.swap _ _ _)
def kR {α : Type} (l : List α) (i j : Nat) : List α := (l.eraseIdx (max i j)).eraseIdx (min i j)
theorem oK {α : Type} (l : List α) (i j : Nat) (hi : i < l.length) (hj : j < l.length) (hij : i ≠ j) : l.Perm (l[i] :: l[j] :: kR l i j) := by
 rcases Nat.lt_or_ge i j with h | h
 ·have e1 : max i j = j := by omega
  have e2 : min i j = i := by omega
  unfold kR
  rw [e1, e2]
  have h1 := nX l j hj
  have hl : i < (l.eraseIdx j).length := by rw [List.length_eraseIdx_of_lt hj]; omega
  have h2 := nX (l.eraseIdx j) i hl
  rw [List.getElem_eraseIdx_of_lt hl h] at h2
  exact (h1.trans (List.Perm.cons _ h2)).trans (List.Perm.swap _ _ _)
 ·have e1 : max i j = i := by omega
  have e2 : min i j = j := by omega
  unfold kR
  rw [e1, e2]
  have h1 := nX l i hi
  have hl : j < (l.eraseIdx i).length := by rw [List.length_eraseIdx_of_lt hi]; omega
  have h2 := nX (l.eraseIdx i) j hl
  rw [List.getElem_eraseIdx_of_lt hl (by omega)] at h2
  exact h1.trans (List.Perm.cons _ h2)
theorem rD {α : Type} (l : List α) (i j : Nat) (x : α) (hij : i ≠ j) : kR (l.set i x) i j = kR l i j := by
 unfold kR
 rcases Nat.lt_or_ge i j with h | h
 ·have e1 : max i j = j := by omega
  have e2 : min i j = i := by omega
  rw [e1, e2]
  apply List.ext_getElem?
  intro n
  simp only [List.getElem?_eraseIdx, List.getElem?_set]
  split <;> split <;> (try split) <;> first | rfl | omega
 ·have e1 : max i j = i := by omega
  rw [e1, List.eraseIdx_set_eq]
theorem aCF {α : Type} (l : List α) (i : Nat) (x : α) : (l.set i x).eraseIdx i = l.eraseIdx i := List.eraseIdx_set_eq ..
theorem yV {rows : List MR} {i : Nat} {es : List RE} (hi : i < rows.length) (hl : es.length = (gt rows (i : Int)).es.length) : recs eM (rows.set i ⟨(gt rows (i : Int)).b, es⟩) = recs eM rows := by
 have h1 := oM (enc := eM) rows i ⟨(gt rows (i : Int)).b, es⟩ hi
 rw [← h1]
 have e : eM ⟨(gt rows (i : Int)).b, es⟩ = eM (gt rows (i : Int)) := by simp [eM, hl]
 rw [e, oM (enc := eM) rows i _ hi, dY hi, List.set_getElem_self]
end Go.Proofs.YtgeagiikkeiioaaGreat
