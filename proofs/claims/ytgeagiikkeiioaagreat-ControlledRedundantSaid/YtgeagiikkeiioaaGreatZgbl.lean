/- Maps from int to int that a call makes; ranging over one. -/
import Derived.Test.YtgeagiikkeiioaaGreatZgaw
set_option linter.unusedSimpArgs false
set_option linter.unusedVariables false
set_option maxRecDepth 100000
set_option maxHeartbeats 4000000
namespace Go.Fx
def fZ : List (Int × Int) → Nat → List MapEntry
 | [], _ => []
 | p :: r, n => ⟨.int .i64 p.1, .int .i64 p.2, n⟩ :: fZ r (n + 1)
def kG (es : List (Int × Int)) : Obj := .map (fZ es 0).toArray es.length
def look : List (Int × Int) → Int → Nat → Option (Nat × Int)
 | [], _, _ => none
 | p :: r, k, n => if k = p.1 then some (n, p.2) else look r k (n + 1)
def aBS (es : List (Int × Int)) (k v : Int) : List (Int × Int) := match look es k 0 with | some q => es.set q.1 (k, v) | none => es ++ [(k, v)]
theorem xO {j : IntKind} {k : Int} : ∀ (es : List (Int × Int)) (n i : Nat), Instr.findNow (.int j) (.int .i64 k) (fZ es n) i = some ((look es k i).map (fun p => (p.1, Value.int .i64 p.2)))
 | [], _, _ => rfl
 | p :: r, n, i => by
  simp only [fZ, Instr.findNow, Instr.sameNow, if_true, look]
  by_cases h : k = p.1
  ·simp [h]
  ·have : (k == p.1) = false := by simpa using h
   simp only [this, if_neg h]
   exact xO r (n + 1) (i + 1)
theorem aAZ {k : Int} : ∀ {es : List (Int × Int)} {i : Nat} {q : Nat × Int}, look es k i = some q → i ≤ q.1 ∧ es[q.1 - i]? = some (k, q.2)
 | [], _, _, h => by simp [look] at h
 | p :: r, i, q, h => by
  unfold look at h
  by_cases e : k = p.1
  ·rw [if_pos e] at h
   simp at h; subst h
   simp [e]
  ·rw [if_neg e] at h
   obtain ⟨h1, h2⟩ := aAZ h
   refine ⟨by omega, ?_⟩
   have : q.1 - i = (q.1 - (i + 1)) + 1 := by omega
   rw [this, List.getElem?_cons_succ]; exact h2
theorem aCW : ∀ (es : List (Int × Int)) (n j : Nat) (k v : Int) (w : Value), (es[j]?).map Prod.fst = some k → (fZ es n).modify j (fun e => ⟨.int .i64 k, .int .i64 v, e.born⟩) = fZ (es.set j (k, v)) n
 | [], _, _, _, _, _, h => by simp at h
 | p :: r, n, 0, k, v, _, h => by simp [fZ]
 | p :: r, n, j + 1, k, v, w, h => by
  simp only [fZ, List.set_cons_succ, List.modify_succ_cons]
  rw [aCW r (n + 1) j k v w (by simpa using h)]
theorem aAM : ∀ (es : List (Int × Int)) (n : Nat) (p : Int × Int), fZ es n ++ [⟨.int .i64 p.1, .int .i64 p.2, n + es.length⟩] = fZ (es ++ [p]) n
 | [], n, p => rfl
 | q :: r, n, p => by
  have := aAM r (n + 1) p
  simp only [fZ, List.cons_append, List.length_cons]
  rw [← this, show n + 1 + r.length = n + (r.length + 1) by omega]
theorem uT : ∀ (es : List (Int × Int)) (n i : Nat), (fZ es n)[i]? = (es[i]?).map (fun p => (⟨.int .i64 p.1, .int .i64 p.2, n + i⟩ : MapEntry))
 | [], _, _ => by simp [fZ]
 | p :: r, n, 0 => by simp [fZ]
 | p :: r, n, i + 1 => by
  simp only [fZ, List.getElem?_cons_succ]
  rw [uT r (n + 1) i, show n + 1 + i = n + (i + 1) by omega]
theorem aDG : ∀ (es : List (Int × Int)) (n : Nat), (fZ es n).length = es.length
 | [], _ => rfl
 | _ :: r, n => by simp [fZ, aDG r (n + 1)]
theorem aMU {es : List (Int × Int)} {n : Nat} {x : MapEntry} (h : x ∈ fZ es n) : ∃ i, i < es.length ∧ x.born = n + i ∧ ∃ p, es[i]? = some p ∧ x = ⟨.int .i64 p.1, .int .i64 p.2, n + i⟩ := by
 obtain ⟨i, hi, e⟩ := List.mem_iff_getElem?.1 h |>.imp fun i h => (⟨(List.getElem?_eq_some_iff.1 h).1, h⟩ : i < _ ∧ _)
 rw [aDG] at hi
 rw [uT] at e
 obtain ⟨p, hp, e⟩ := Option.map_eq_some_iff.1 e
 exact ⟨i, hi, by rw [← e], p, hp, e.symm⟩
class MapTy (P : Program) (t : TypeId) : Prop where
 go : ∃ k e, P.underlying t = some (.map k e) ∧ P.underlying k = some (.int .i64) ∧ ∃ i, P.info? e = some i ∧ i.zero = some (.int .i64 0)
section
variable {P : Program} {n : Nat} {G : Env} {ty : TypeId} {w : World}
theorem xK {k : TypeId} (h : P.underlying k = some (.int .i64)) (em : Bool) (x : Int) (w : World) : (Instr.checkKey em 10000 k (.int .i64 x)).run P w = .ok () w :=
 MapKept.run_checkKey (n := 9999) h (by simp [MapKept.IsKey]) em
theorem zA {k : TypeId} (h : P.underlying k = some (.int .i64)) (es : List (Int × Int)) (x : Int) (w : World) : (Instr.findKey k (.int .i64 x) (fZ es 0)).run P w = .ok ((look es x 0).map (fun p => (p.1, Value.int .i64 p.2))) w := by
 simp only [Instr.findKey, Sem.run_bind, fF h, Result.andThen_ok, xO]
 rfl
theorem pU {b : Nat} {es : List (Int × Int)} (hb : w.heap[b]? = some (kG es)) : (getObj b).run P w = .ok (.map (fZ es 0).toArray es.length) w := by
 simp [getObj, Sem.run, hb, kG]
theorem Eff_makeMap {t : TypeId} : Eff P n G (.makeMap t none) ty w (fun v w' => ∃ b, b = w.heap.size ∧ v = .map (some b) ∧ w'.heap[b]? = some (kG []) ∧ Ext [] w w') := by
 refine ⟨?_⟩
 intro a ha dst pos after guard
 refine nS (v := .map (some w.heap.size)) (w' := w.alloc (.map #[] 0)) ?_ ⟨_, ⟨_, rfl, rfl, ?_, Ext.alloc _ _ _⟩, rfl⟩
 ·have hrun : (Instr.makeMap t none).run P w = .ok (.map (some w.heap.size)) (w.alloc (.map #[] 0)) := rfl
  simp [execOp, hrun]
 ·exact heap_alloc_new w _
theorem aBM {b : Nat} {es es' : List (Int × Int)} (hb : w.heap[b]? = some (kG es)) : (setObj b (kG es')).run P w = .ok () { w with heap := w.heap.setIfInBounds b (kG es') } := by
 simp [setObj, Sem.run, hb, kG]
theorem Ext.setObj {b : Nat} {o : Obj} : Ext [b] w { w with heap := w.heap.setIfInBounds b o } := ⟨rfl, rfl, rfl, by simp, fun k hk hx => by
 simp only [List.mem_singleton] at hx
 show (w.heap.setIfInBounds b o)[k]? = _
 rw [Array.getElem?_setIfInBounds_ne (fun e => hx e.symm)]⟩
theorem aCJ {t : TypeId} {x y z : Operand} {b : Nat} {k v : Int} {es : List (Int × Int)} [ht : MapTy P t] (hx : ev G x = some (.map (some b))) (hy : ev G y = some (.int .i64 k)) (hz : ev G z = some (.int .i64 v)) (hb : w.heap[b]? = some (kG es)) :
  Eff P n G (.mapUpdate t x y z) ty w (fun u w' => u = undef ∧ w'.heap[b]? = some (kG (aBS es k v)) ∧ Ext [b] w w') := by
 refine ⟨?_⟩
 intro a ha dst pos after guard
 obtain ⟨kt, e, h1, h2, _⟩ := ht.go
 have hlt : b < w.heap.size := (Array.getElem?_eq_some_iff.1 hb).1
 refine aPI (w' := { w with heap := w.heap.setIfInBounds b (kG (aBS es k v)) }) ?_ ⟨_, ⟨rfl, ?_, Ext.setObj⟩, rfl⟩
 ·have hrun : (Instr.mapUpdate t (.map (some b)) (.int .i64 k) (.int .i64 v)).run P w = .ok () { w with heap := w.heap.setIfInBounds b (kG (aBS es k v)) } := by
   simp only [Instr.mapUpdate, Sem.run_bind, fF h1, Result.andThen_ok, pU hb, xK h2, zA h2]
   cases hl : look es k 0 with
   | none =>
    have e1 : (fZ es 0).toArray.push ⟨.int .i64 k, .int .i64 v, es.length⟩ = (fZ (es ++ [(k, v)]) 0).toArray := by
     rw [← aAM]; simp
    have e2 : Obj.map (fZ (es ++ [(k, v)]) 0).toArray (es.length + 1) = kG (es ++ [(k, v)]) := by simp [kG]
    simp only [Option.map_none, e1]
    rw [e2, aBM hb]
    simp [aBS, hl]
   | some q =>
    obtain ⟨_, hg⟩ := aAZ hl
    simp only [Nat.sub_zero] at hg
    have hk0 : (((fZ es 0).toArray[q.1]?).map (·.key)).getD (.int .i64 k) = .int .i64 k := by
     rw [List.getElem?_toArray, uT, hg]; rfl
    have hst : (Instr.keyThatStays (.int .i64 k) (.int .i64 k)).run P w = .ok (.int .i64 k) w := by
     simp [Instr.keyThatStays, Instr.sameBits]
    have e1 : (fZ es 0).toArray.modify q.1 (fun e => { e with key := .int .i64 k, val := .int .i64 v }) = (fZ (es.set q.1 (k, v)) 0).toArray := by
     rw [← aCW es 0 q.1 k v (.bool false) (by rw [hg]; rfl)]
     simp
    have e2 : Obj.map (fZ (es.set q.1 (k, v)) 0).toArray es.length = kG (es.set q.1 (k, v)) := by simp [kG]
    simp only [Option.map_some, Sem.run_bind, hk0, hst, Result.andThen_ok, e1]
    rw [e2, aBM hb]
    simp [aBS, hl]
  simp [execOp, ha.ev hx, ha.ev hy, ha.ev hz, hrun]
 ·show (w.heap.setIfInBounds b _)[b]? = _
  simp [hlt]
theorem aEX {t : TypeId} {x y : Operand} {b : Nat} {k : Int} {es : List (Int × Int)} [ht : MapTy P t] (hx : ev G x = some (.map (some b))) (hy : ev G y = some (.int .i64 k)) (hb : w.heap[b]? = some (kG es)) :
  Eff P n G (.lookup t x y true) ty w (fun u w' => u = .tuple #[.int .i64 (((look es k 0).map (·.2)).getD 0), .bool (look es k 0).isSome] ∧ w' = w) := by
 refine ⟨?_⟩
 intro a ha dst pos after guard
 obtain ⟨kt, e, h1, h2, i, h3, h4⟩ := ht.go
 have hrun : (Instr.lookup t (.map (some b)) (.int .i64 k) true).run P w = .ok (.tuple #[.int .i64 (((look es k 0).map (·.2)).getD 0), .bool (look es k 0).isSome]) w := by
  simp only [Instr.lookup, Sem.run_bind, fF h1, Result.andThen_ok, pU hb, Sem.run_pure, xK h2, zA h2]
  cases hl : look es k 0 with
  | none => simp [zeroValue, typeInfo, h3, h4]
  | some q => simp
 refine nS (v := _) (w' := w) ?_ ⟨_, ⟨rfl, rfl⟩, rfl⟩
 simp [execOp, ha.ev hx, ha.ev hy, hrun]
def yD (b : Nat) (es : List (Int × Int)) (seen : List Nat) : Obj := .mapIter (some b) es.length seen.toArray es.length
theorem aLT {t : TypeId} {x : Operand} {b : Nat} {es : List (Int × Int)} [ht : MapTy P t] (hx : ev G x = some (.map (some b))) (hb : w.heap[b]? = some (kG es)) :
  Eff P n G (.range t x) ty w (fun v w' => ∃ i, i = w.heap.size ∧ v = .pointer (some ⟨i, 0, none⟩) ∧ w'.heap[i]? = some (yD b es []) ∧ Ext [] w w') := by
 refine ⟨?_⟩
 intro a ha dst pos after guard
 obtain ⟨kt, e, h1, _⟩ := ht.go
 refine nS (v := .pointer (some ⟨w.heap.size, 0, none⟩)) (w' := w.alloc (.mapIter (some b) es.length #[] es.length)) ?_ ⟨_, ⟨_, rfl, rfl, ?_, Ext.alloc _ _ _⟩, rfl⟩
 ·have hrun : (Instr.range t (.map (some b))).run P w = .ok (.pointer (some ⟨w.heap.size, 0, none⟩)) (w.alloc (.mapIter (some b) es.length #[] es.length)) := by
   simp only [Instr.range, Sem.run_bind, fF h1, Result.andThen_ok, pU hb, Sem.run_pure]
   rfl
  simp [execOp, ha.ev hx, hrun]
 ·exact heap_alloc_new w _
theorem aDB {i b : Nat} {es : List (Int × Int)} {seen : List Nat} (hi : w.heap[i]? = some (yD b es seen)) : (getObj i).run P w = .ok (.mapIter (some b) es.length seen.toArray es.length) w := by
 simp [getObj, Sem.run, hi, yD]
theorem aLL {i b : Nat} {es : List (Int × Int)} {seen seen' : List Nat} (hi : w.heap[i]? = some (yD b es seen)) : (setObj i (yD b es seen')).run P w = .ok () { w with heap := w.heap.setIfInBounds i (yD b es seen') } := by
 simp [setObj, Sem.run, hi, yD]
theorem aOG {i b : Nat} {es : List (Int × Int)} {seen : List Nat} (hi : w.heap[i]? = some (yD b es seen)) (hb : w.heap[b]? = some (kG es)) :
  ((∀ j, j < es.length → j ∈ seen) ∧ (Instr.next (.pointer (some ⟨i, 0, none⟩)) false ty).run P w = .ok (.tuple #[.bool false]) w) ∨
  ∃ j, j < es.length ∧ j ∉ seen ∧ ∃ w1 : World, (w1 = w ∨ w1 = w.drew) ∧ (Instr.next (.pointer (some ⟨i, 0, none⟩)) false ty).run P w = .ok (.tuple #[.bool true, .int .i64 (gt es (j : Int)).1, .int .i64 (gt es (j : Int)).2]) { w1 with heap := w1.heap.setIfInBounds i (yD b es (seen ++ [j])) } := by
 have htest : (!seen.toArray.isEmpty && !(fZ es 0).toArray.isEmpty && (fZ es 0).toArray.all (fun x => decide (x.born ≥ es.length))) = false := by
  cases es with
  | nil => simp [fZ]
  | cons p r =>
   have : (fZ (p :: r) 0).toArray.all (fun x => decide (x.born ≥ (p :: r).length)) = false := by
    simp [fZ]
   rw [this]; simp
 simp only [Instr.next, Sem.run_bind, aDB hi, pU hb, Result.andThen_ok, htest, Bool.false_eq_true, if_false]
 have hmem : ∀ x ∈ (Array.filter (fun e => !seen.toArray.contains e.born) (fZ es 0).toArray).toList, ∃ j, j < es.length ∧ j ∉ seen ∧ x = ⟨.int .i64 (gt es (j : Int)).1, .int .i64 (gt es (j : Int)).2, j⟩ := fun x hx => by
  simp only [Array.toList_filter, List.mem_filter] at hx
  obtain ⟨j, hj, hbn, p, hp, rfl⟩ := aMU hx.1
  simp only [Nat.zero_add] at hbn hx ⊢
  refine ⟨j, hj, by simpa using hx.2, ?_⟩
  have : gt es (j : Int) = p := by rw [jC hj]; exact (List.getElem?_eq_some_iff.1 hp).2
  rw [this]
 have hall : (Array.filter (fun e => !seen.toArray.contains e.born) (fZ es 0).toArray).size = 0 → ∀ j, j < es.length → j ∈ seen := fun h0 j hj => by
  refine Classical.byContradiction (fun hn => ?_)
  have he : Array.filter (fun e => !seen.toArray.contains e.born) (fZ es 0).toArray = #[] := Array.eq_empty_of_size_eq_zero h0
  rw [Array.filter_eq_empty_iff] at he
  have hx := he ⟨.int .i64 (es[j]).1, .int .i64 (es[j]).2, j⟩ (by
   rw [List.mem_toArray]
   refine List.mem_iff_getElem?.2 ⟨j, ?_⟩
   rw [uT, List.getElem?_eq_getElem hj]; simp)
  exact hx (by simpa using hn)
 generalize Array.filter (fun e => !seen.toArray.contains e.born) (fZ es 0).toArray = L at hmem hall ⊢
 have e1 : L.filter (fun x => decide (x.born < es.length)) = L := Array.filter_eq_self.2 (fun x hx => by
  obtain ⟨j, hj, _, rfl⟩ := hmem x (by simpa using hx)
  simpa using hj)
 have e2 : L.filter (fun x => decide (x.born ≥ es.length)) = #[] := by
  rw [Array.filter_eq_empty_iff]
  intro x hx
  obtain ⟨j, hj, _, rfl⟩ := hmem x (by simpa using hx)
  simpa using hj
 simp only [e1, e2, Array.append_empty]
 by_cases h0 : L.size = 0
 ·left
  refine ⟨hall h0, ?_⟩
  have : L = #[] := Array.eq_empty_of_size_eq_zero h0
  subst this
  simp [choose, Sem.run, Question.forced]
 ·right
  have hne : L.isEmpty = false := by simp [Array.isEmpty, h0]
  simp only [hne, Bool.false_eq_true, if_false, Array.empty_append, Array.size_map]
  have hch : ∃ (j : Nat) (w1 : World), j < L.size ∧ (w1 = w ∨ w1 = w.drew) ∧ (choose (Question.mapNext L.size)).run P w = .ok j w1 := by
   by_cases hf : L.size ≤ 1
   ·exact ⟨0, w, by omega, .inl rfl, by simp [choose, Sem.run, Question.forced, hf]⟩
   ·exact ⟨_, w.drew, Nat.mod_lt _ (by omega), .inr rfl, by
     simp only [choose, Sem.run, Question.forced, decide_eq_true_eq, hf, if_false, Question.cut]
     rfl⟩
  obtain ⟨j, w1, hj, hal, hrun⟩ := hch
  obtain ⟨t, ht, hns, hLt⟩ := hmem L[j] (by simp)
  have hi1 : w1.heap[i]? = some (yD b es seen) := by rcases hal with rfl | rfl <;> exact hi
  refine ⟨t, ht, hns, w1, hal, ?_⟩
  have hpush : Obj.mapIter (some b) es.length (seen.toArray.push t) es.length = yD b es (seen ++ [t]) := by simp [yD]
  simp only [hrun, Array.getElem?_map, Array.getElem?_eq_getElem hj, Option.map_some, Sem.run_bind, Result.andThen_ok, hLt, hpush, aLL hi1]
  rfl
theorem aQL {x : Operand} {i b : Nat} {es : List (Int × Int)} {seen : List Nat} (hx : ev G x = some (.pointer (some ⟨i, 0, none⟩))) (hi : w.heap[i]? = some (yD b es seen)) (hb : w.heap[b]? = some (kG es)) :
  Eff P n G (.next x false) ty w (fun u w' => (u = .tuple #[.bool false] ∧ (∀ j, j < es.length → j ∈ seen) ∧ w' = w) ∨ ∃ j, j < es.length ∧ j ∉ seen ∧ u = .tuple #[.bool true, .int .i64 (gt es (j : Int)).1, .int .i64 (gt es (j : Int)).2] ∧ w'.heap[i]? = some (yD b es (seen ++ [j])) ∧ Ext [i] w w') := by
 refine ⟨?_⟩
 intro a ha dst pos after guard
 have hlt : i < w.heap.size := (Array.getElem?_eq_some_iff.1 hi).1
 rcases aOG (P := P) (ty := ty) hi hb with ⟨h1, h2⟩ | ⟨j, h1, h2, w1, h3, h4⟩
 ·refine nS (v := .tuple #[.bool false]) (w' := w) ?_ ⟨_, .inl ⟨rfl, h1, rfl⟩, rfl⟩
  simp [execOp, ha.ev hx, h2]
 ·refine nS (v := .tuple #[.bool true, .int .i64 (gt es (j : Int)).1, .int .i64 (gt es (j : Int)).2]) (w' := { w1 with heap := w1.heap.setIfInBounds i (yD b es (seen ++ [j])) }) ?_ ⟨_, .inr ⟨j, h1, h2, rfl, ?_, ?_⟩, rfl⟩
  ·simp [execOp, ha.ev hx, h4]
  ·have : i < w1.heap.size := by rcases h3 with rfl | rfl <;> exact hlt
   show (w1.heap.setIfInBounds i _)[i]? = _
   simp [this]
  ·rcases h3 with rfl | rfl
   ·exact Ext.setObj
   ·exact (Ext.drew _ _).trans Ext.setObj
theorem aLS {i b j : Nat} {es : List (Int × Int)} {seen : List Nat} (hj : j < es.length) (hi : w.heap[i]? = some (yD b es (seen ++ [j]))) (hb : w.heap[b]? = some (kG es)) :
  (Instr.entry (.pointer (some ⟨i, 0, none⟩))).run P w = .ok (.tuple #[.int .i64 (gt es (j : Int)).1, .int .i64 (gt es (j : Int)).2]) w := by
 have hback : (seen ++ [j]).toArray.back? = some j := by simp
 have hfind : ∀ (l : List (Int × Int)) (n k : Nat) (hk : k < l.length), (fZ l n).find? (fun e => e.born == n + k) = some ⟨.int .i64 l[k].1, .int .i64 l[k].2, n + k⟩ := by
  intro l
  induction l with
  | nil => intro n k hk; simp at hk
  | cons p r ih =>
   intro n k hk
   cases k with
   | zero => simp [fZ]
   | succ k =>
    have : (n == n + (k + 1)) = false := by simp
    simp only [fZ, List.find?_cons, this]
    have := ih (n + 1) k (by simpa using hk)
    rw [show n + 1 + k = n + (k + 1) by omega] at this
    simpa using this
 have hf : (fZ es 0).toArray.find? (fun e => e.born == j) = some ⟨.int .i64 (gt es (j : Int)).1, .int .i64 (gt es (j : Int)).2, j⟩ := by
  rw [← Array.find?_toList]
  have := hfind es 0 j hj
  simp only [Nat.zero_add] at this
  rw [jC hj]; exact this
 simp only [Instr.entry, Sem.run_bind, aDB hi, hback, pU hb, Result.andThen_ok, bne_self_eq_false, Bool.false_eq_true, if_false, hf]
 rfl
theorem aMZ {x : Operand} {i b j : Nat} {es : List (Int × Int)} {seen : List Nat} (hj : j < es.length) (hx : ev G x = some (.pointer (some ⟨i, 0, none⟩))) (hi : w.heap[i]? = some (yD b es (seen ++ [j]))) (hb : w.heap[b]? = some (kG es)) :
  Eff P n G (.entry x) ty w (fun u w' => u = .tuple #[.int .i64 (gt es (j : Int)).1, .int .i64 (gt es (j : Int)).2] ∧ w' = w) := by
 refine ⟨?_⟩
 intro a ha dst pos after guard
 refine nS (v := _) (w' := w) ?_ ⟨_, ⟨rfl, rfl⟩, rfl⟩
 simp [execOp, ha.ev hx, aLS hj hi hb]
end
section
variable {P : Program} {n : Nat} {ops : List Oper} {Q : Exit → Act → World → Prop} {m : Mode} {G : Env} {ty : TypeId} {pos : String} {af : Array Edge} {g : Option (Nat × Bool)} {l : List Oper} {X : List Nat} {w0 : World} {M M' : List Ent} {M2 : Nat → List Ent} {I : List bA}
theorem Mem.obj {w : World} {b : Nat} {o : Obj} (h : Mem X w0 M I w) (hm : .obj b o ∈ M) : w.heap[b]? = some o := h.ent _ hm
theorem aIZ {d : Nat} {t : TypeId} (hg : oD ops G g = some true) (hd : Nat.ble (d + 1) n = true)
  (k : ∀ b, OkD m X w0 (.obj b (kG []) :: M) I ∧ RD P n ops Q m.nextE l ((d, .map (some b)) :: G) X w0 (.obj b (kG []) :: M) I) :
  RD P n ops Q m (⟨some d, .makeMap t none, ty, pos, af, g⟩ :: l) G X w0 M I :=
 vC (d := some d) (K := fun v' M' I' => ∃ b, v' = .map (some b) ∧ M' = .obj b (kG []) :: M ∧ I' = I) hg
  (fun w hw => Eff_makeMap.mono (fun _ w' ⟨b, hb, hp, hB, hE⟩ => ⟨_, _, ⟨b, hp, rfl, rfl⟩, hw.push hE (by simp [Ent.blocks, hb]) (by simp [Ent.blocks]) hB⟩)) rfl hd
  (fun _ _ _ ⟨b, hp, hM, hI⟩ => by subst hp; subst hM; subst hI; exact k b)
theorem aSY {d : Option Nat} {t : TypeId} {x y z : Operand} {b : Nat} {kk v : Int} {es : List (Int × Int)} [MapTy P t] (hx : ev G x = some (.map (some b))) (hy : ev G y = some (.int .i64 kk)) (hz : ev G z = some (.int .i64 v)) (hr : Rep (.obj b (kG es)) (.obj b (kG (aBS es kk v))) M M') (hg : oD ops G g = some true) (hd : fits d n = true)
  (k : OkD m X w0 M' I ∧ RD P n ops Q m.nextE l (put G d undef) X w0 M' I) : RD P n ops Q m (⟨d, .mapUpdate t x y z, ty, pos, af, g⟩ :: l) G X w0 M I :=
 vC (K := fun v' M2 I2 => v' = undef ∧ M2 = M' ∧ I2 = I) hg
  (fun w hw => (aCJ hx hy hz (hw.obj hr.mem)).mono (fun _ w' ⟨hu, hB, hE⟩ => ⟨_, _, ⟨hu, rfl, rfl⟩, hw.upd hr hE (fun b hb => .inl hb) (by simp [Ent.blocks]) hB⟩)) rfl hd
  (fun _ _ _ ⟨hu, hM, hI⟩ => by subst hu; subst hM; subst hI; exact k)
theorem zH {d : Nat} {t : TypeId} {x y : Operand} {b : Nat} {kk : Int} {es : List (Int × Int)} [MapTy P t] (hx : ev G x = some (.map (some b))) (hy : ev G y = some (.int .i64 kk)) (hm : .obj b (kG es) ∈ M) (hg : oD ops G g = some true) (hd : Nat.ble (d + 1) n = true)
  (k : OkD m X w0 M I ∧ RD P n ops Q m.nextE l ((d, .tuple #[.int .i64 (((look es kk 0).map (·.2)).getD 0), .bool (look es kk 0).isSome]) :: G) X w0 M I) :
  RD P n ops Q m (⟨some d, .lookup t x y true, ty, pos, af, g⟩ :: l) G X w0 M I :=
 vC (d := some d) (K := fun v' M' I' => v' = .tuple #[.int .i64 (((look es kk 0).map (·.2)).getD 0), .bool (look es kk 0).isSome] ∧ M' = M ∧ I' = I) hg
  (fun w hw => (aEX hx hy (hw.obj hm)).mono (fun _ w' ⟨hu, hE⟩ => ⟨_, _, ⟨hu, rfl, rfl⟩, by rw [hE]; exact hw⟩)) rfl hd
  (fun _ _ _ ⟨hu, hM, hI⟩ => by subst hu; subst hM; subst hI; exact k)
theorem aPK {d : Nat} {t : TypeId} {x : Operand} {b : Nat} {es : List (Int × Int)} [MapTy P t] (hx : ev G x = some (.map (some b))) (hm : .obj b (kG es) ∈ M) (hg : oD ops G g = some true) (hd : Nat.ble (d + 1) n = true)
  (k : ∀ i, OkD m X w0 (.obj i (yD b es []) :: M) I ∧ RD P n ops Q m.nextE l ((d, .pointer (some ⟨i, 0, none⟩)) :: G) X w0 (.obj i (yD b es []) :: M) I) :
  RD P n ops Q m (⟨some d, .range t x, ty, pos, af, g⟩ :: l) G X w0 M I :=
 vC (d := some d) (K := fun v' M' I' => ∃ i, v' = .pointer (some ⟨i, 0, none⟩) ∧ M' = .obj i (yD b es []) :: M ∧ I' = I) hg
  (fun w hw => (aLT hx (hw.obj hm)).mono (fun _ w' ⟨i, hi, hp, hB, hE⟩ => ⟨_, _, ⟨i, hp, rfl, rfl⟩, hw.push hE (by simp [Ent.blocks, hi]) (by simp [Ent.blocks]) hB⟩)) rfl hd
  (fun _ _ _ ⟨b, hp, hM, hI⟩ => by subst hp; subst hM; subst hI; exact k b)
theorem aRB {d : Nat} {x : Operand} {i b : Nat} {es : List (Int × Int)} {seen : List Nat} (hx : ev G x = some (.pointer (some ⟨i, 0, none⟩))) (hi : .obj i (yD b es seen) ∈ M) (hb : .obj b (kG es) ∈ M) (hr : ∀ j, Rep (.obj i (yD b es seen)) (.obj i (yD b es (seen ++ [j]))) M (M2 j)) (hg : oD ops G g = some true) (hd : Nat.ble (d + 1) n = true)
  (k0 : (∀ j, j < es.length → j ∈ seen) → OkD m X w0 M I ∧ RD P n ops Q m.nextE l ((d, .tuple #[.bool false]) :: G) X w0 M I)
  (k1 : ∀ j, j < es.length → j ∉ seen → OkD m X w0 (M2 j) I ∧ RD P n ops Q m.nextE l ((d, .tuple #[.bool true, .int .i64 (gt es (j : Int)).1, .int .i64 (gt es (j : Int)).2]) :: G) X w0 (M2 j) I) :
  RD P n ops Q m (⟨some d, .next x false, ty, pos, af, g⟩ :: l) G X w0 M I :=
 vC (d := some d) (K := fun v' M' I' => I' = I ∧ ((v' = .tuple #[.bool false] ∧ M' = M ∧ ∀ j, j < es.length → j ∈ seen) ∨ ∃ j, j < es.length ∧ j ∉ seen ∧ v' = .tuple #[.bool true, .int .i64 (gt es (j : Int)).1, .int .i64 (gt es (j : Int)).2] ∧ M' = M2 j)) hg
  (fun w hw => (aQL hx (hw.obj hi) (hw.obj hb)).mono (fun _ w' h => by
   rcases h with ⟨h1, h2, h3⟩ | ⟨j, h1, h2, h3, h4, h5⟩
   ·subst h3; exact ⟨M, I, ⟨rfl, .inl ⟨h1, rfl, h2⟩⟩, hw⟩
   ·exact ⟨M2 j, I, ⟨rfl, .inr ⟨j, h1, h2, h3, rfl⟩⟩, hw.upd (hr j) h5 (fun b hb => .inl hb) (by simp [Ent.blocks]) h4⟩)) rfl hd
  (fun _ _ _ ⟨hI, h⟩ => by
   subst hI
   rcases h with ⟨h1, h2, h3⟩ | ⟨j, h1, h2, h3, h4⟩
   ·subst h1; subst h2; exact k0 h3
   ·subst h3; subst h4; exact k1 j h1 h2)
theorem aQH {d : Nat} {x : Operand} {i b j : Nat} {es : List (Int × Int)} {seen : List Nat} (hj : j < es.length) (hx : ev G x = some (.pointer (some ⟨i, 0, none⟩))) (hi : .obj i (yD b es (seen ++ [j])) ∈ M) (hb : .obj b (kG es) ∈ M) (hg : oD ops G g = some true) (hd : Nat.ble (d + 1) n = true)
  (k : OkD m X w0 M I ∧ RD P n ops Q m.nextE l ((d, .tuple #[.int .i64 (gt es (j : Int)).1, .int .i64 (gt es (j : Int)).2]) :: G) X w0 M I) :
  RD P n ops Q m (⟨some d, .entry x, ty, pos, af, g⟩ :: l) G X w0 M I :=
 vC (d := some d) (K := fun v' M' I' => v' = .tuple #[.int .i64 (gt es (j : Int)).1, .int .i64 (gt es (j : Int)).2] ∧ M' = M ∧ I' = I) hg
  (fun w hw => (aMZ hj hx (hw.obj hi) (hw.obj hb)).mono (fun _ w' ⟨hu, hE⟩ => ⟨_, _, ⟨hu, rfl, rfl⟩, by rw [hE]; exact hw⟩)) rfl hd
  (fun _ _ _ ⟨hu, hM, hI⟩ => by subst hu; subst hM; subst hI; exact k)
end
end Go.Fx
