/- Arguments, opened: slices of records, structs with slices. Arguments opened: matrices, lists, fractions, wherever they lie. What the laws of matrices share. Vectors of space in memory; products of lists. consensus: whole, over, rows, formed. Chapter 29, plain: least squares. -/
import Derived.Test.YtjbhdfpjnjedhaaGreatZpab
import Derived.Test.YtjbhdfpjnjedhaaGreatZpae
import Derived.Test.YtjbhdfpjnjedhaaGreatZpaz
import Derived.Test.YtjbhdfpjnjedhaaGreatZpbg
import Derived.Test.YtjbhdfpjnjedhaaGreatZpbf
import Derived.Test.YtjbhdfpjnjedhaaGreatZpba
import Derived.Test.YtjbhdfpjnjedhaaGreatZpas
import Derived.Test.YtjbhdfpjnjedhaaGreatZpan
import Derived.Test.YtjbhdfpjnjedhaaGreatZpbe
import Derived.Test.YtjbhdfpjnjedhaaGreatZpbc
set_option linter.unusedSimpArgs false
set_option linter.unusedVariables false
set_option maxRecDepth 100000
set_option maxHeartbeats 4000000
namespace Go.Fx
open Go.ChangeShapes Go.WideShapes Go.RowKit Go.ChangeAt
section
variable {H : Type} {enc : TypeId × Value → H} {P : Program} {W : World}
theorem aBD {sz : Nat} : ∀ (rows : List (List Value)) (k : Nat) (v : Value), (∀ r ∈ rows, r.length = sz) → rows.flatten[k]? = some v → ∃ i row, rows[i]? = some row ∧ i * sz ≤ k ∧ row[k - i * sz]? = some v
 | [], k, v, _, h => by simp at h
 | r :: rows, k, v, hr, h => by
  rw [List.flatten_cons] at h
  have hl := hr r (by simp)
  by_cases hk : k < r.length
  ·rw [List.getElem?_append_left hk] at h
   exact ⟨0, r, by simp, by omega, by simpa using h⟩
  ·rw [List.getElem?_append_right (by omega)] at h
   obtain ⟨i, row, h1, h2, h3⟩ := aBD rows _ v (fun r' hr' => hr r' (by simp [hr'])) h
   refine ⟨i + 1, row, by simpa using h1, by rw [Nat.add_mul]; omega, ?_⟩
   rw [← h3]
   congr 1
   rw [Nat.add_mul]; omega
theorem aNV {base fuel : Nat} {t e : TypeId} {v : Value} {x : DataW H × List MemPlace} (ht : P.underlying t = some (.slice e)) (hv : Value.okWide P W .any base t v) (h : DataW.trod enc P W 0 (fun _ => true) true fuel t v.cells.toList = some x) :
  ∃ (a : Option Addr) (len c : Nat), v = .slice a len c ∧ (len : Int) ≤ 9223372036854775807 ∧ len ≤ c ∧ (Ok a ∨ (a = none ∧ len = 0 ∧ c = 0)) ∧
   ∃ rows : List (List Value), rows.length = len ∧ (∀ r ∈ rows, r.length = P.cellsOf e ∧ ∃ n y, DataW.trod enc P W 0 (fun _ => true) true n e r = some y) ∧ Sl [] W a rows.flatten := by
 obtain ⟨a, len, c, rfl⟩ := okWide_slice ht hv
 obtain ⟨h1, h2, h3⟩ := aOX ht hv
 refine ⟨a, len, c, rfl, h1, h2, h3, ?_⟩
 rcases DataW.trod_slice ht h with ⟨hcs, _⟩ | ⟨a', len', cap', elems, rest, n, _, hcs, _, _, _, _, hlen, hel, _, _⟩
 ·simp [Value.cells] at hcs
  obtain ⟨rfl, rfl, rfl⟩ := hcs
  exact ⟨[], rfl, by simp, Sl.nil _ _ _⟩
 ·simp [Value.cells] at hcs
  obtain ⟨rfl, rfl, rfl⟩ := hcs
  have hok : Ok (some a') := h3.resolve_right (by simp)
  have each : ∀ i, i < len → ∃ cs y, W.cells? 0 (a'.add (i * P.cellsOf e)) (P.cellsOf e) = some cs ∧ DataW.trod enc P W 0 (fun _ => true) true n e cs = some y := fun i hi => by
   have := hel i hi
   rw [List.getElem?_eq_getElem (by omega), Option.bind_eq_some_iff] at this
   obtain ⟨cs, h1, h2⟩ := this
   exact ⟨cs, _, h1, h2⟩
  refine ⟨(List.range len).map (fun i => (W.cells? 0 (a'.add (i * P.cellsOf e)) (P.cellsOf e)).getD []), by simp, ?_, ?_⟩
  ·intro r hr
   obtain ⟨i, hi, rfl⟩ := List.mem_map.1 hr
   obtain ⟨cs, y, h4, h5⟩ := each i (by simpa using hi)
   rw [h4]
   exact ⟨(World.cells?_some h4).2.1, n, y, h5⟩
  ·intro j v hj
   have hall : ∀ r ∈ (List.range len).map (fun i => (W.cells? 0 (a'.add (i * P.cellsOf e)) (P.cellsOf e)).getD []), r.length = P.cellsOf e := by
    intro r hr
    obtain ⟨i, hi, rfl⟩ := List.mem_map.1 hr
    obtain ⟨cs, y, h4, h5⟩ := each i (by simpa using hi)
    rw [h4]
    exact (World.cells?_some h4).2.1
   obtain ⟨i, row, h4, h5, h6⟩ := aBD _ j v hall hj
   rw [List.getElem?_map] at h4
   obtain ⟨i', hi', rfl⟩ := Option.map_eq_some_iff.1 h4
   have hii : i' = i ∧ i < len := by
    obtain ⟨q1, q2⟩ := List.getElem?_eq_some_iff.1 hi'
    rw [List.getElem_range] at q2
    exact ⟨q2.symm, by simpa using q1⟩
   obtain ⟨rfl, hil⟩ := hii
   obtain ⟨cs, y, h7, h8⟩ := each i' hil
   rw [h7] at h6
   simp only [Option.getD_some] at h6
   obtain ⟨_, hl, hc⟩ := World.cells?_some h7
   have hlt : j - i' * P.cellsOf e < P.cellsOf e := by
    have := (List.getElem?_eq_some_iff.1 h6).1
    omega
   have hcell := hc _ hlt
   rw [h6] at hcell
   refine ⟨hok, by simp, ?_⟩
   obtain ⟨b, o, eq⟩ := hok.cases
   injection eq with eq
   subst eq
   rw [add_lit, add_lit] at hcell
   rw [← hcell]
   simp only [pt, bl, of, Option.getD_some]
   congr 2
   omega
theorem aFQ {α : Type} {en : α → List Value} {Pm : α → Prop} {base : Nat} {t e : TypeId} {v : Value} {d : DataW H} {p : List MemPlace} (ht : P.underlying t = some (.slice e)) (hdec : ∀ (r : List Value) n y, r.length = P.cellsOf e → DataW.trod enc P W 0 (fun _ => true) true n e r = some y → ∃ m, r = en m ∧ Pm m)
  (hv : Value.okWide P W .any base t v) (h : DataW.Trod enc P W 0 (fun _ => true) true t v d p) :
  ∃ (a : Option Addr) (ms : List α) (c : Nat), v = .slice a ms.length c ∧ Sl [] W a (recs en ms) ∧ (∀ m ∈ ms, Pm m) ∧ (ms.length : Int) ≤ 9223372036854775807 ∧ ms.length ≤ c ∧ (Ok a ∨ (a = none ∧ ms.length = 0 ∧ c = 0)) := by
 obtain ⟨fuel, hf⟩ := h
 obtain ⟨a, len, c, rfl, h1, h2, h3, rows, hl, hr, hs⟩ := aNV ht hv hf
 have key : ∀ rows : List (List Value), (∀ r ∈ rows, r.length = P.cellsOf e ∧ ∃ n y, DataW.trod enc P W 0 (fun _ => true) true n e r = some y) → ∃ ms : List α, rows = ms.map en ∧ ∀ m ∈ ms, Pm m := by
  intro rows
  induction rows with
  | nil => intro _; exact ⟨[], rfl, by simp⟩
  | cons r rows ih =>
   intro hr
   obtain ⟨hrl, n, y, hy⟩ := hr r (by simp)
   obtain ⟨m, rfl, hm⟩ := hdec r n y hrl hy
   obtain ⟨ms, rfl, hms⟩ := ih (fun r' hr' => hr r' (by simp [hr']))
   exact ⟨m :: ms, rfl, fun m' hm' => by
    rcases List.mem_cons.1 hm' with rfl | hm'
    ·exact hm
    ·exact hms m' hm'⟩
 obtain ⟨ms, rfl, hms⟩ := key rows hr
 have hlen : ms.length = len := by simpa using hl
 subst hlen
 refine ⟨a, ms, c, rfl, ?_, hms, h1, h2, h3⟩
 rw [← List.flatMap_def] at hs
 exact hs
theorem aFY {base : Nat} {t : TypeId} {v : Value} {d : DataW H} {p : List MemPlace} {fs : Array Field} (ht : P.underlying t = some (.struct fs)) (hv : Value.okWide P W .any base t v) (h : DataW.Trod enc P W 0 (fun _ => true) true t v d p) :
  ∃ cs : List Value, v = .agg cs.toArray ∧ cs.length = P.cellsOf t ∧ Row.okWide P W .any base t cs.toArray ∧ ∀ (i : Nat) (f : Field), fs[i]? = some f → ∃ n y, DataW.trod enc P W 0 (fun _ => true) true n f.type ((cs.drop f.offset).take (P.cellsOf f.type)) = some y := by
 simp only [Value.okWide, ht] at hv
 obtain ⟨cs, rfl, hsz, hrow⟩ := hv
 obtain ⟨fuel, hf⟩ := h
 obtain ⟨xs, n, rfl, _, hl, hxl, hx⟩ := DataW.trod_struct ht hf
 refine ⟨cs.toList, by simp, by simpa using hsz, by simpa using hrow, fun i f hfi => ?_⟩
 have hi : i < fs.size := (Array.getElem?_eq_some_iff.1 hfi).1
 have := hx i f hfi
 rw [List.getElem?_eq_getElem (by omega)] at this
 exact ⟨n, _, this⟩
theorem uC {t : TypeId} {k : IntKind} {n : Nat} {cs : List Value} {y : DataW H × List MemPlace} (ht : P.underlying t = some (.int k)) (h : DataW.trod enc P W 0 (fun _ => true) true n t cs = some y) : ∃ x : Int, cs = [.int k x] ∧ (Lit.int k x).wf = true := by
 obtain ⟨m, h1, _, h2⟩ := DataW.trod_int ht h
 exact ⟨m, h1, h2⟩
theorem aPW {t : TypeId} {k : IntKind} {m n : Nat} {cs : List Value} {y : DataW H × List MemPlace} {fs : Array Field} (ht : P.underlying t = some (.struct fs)) (hf : fs.toList.map (fun (f : Field) => (f.offset, P.cellsOf f.type)) = (List.range m).map (fun i => (i, 1))) (hk : ∀ f ∈ fs.toList, P.underlying f.type = some (.int k)) (hl : cs.length = m)
  (h : DataW.trod enc P W 0 (fun _ => true) true n t cs = some y) : ∃ xs : List Int, cs = xs.map (Value.int k) ∧ xs.length = m ∧ ∀ x ∈ xs, (Lit.int k x).wf = true := by
 obtain ⟨zs, n', rfl, _, _, hzl, hz⟩ := DataW.trod_struct ht h
 have each : ∀ i, i < m → ∃ x : Int, cs[i]? = some (.int k x) ∧ (Lit.int k x).wf = true := fun i hi => by
  have hsz : fs.toList.length = m := by have := congrArg List.length hf; simpa using this
  obtain ⟨f, hfi⟩ : ∃ f, fs.toList[i]? = some f := ⟨_, List.getElem?_eq_getElem (by omega)⟩
  have hoff : (f.offset, P.cellsOf f.type) = (i, 1) := by
   have : (fs.toList.map (fun f => (f.offset, P.cellsOf f.type)))[i]? = some (f.offset, P.cellsOf f.type) := by rw [List.getElem?_map, hfi]; rfl
   rw [hf, List.getElem?_map, List.getElem?_range hi] at this
   simpa using this.symm
  injection hoff with ho hc
  have hf2 : fs[i]? = some f := by simpa using hfi
  have := hz i f hf2
  rw [List.getElem?_eq_getElem (by rw [hzl]; exact (Array.getElem?_eq_some_iff.1 hf2).1), ho, hc] at this
  obtain ⟨x, hx, hw⟩ := uC (hk f (List.mem_of_getElem? hfi)) this
  refine ⟨x, ?_, hw⟩
  have : ((cs.drop i).take 1)[0]? = some (.int k x) := by rw [hx]; rfl
  rw [List.getElem?_take, if_pos (by omega), List.getElem?_drop] at this
  simpa using this
 refine ⟨cs.map (fun v => match v with | .int _ x => x | _ => 0), ?_, by simpa using hl, ?_⟩
 ·apply List.ext_getElem
  ·simp
  ·intro i h1 h2
   obtain ⟨x, hx, _⟩ := each i (by omega)
   have : cs[i] = .int k x := by
    have := (List.getElem?_eq_some_iff.1 hx).2
    exact this
   simp [this]
 ·intro x hx
  obtain ⟨v, hv, rfl⟩ := List.mem_map.1 hx
  obtain ⟨i, hi, rfl⟩ := List.mem_iff_getElem.1 hv
  obtain ⟨y, hy, hw⟩ := each i (by omega)
  have : cs[i] = .int k y := (List.getElem?_eq_some_iff.1 hy).2
  rw [this]
  exact hw
theorem Mem.startS {W : World} {I : List aY} {a : Option Addr} {cs : List Value} (h : Mem [] W [] I W) (hs : Sl [] W a cs) : Mem [] W [] (aO a cs :: I) W := h.add (φ := aO a cs) ⟨hs⟩
end
end Go.Fx
namespace Go.Proofs.YtjbhdfpjnjedhaaGreat
open Go Go.Fx
open Go.ChangeShapes Go.WideShapes Go.RowKit Go.ChangeAt
section
variable {H : Type} {enc : TypeId × Value → H} {P : Program} {W : World}
theorem aLG {fuel : Nat} {t e : TypeId} {cs : List Value} {x : DataW H × List MemPlace} (ht : P.underlying t = some (.slice e)) (hc : 1 ≤ P.cellsOf e) (h : DataW.trod enc P W 0 (fun _ => true) true fuel t cs = some x) :
  ∃ (a : Option Addr) (len c : Nat), cs = [.slice a len c] ∧ (len : Int) ≤ 9223372036854775807 ∧ Cap a len c ∧
   ∃ rows : List (List Value), rows.length = len ∧ (∀ r ∈ rows, r.length = P.cellsOf e ∧ ∃ n y, DataW.trod enc P W 0 (fun _ => true) true n e r = some y) ∧ Sl [] W a rows.flatten := by
 rcases DataW.trod_slice ht h with ⟨hcs, _⟩ | ⟨a', len, c, elems, rest, n, _, hcs, _, _, hlc, hcm, hlen, hel, hsp, _⟩
 ·exact ⟨none, 0, 0, hcs, by omega, ⟨Nat.le_refl _, .inr ⟨rfl, rfl⟩⟩, [], rfl, by simp, Sl.nil _ _ _⟩
 ·have hm : maxLen = 9223372036854775807 := by decide
  obtain ⟨hrl, hsp⟩ := hsp rfl
  have hspot : 0 < c → Ok (some a') := fun h0 => by
   have : ∃ v, W.cell? a' = some v := by
    by_cases hl : 0 < len
    ·have := hel 0 hl
     rw [List.getElem?_eq_getElem (by omega), Option.bind_eq_some_iff] at this
     obtain ⟨cs', h1, _⟩ := this
     obtain ⟨_, hl2, hcell⟩ := World.cells?_some h1
     have := hcell 0 (by omega)
     rw [List.getElem?_eq_getElem (by omega)] at this
     have e1 : (a'.add (0 * P.cellsOf e)).add 0 = a' := by simp [Addr.add]
     rw [e1] at this
     exact ⟨_, this⟩
    ·have hl0 : len = 0 := by omega
     have := hsp 0 (by omega)
     rw [List.getElem?_eq_getElem (by omega), Option.bind_eq_some_iff] at this
     obtain ⟨cs', h1, _⟩ := this
     obtain ⟨_, hl2, hcell⟩ := World.cells?_some h1
     have := hcell 0 (by omega)
     rw [List.getElem?_eq_getElem (by omega)] at this
     have e1 : (a'.add ((len + 0) * P.cellsOf e)).add 0 = a' := by simp [Addr.add, hl0]
     rw [e1] at this
     exact ⟨_, this⟩
   obtain ⟨v, hv⟩ := this
   unfold World.cell? at hv
   cases a' with
   | mk b o s =>
    have : s = none := by
     cases s with
     | none => rfl
     | some s => split at hv <;> simp at hv
    subst this
    exact Ok.mk b o
  have hcap : Cap (some a') len c := ⟨hlc, by
   by_cases h0 : 0 < c
   ·exact .inl (hspot h0)
   ·exact .inr ⟨by omega, by omega⟩⟩
  refine ⟨some a', len, c, hcs, by omega, hcap, ?_⟩
  have each : ∀ i, i < len → ∃ cs y, W.cells? 0 (a'.add (i * P.cellsOf e)) (P.cellsOf e) = some cs ∧ DataW.trod enc P W 0 (fun _ => true) true n e cs = some y := fun i hi => by
   have := hel i hi
   rw [List.getElem?_eq_getElem (by omega), Option.bind_eq_some_iff] at this
   obtain ⟨cs, h1, h2⟩ := this
   exact ⟨cs, _, h1, h2⟩
  refine ⟨(List.range len).map (fun i => (W.cells? 0 (a'.add (i * P.cellsOf e)) (P.cellsOf e)).getD []), by simp, ?_, ?_⟩
  ·intro r hr
   obtain ⟨i, hi, rfl⟩ := List.mem_map.1 hr
   obtain ⟨cs, y, h4, h5⟩ := each i (by simpa using hi)
   rw [h4]
   exact ⟨(World.cells?_some h4).2.1, n, y, h5⟩
  ·intro j v hj
   have hall : ∀ r ∈ (List.range len).map (fun i => (W.cells? 0 (a'.add (i * P.cellsOf e)) (P.cellsOf e)).getD []), r.length = P.cellsOf e := by
    intro r hr
    obtain ⟨i, hi, rfl⟩ := List.mem_map.1 hr
    obtain ⟨cs, y, h4, h5⟩ := each i (by simpa using hi)
    rw [h4]
    exact (World.cells?_some h4).2.1
   obtain ⟨i, row, h4, h5, h6⟩ := aBD _ j v hall hj
   rw [List.getElem?_map] at h4
   obtain ⟨i', hi', rfl⟩ := Option.map_eq_some_iff.1 h4
   have hii : i' = i ∧ i < len := by
    obtain ⟨q1, q2⟩ := List.getElem?_eq_some_iff.1 hi'
    rw [List.getElem_range] at q2
    exact ⟨q2.symm, by simpa using q1⟩
   obtain ⟨rfl, hil⟩ := hii
   have hok : Ok (some a') := hspot (by omega)
   obtain ⟨cs, y, h7, h8⟩ := each i' hil
   rw [h7] at h6
   simp only [Option.getD_some] at h6
   obtain ⟨_, hl, hc'⟩ := World.cells?_some h7
   have hlt : j - i' * P.cellsOf e < P.cellsOf e := by
    have := (List.getElem?_eq_some_iff.1 h6).1
    omega
   have hcell := hc' _ hlt
   rw [h6] at hcell
   refine ⟨hok, by simp, ?_⟩
   obtain ⟨b, o, eq⟩ := hok.cases
   injection eq with eq
   subst eq
   rw [add_lit, add_lit] at hcell
   rw [← hcell]
   simp only [pt, bl, of, Option.getD_some]
   congr 2
   omega
theorem aIX {α : Type} {en : α → List Value} {Pm : α → Prop} {fuel : Nat} {t e : TypeId} {cs : List Value} {x : DataW H × List MemPlace} (ht : P.underlying t = some (.slice e)) (hc : 1 ≤ P.cellsOf e)
  (hdec : ∀ (r : List Value) n y, r.length = P.cellsOf e → DataW.trod enc P W 0 (fun _ => true) true n e r = some y → ∃ m, r = en m ∧ Pm m) (h : DataW.trod enc P W 0 (fun _ => true) true fuel t cs = some x) :
  ∃ (a : Option Addr) (ms : List α) (c : Nat), cs = [.slice a ms.length c] ∧ Sl [] W a (recs en ms) ∧ (∀ m ∈ ms, Pm m) ∧ (ms.length : Int) ≤ 9223372036854775807 ∧ Cap a ms.length c := by
 obtain ⟨a, len, c, rfl, h1, h3, rows, hl, hr, hs⟩ := aLG ht hc h
 have key : ∀ rows : List (List Value), (∀ r ∈ rows, r.length = P.cellsOf e ∧ ∃ n y, DataW.trod enc P W 0 (fun _ => true) true n e r = some y) → ∃ ms : List α, rows = ms.map en ∧ ∀ m ∈ ms, Pm m := by
  intro rows
  induction rows with
  | nil => intro _; exact ⟨[], rfl, by simp⟩
  | cons r rows ih =>
   intro hr
   obtain ⟨hrl, n, y, hy⟩ := hr r (by simp)
   obtain ⟨m, rfl, hm⟩ := hdec r n y hrl hy
   obtain ⟨ms, rfl, hms⟩ := ih (fun r' hr' => hr r' (by simp [hr']))
   exact ⟨m :: ms, rfl, fun m' hm' => by
    rcases List.mem_cons.1 hm' with rfl | hm'
    ·exact hm
    ·exact hms m' hm'⟩
 obtain ⟨ms, rfl, hms⟩ := key rows hr
 have hlen : ms.length = len := by simpa using hl
 subst hlen
 refine ⟨a, ms, c, rfl, ?_, hms, h1, h3⟩
 rw [← List.flatMap_def] at hs
 exact hs
theorem aCD {tr t0 t1 : TypeId} {fr : Array Field} {m k n : Nat} {cs : List Value} {y : DataW H × List MemPlace} (hr : P.underlying tr = some (.struct fr)) (hfr : fr.toList.map (fun f => (f.offset, f.type)) = [(0, t0), (m, t1)]) (cm : P.cellsOf t0 = m) (ck : P.cellsOf t1 = k) (c5 : P.cellsOf tr = m + k) (h : DataW.trod enc P W 0 (fun _ => true) true n tr cs = some y) :
  cs.length = m + k ∧ ∃ n' z0 z1, DataW.trod enc P W 0 (fun _ => true) true n' t0 (cs.take m) = some z0 ∧ DataW.trod enc P W 0 (fun _ => true) true n' t1 (cs.drop m) = some z1 := by
 obtain ⟨zs, n', rfl, rfl, hl, hzl, hz⟩ := DataW.trod_struct hr h
 have hsz : fr.toList.length = 2 := by have := congrArg List.length hfr; simpa using this
 obtain ⟨f0, f1, hfs⟩ : ∃ f0 f1, fr.toList = [f0, f1] := by
  match hh : fr.toList, hsz with
  | [a, b], _ => exact ⟨a, b, rfl⟩
 rw [hfs] at hfr
 simp only [List.map_cons, List.map_nil, List.cons.injEq, Prod.mk.injEq, and_true] at hfr
 obtain ⟨⟨o0, e0⟩, o1, e1⟩ := hfr
 rw [c5] at hl
 have hg0 : fr[0]? = some f0 := by rw [← Array.getElem?_toList, hfs]; rfl
 have hg1 : fr[1]? = some f1 := by rw [← Array.getElem?_toList, hfs]; rfl
 have h0 := hz 0 f0 hg0
 have h1 := hz 1 f1 hg1
 rw [o0, e0, cm] at h0
 rw [o1, e1, ck] at h1
 have hz2 : zs.length = 2 := by rw [hzl]; simpa using hsz
 obtain ⟨z0, z1, rfl⟩ : ∃ z0 z1, zs = [z0, z1] := by
  match zs, hz2 with
  | [a, b], _ => exact ⟨a, b, rfl⟩
 simp only [List.drop_zero, List.getElem?_cons_zero, List.getElem?_cons_succ] at h0 h1
 rw [List.take_of_length_le (l := cs.drop m) (by simp; omega)] at h1
 exact ⟨hl, n', z0, z1, h0, h1⟩
theorem aQJ {t tb ts te : TypeId} {fs : Array Field} {n : Nat} {cs : List Value} {y : DataW H × List MemPlace} (ht : P.underlying t = some (.struct fs)) (hf : fs.toList.map (fun f => (f.offset, f.type)) = [(0, tb), (1, ts)]) (hb : P.underlying tb = some .bool) (hs : P.underlying ts = some (.slice te)) (he : P.underlying te = some (.int .u32))
  (c1 : P.cellsOf tb = 1) (c2 : P.cellsOf ts = 1) (c3 : P.cellsOf te = 1) (c4 : P.cellsOf t = 2) (h : DataW.trod enc P W 0 (fun _ => true) true n t cs = some y) :
  ∃ (nb : Bool) (a : Option Addr) (g : List Int) (c : Nat), cs = [.bool nb, .slice a g.length c] ∧ (∀ x ∈ g, 0 ≤ x) ∧ Sl [] W a (recs eG g) ∧ Cap a g.length c ∧ (g.length : Int) ≤ 9223372036854775807 := by
 obtain ⟨hl, n', z0, z1, h0, h1⟩ := aCD ht hf c1 c2 c4 h
 obtain ⟨u0, u1, rfl⟩ : ∃ u0 u1, cs = [u0, u1] := by
  match cs, hl with
  | [a, b], _ => exact ⟨a, b, rfl⟩
 obtain ⟨nb, hnb, _⟩ := DataW.trod_bool hb h0
 simp at hnb
 subst hnb
 obtain ⟨a, g, c, e1, hsl, hg, hlen, hcap⟩ := aIX (en := eG) (Pm := fun x => 0 ≤ x) hs (by omega) (fun r n y hr hy => by
  obtain ⟨x, rfl, hw⟩ := uC he hy
  refine ⟨x, rfl, ?_⟩
  simp [Lit.wf] at hw
  have h32 : IntKind.u32.min = 0 := by decide
  rw [h32] at hw
  exact hw.1) h1
 simp at e1
 subst e1
 exact ⟨nb, a, g, c, rfl, hg, hsl, hcap, hlen⟩
theorem aVS {tr t tb ts te : TypeId} {fr fs : Array Field} {n : Nat} {cs : List Value} {y : DataW H × List MemPlace} (hr : P.underlying tr = some (.struct fr)) (hfr : fr.toList.map (fun f => (f.offset, f.type)) = [(0, t), (2, t)]) (ht : P.underlying t = some (.struct fs)) (hf : fs.toList.map (fun f => (f.offset, f.type)) = [(0, tb), (1, ts)]) (hb : P.underlying tb = some .bool) (hs : P.underlying ts = some (.slice te)) (he : P.underlying te = some (.int .u32))
  (c1 : P.cellsOf tb = 1) (c2 : P.cellsOf ts = 1) (c3 : P.cellsOf te = 1) (c4 : P.cellsOf t = 2) (c5 : P.cellsOf tr = 4) (h : DataW.trod enc P W 0 (fun _ => true) true n tr cs = some y) :
  ∃ r : RW, cs = eW r ∧ IsW r [] W := by
 obtain ⟨hl, n', z0, z1, h0, h1⟩ := aCD hr hfr c4 c4 c5 h
 obtain ⟨n1, p1, g1, k1, e1, a1, a2, a3, a4⟩ := aQJ ht hf hb hs he c1 c2 c3 c4 h0
 obtain ⟨n2, p2, g2, k2, e2, b1, b2, b3, b4⟩ := aQJ ht hf hb hs he c1 c2 c3 c4 h1
 refine ⟨⟨n1, p1, g1, k1, n2, p2, g2, k2⟩, ?_, ⟨⟨a1, b1, a4, b4, a3, b3⟩, a2, b2⟩⟩
 rw [← List.take_append_drop 2 cs, e1, e2]
 rfl
end
section
variable {H : Type} {enc : TypeId × Value → H} {W : World}
theorem aPC {n : Nat} {cs : List Value} {y : DataW H × List MemPlace} (h : DataW.trod enc Tryz.prog W 0 (fun _ => true) true n 50 cs = some y) : ∃ r : RW, cs = eW r ∧ IsW r [] W :=
 aVS (tb := 4) (ts := 46) (te := 104) (t := 48) (tr := 50) Tryz.underlying50 (by rfl) Tryz.underlying48 (by rfl) Tryz.underlying4 Tryz.underlying46 Tryz.underlying104 (by kernel_rfl) (by kernel_rfl) (by kernel_rfl) (by kernel_rfl) (by kernel_rfl) h
end
end Go.Proofs.YtjbhdfpjnjedhaaGreat
namespace Go.Proofs.YtjbhdfpjnjedhaaGreat
open Go Go.Fx
theorem Hv.shtL {I : List aY} {a : WL} {A : RL} (e : a = A.raw) (hs : a.sht) (h : uX a ∈ I) : Hv I (iZ A 30) := ⟨fun X w hw => by subst e; exact aTC hs (hw _ h)⟩
theorem Mem.fitR {X : List Nat} {w0 w : World} {M : List Ent} {I : List aY} {a : RW} (h : isW a ∈ I) (hw : Mem X w0 M I w) : a.Fit := ((hw.imm _ h).2 : IsW a _ w).fit
theorem aMU {x : WL} (hf : ∀ e ∈ x.es, e.Fit) (h : x.good) : ∃ A : RL, x = A.raw ∧ A.es.length = x.es.length := by
 obtain ⟨A, rfl⟩ := WL.good_raw hf h
 exact ⟨A, rfl, by show A.es.length = (A.es.map RE.raw).length; rw [List.length_map]⟩
end Go.Proofs.YtjbhdfpjnjedhaaGreat
namespace Go.Proofs.YtjbhdfpjnjedhaaGreat
open Go Go.Fx
structure V3 where
 x : Rat
 y : Rat
 z : Rat
def V3.dot (a b : V3) : Rat := a.x * b.x + a.y * b.y + a.z * b.z
def V3.sub (a b : V3) : V3 := ⟨a.x - b.x, a.y - b.y, a.z - b.z⟩
def V3.along (a : V3) (s : Rat) (b : V3) : V3 := ⟨a.x + s * b.x, a.y + s * b.y, a.z + s * b.z⟩
structure TE where
 x : RE
 y : RE
 z : RE
instance : Inhabited TE := ⟨⟨default, default, default⟩⟩
abbrev eT (p : TE) : List Value := recs eR [p.x, p.y, p.z]
abbrev tv (p : TE) : Value := .agg (recs eR [p.x, p.y, p.z]).toArray
instance : Sized eT 12 := ⟨fun _ => rfl⟩
instance : Ones eT := ⟨fun m u hu => aBI _ u hu⟩
def TE.v (p : TE) : V3 := ⟨p.x.q, p.y.q, p.z.q⟩
structure IsT (p : TE) (k : Nat) (X : List Nat) (w : World) : Prop where
 x : IsR p.x k X w
 y : IsR p.y k X w
 z : IsR p.z k X w
abbrev isT (p : TE) (k : Nat) : aY := IsT p k
instance (p : TE) (k : Nat) : Fx.Good (IsT p k) := ⟨fun X Y w w' h he hY => ⟨Fx.Good.go (φ := IsR _ _) X Y w w' h.x he hY, Fx.Good.go (φ := IsR _ _) X Y w w' h.y he hY, Fx.Good.go (φ := IsR _ _) X Y w w' h.z he hY⟩⟩
theorem Hv.mkT {I : List aY} {a b c : RE} {k : Nat} (ha : Hv I (bS a k)) (hb : Hv I (bS b k)) (hc : Hv I (bS c k)) : Hv I (isT ⟨a, b, c⟩ k) := ⟨fun X w hw => ⟨ha.go X w hw, hb.go X w hw, hc.go X w hw⟩⟩
def TE.l (p : TE) (b : Nat) : RL := ⟨some ⟨b, 0, none⟩, 3, [p.x, p.y, p.z]⟩
theorem Hv.tl {I : List aY} {p : TE} {b k : Nat} (h : Hv I (isT p k)) (hs : aO (some ⟨b, 0, none⟩) (eT p) ∈ I) : Hv I (iZ (p.l b) k) := ⟨fun X w hw => ⟨(hw _ hs : SlI _ _ X w).go, fun e he => by
 have h1 := h.go X w hw
 have he : e ∈ [p.x, p.y, p.z] := he
 simp only [List.mem_cons, List.not_mem_nil, or_false] at he
 rcases he with rfl | rfl | rfl
 ·exact h1.x
 ·exact h1.y
 ·exact h1.z, ⟨Nat.le_refl 3, .inl (Ok.mk _ _)⟩⟩⟩
def TQ (q : V3) (k : Nat) (M0 : List Ent) (I0 : List aY) (v : Value) (M : List Ent) (I : List aY) : Prop := M0 = M ∧ ∃ p : TE, v = tv p ∧ p.v = q ∧ I = isT p k :: I0
section
variable {X : List Nat} {w0 : World} {M0 : List Ent} {I0 : List aY}
end
end Go.Proofs.YtjbhdfpjnjedhaaGreat
namespace Go.Proofs.YtjbhdfpjnjedhaaGreat
open Go Go.Fx
theorem Hv.r3 {I : List aY} {a b c : RE} {k : Nat} (ha : Hv I (bS a k)) (hb : Hv I (bS b k)) (hc : Hv I (bS c k)) : Hv I (cO [a, b, c] k) := ⟨fun X w hw => ⟨fun x hx => by
 simp only [List.mem_cons, List.not_mem_nil, or_false] at hx
 rcases hx with rfl | rfl | rfl
 ·exact ha.go X w hw
 ·exact hb.go X w hw
 ·exact hc.go X w hw⟩⟩
theorem Hv.l3q {I : List aY} {a b c : RL} {k : Nat} (ha : Hv I (iZ a k)) (hb : Hv I (iZ b k)) (hc : Hv I (iZ c k)) : Hv I (jW [a, b, c] k) := ⟨fun X w hw => ⟨fun x hx => by
 simp only [List.mem_cons, List.not_mem_nil, or_false] at hx
 rcases hx with rfl | rfl | rfl
 ·exact ha.go X w hw
 ·exact hb.go X w hw
 ·exact hc.go X w hw⟩⟩
section
variable {X : List Nat} {w0 : World} {M0 M1 : List Ent} {I0 : List aY}
theorem jS {x : Int} (hx : -9223372036854775808 ≤ x ∧ x ≤ 9223372036854775807) {k : Nat} (hk : x.natAbs ≤ 2 ^ k) : CD Tryz.prog 91 [.int .i64 x] X w0 M0 I0 (RQ (x : Rat) k M0 I0) := by
 refine aZ Tryz.func91 rfl Tryz.ntmps91 rfl ?_
 refine aG ?_
 refine aJ ?_
 (refine aI rfl rfl ?_; intro b2; refine ⟨okF, ?_⟩)
 repeat (refine aK ?_)
 (refine aA rfl (rO hx hk) rfl rfl ?_; rintro _ _ _ ⟨rfl, e, rfl, he, rfl⟩; refine ⟨okF, ?_⟩)
 repeat (refine aK ?_)
 refine bD (cs := eR e) (.inl rfl) rfl rfl aB rfl M0 (bS e k :: I0) aD aC ⟨rfl, e, rfl, he, rfl⟩
theorem aRN {a b : RE} {k m : Nat} (hk : k + m ≤ 500000000000) (hb0 : b.q ≠ 0) (ha : Hv I0 (bS a k)) (hb : Hv I0 (bS b m)) :
  CD Tryz.prog 120 [rv a, rv b] X w0 M0 I0 (RQ (a.q / b.q) (k + m) M0 I0) := by
 refine aX Tryz.func120 rfl Tryz.ntmps120 rfl ?_
 refine aG ?_
 refine aJ ?_
 (refine aR rfl rfl rfl ?_; intro b2; refine ⟨okF, ?_⟩)
 (refine aR rfl rfl rfl ?_; intro b3; refine ⟨okF, ?_⟩)
 (refine aI rfl rfl ?_; intro b4; refine ⟨okF, ?_⟩)
 repeat (refine aK ?_)
 (refine aA rfl (aBR (k := k) (m := m) hk hb0 ha hb) rfl rfl ?_; rintro _ _ _ ⟨rfl, e, rfl, he, rfl⟩; refine ⟨okF, ?_⟩)
 repeat (refine aK ?_)
 (refine aI rfl rfl ?_; intro b5; refine ⟨okF, ?_⟩)
 repeat (refine aK ?_)
 refine bD (cs := eR e) (.inl rfl) rfl rfl aB rfl M0 (bS e (k + m) :: I0) aD aC ⟨rfl, e, rfl, he, rfl⟩
theorem zZ {a b : TE} {k : Nat} (ha : Hv I0 (isT a k)) (hb : Hv I0 (isT b k)) :
  CD Tryz.prog 182 [tv a, tv b] X w0 M0 I0 (XQ [[a.x.q, a.y.q, a.z.q], [b.x.q, b.y.q, b.z.q], [0, 0, 1]] 3 3 k M0 I0) := by
 have hW0 := fun M0 I0 => jS (X := X) (w0 := w0) (M0 := M0) (I0 := I0) (x := 0) (by decide) (k := 0) (by decide)
 have hW1 := fun M0 I0 => jS (X := X) (w0 := w0) (M0 := M0) (I0 := I0) (x := 1) (by decide) (k := 0) (by decide)
 refine cZ (φ := isT a k) ha (cZ (φ := isT b k) hb.cons ?_)
 refine aX Tryz.func182 rfl Tryz.ntmps182 rfl ?_
 refine aG ?_
 refine aJ ?_
 (refine aR rfl rfl rfl ?_; intro b2; refine ⟨okF, ?_⟩)
 refine bC .here ?_
 (refine aR rfl rfl rfl ?_; intro b3; refine ⟨okF, ?_⟩)
 refine bC .here ?_
 repeat (refine aK ?_)
 refine iB (φ := iZ (a.l b2) k) (Hv.tl (Hv.mem (φ := isT a k) aB) aB) ?_
 refine iB (φ := iZ (b.l b3) k) (Hv.tl (Hv.mem (φ := isT b k) aB) aB) ?_
 (repeat refine aG ?_); refine bZ (M0) (iZ (b.l b3) k :: iZ (a.l b2) k :: I0) [0, 1, 2, 3, 4, 5, 6, 7] [4, 4, 0, 0, 0, 0, 0, 0] aD aC mixed (by kernel_rfl) ?_
 (refine aF rfl (fun _ => kL rfl) rfl rfl ?_)
 (refine aF rfl (fun _ => kL rfl) rfl rfl ?_)
 (refine aA rfl (hW0 _ _) rfl rfl ?_; rintro _ _ _ ⟨rfl, e0, rfl, he0, rfl⟩; refine ⟨okF, ?_⟩)
 (refine aA rfl (hW0 _ _) rfl rfl ?_; rintro _ _ _ ⟨rfl, e1, rfl, he1, rfl⟩; refine ⟨okF, ?_⟩)
 (refine aA rfl (hW1 _ _) rfl rfl ?_; rintro _ _ _ ⟨rfl, e2, rfl, he2, rfl⟩; refine ⟨okF, ?_⟩)
 (refine aQ (cs := recs eR [e0, e1, e2]) ([rv e0, rv e1, rv e2]) rfl rfl (by intro v hv; repeat (first | exact absurd hv (List.not_mem_nil) | (rcases List.mem_cons.1 hv with rfl | hv; · rfl))) (by omega) rfl rfl rfl ?_; intro b5; refine ⟨okF, ?_⟩)
 refine dP (φ := cO [e0, e1, e2] k) (Hv.r3 (Hv.q (k := 0) aB (Nat.zero_le _)) (Hv.q (k := 0) aB (Nat.zero_le _)) (Hv.q (k := 0) aB (Nat.zero_le _))) ?_
 refine jI (mm := 3) 4 .here rfl (by omega) ?_
 refine aHP (es := [e0, e1, e2]) (k := k) aB ?_
 (refine aQ (cs := recs eL [a.l b2, b.l b3, ⟨some ⟨b5, 0, none⟩, 3, [e0, e1, e2]⟩]) ([lv (a.l b2), lv (b.l b3), lv ⟨some ⟨b5, 0, none⟩, 3, [e0, e1, e2]⟩]) rfl rfl (by intro v hv; repeat (first | exact absurd hv (List.not_mem_nil) | (rcases List.mem_cons.1 hv with rfl | hv; · rfl))) (by omega) rfl rfl rfl ?_; intro b6; refine ⟨okF, ?_⟩)
 refine dP (φ := jW [a.l b2, b.l b3, ⟨some ⟨b5, 0, none⟩, 3, [e0, e1, e2]⟩] k) (Hv.l3q (Hv.mem aB) (Hv.mem aB) (Hv.mem aB)) ?_
 refine jI (mm := 3) 1 .here rfl (by omega) ?_
 refine aVI (rows := [a.l b2, b.l b3, ⟨some ⟨b5, 0, none⟩, 3, [e0, e1, e2]⟩]) (k := k) aB ?_
 repeat (refine aK ?_)
 refine gZ (M' := M0) (I' := jF ⟨some ⟨b6, 0, none⟩, 3, [a.l b2, b.l b3, ⟨some ⟨b5, 0, none⟩, 3, [e0, e1, e2]⟩]⟩ k :: I0) aD aC ?_
 refine aH (by first | exact .inl rfl | exact .inr rfl) rfl rfl _ _ aD aC (⟨rfl, ⟨some ⟨b6, 0, none⟩, 3, [a.l b2, b.l b3, ⟨some ⟨b5, 0, none⟩, 3, [e0, e1, e2]⟩]⟩, rfl, by show [_, _, [e0.q, e1.q, e2.q]] = _; rw [he0, he1, he2]; rfl, ⟨rfl, fun r hr => by
  simp only [List.mem_cons, List.not_mem_nil, or_false] at hr
  rcases hr with rfl | rfl | rfl <;> rfl⟩, rfl⟩)
end
end Go.Proofs.YtjbhdfpjnjedhaaGreat
namespace Go.Proofs.YtjbhdfpjnjedhaaGreat
open Go Go.Fx
theorem aWR {R C : Nat} {A : Mt} {i j : Nat} (hi : i < C) (hj : j < C) : at2 (nrN R C A) i j = sm R (fun t => at2 A t i * at2 A t j) := tQ hi hj
theorem aVL {R C : Nat} {A : Mt} {b : List Rat} {i : Nat} (hi : i < C) : (nrB R C A b).getD i 0 = sm R (fun t => at2 A t i * b.getD t 0) := by simp [nrB, List.getD, hi]
theorem aWK {R C : Nat} {A : Mt} {b : List Rat} {i : Nat} (hi : i < C) : (lsX R C A b).getD i 0 = sm C (fun t => at2 (aCM C (nrN R C A)) i t * (nrB R C A b).getD t 0) := by simp [lsX, List.getD, hi]
theorem aQQ {n : Nat} {f g : Nat → Nat → Rat} {x : Nat → Rat} {i : Nat} : sm n (fun j => rP n f g i j * x j) = sm n (fun t => f i t * sm n (fun j => g t j * x j)) := by
 have e1 : sm n (fun j => rP n f g i j * x j) = sm n (fun j => sm n (fun t => f i t * g t j * x j)) := dG (fun j _ => by
  unfold rP
  rw [Rat.mul_comm, ← mE]
  exact dG (fun t _ => by rw [Rat.mul_comm]))
 rw [e1, zS]
 exact dG (fun t _ => by
  rw [← mE]
  exact dG (fun j _ => by rw [Rat.mul_assoc]))
theorem aWW {n i : Nat} {x : Nat → Rat} (hi : i < n) : sm n (fun j => pR i j * x j) = x i := by
 rw [vS hi (fun j _ h => by simp [pR, Ne.symm h])]
 simp [pR]
theorem aVQ {R C : Nat} {A : Mt} {b : List Rat} (h : dt C (at2 (nrN R C A)) ≠ 0) : ∀ i, i < C → sm C (fun j => at2 (nrN R C A) i j * (lsX R C A b).getD j 0) = (nrB R C A b).getD i 0 := by
 intro i hi
 have e : sm C (fun j => at2 (nrN R C A) i j * (lsX R C A b).getD j 0) = sm C (fun j => at2 (nrN R C A) i j * sm C (fun t => at2 (aCM C (nrN R C A)) j t * (nrB R C A b).getD t 0)) := dG (fun j hj => by rw [aWK hj])
 rw [e, ← aQQ (f := at2 (nrN R C A)) (g := at2 (aCM C (nrN R C A))) (x := fun t => (nrB R C A b).getD t 0)]
 rw [dG (g := fun j => pR i j * (nrB R C A b).getD j 0) (fun j hj => by rw [(aUJ h).1 i j hi hj])]
 exact aWW hi
theorem aVM {R C : Nat} {A : Mt} {x : Nat → Rat} {i : Nat} (hi : i < C) : sm C (fun j => at2 (nrN R C A) i j * x j) = sm R (fun t => at2 A t i * sm C (fun j => at2 A t j * x j)) := by
 have e1 : sm C (fun j => at2 (nrN R C A) i j * x j) = sm C (fun j => sm R (fun t => at2 A t i * (at2 A t j * x j))) := dG (fun j hj => by
  rw [aWR hi hj, Rat.mul_comm, ← mE]
  exact dG (fun t _ => by rw [Rat.mul_comm, Rat.mul_assoc]))
 rw [e1, zS]
 exact dG (fun t _ => by rw [← mE])
theorem sq_ge (x : Rat) : 0 ≤ x * x := by
 rcases Rat.le_total (a := 0) (b := x) with h | h
 ·exact Rat.mul_nonneg h h
 ·have : 0 ≤ (-x) * (-x) := Rat.mul_nonneg (by grind) (by grind)
  grind
theorem sm_ge {n : Nat} {f : Nat → Rat} (h : ∀ i, i < n → 0 ≤ f i) : 0 ≤ sm n f := by
 induction n with
 | zero => exact Rat.le_refl
 | succ n ih =>
  have h1 := ih (fun i hi => h i (by omega))
  have h2 := h n (by omega)
  show 0 ≤ sm n f + f n
  grind
def sqS (R C : Nat) (A : Mt) (b : List Rat) (x : Nat → Rat) : Rat := sm R (fun t => (sm C (fun j => at2 A t j * x j) - b.getD t 0) * (sm C (fun j => at2 A t j * x j) - b.getD t 0))
theorem aQK {R C : Nat} {A : Mt} {b : List Rat} {x : Nat → Rat} (hx : ∀ i, i < C → sm C (fun j => at2 (nrN R C A) i j * x j) = (nrB R C A b).getD i 0) (y : Nat → Rat) : sqS R C A b x ≤ sqS R C A b y := by
 -- y = x + d; the residual of x is orthogonal to all columns
 have hr : ∀ i, i < C → sm R (fun t => at2 A t i * (sm C (fun j => at2 A t j * x j) - b.getD t 0)) = 0 := fun i hi => by
  have h := hx i hi
  rw [aVM hi, aVL hi] at h
  have e : sm R (fun t => at2 A t i * (sm C (fun j => at2 A t j * x j) - b.getD t 0)) = sm R (fun t => at2 A t i * sm C (fun j => at2 A t j * x j)) + sm R (fun t => (-1) * (at2 A t i * b.getD t 0)) := by
   rw [← xG]
   exact dG (fun t _ => by grind)
  rw [e, mE, h]
  grind
 have hz : sm R (fun t => (sm C (fun j => at2 A t j * x j) - b.getD t 0) * sm C (fun j => at2 A t j * (y j - x j))) = 0 := by
  have e : sm R (fun t => (sm C (fun j => at2 A t j * x j) - b.getD t 0) * sm C (fun j => at2 A t j * (y j - x j))) = sm R (fun t => sm C (fun j => (y j - x j) * (at2 A t j * (sm C (fun j => at2 A t j * x j) - b.getD t 0)))) := dG (fun t _ => by
   rw [← mE]
   exact dG (fun j _ => by grind))
  rw [e, zS]
  refine zG (fun j hj => ?_)
  rw [mE, hr j hj]
  grind
 have hd : ∀ t, sm C (fun j => at2 A t j * y j) = sm C (fun j => at2 A t j * x j) + sm C (fun j => at2 A t j * (y j - x j)) := fun t => by
  rw [← xG]
  exact dG (fun j _ => by grind)
 have e : sqS R C A b y = sqS R C A b x + (2 * sm R (fun t => (sm C (fun j => at2 A t j * x j) - b.getD t 0) * sm C (fun j => at2 A t j * (y j - x j))) + sm R (fun t => sm C (fun j => at2 A t j * (y j - x j)) * sm C (fun j => at2 A t j * (y j - x j)))) := by
  unfold sqS
  rw [← mE, ← xG, ← xG]
  refine dG (fun t _ => ?_)
  rw [hd t]
  grind
 have hp : 0 ≤ sm R (fun t => sm C (fun j => at2 A t j * (y j - x j)) * sm C (fun j => at2 A t j * (y j - x j))) := sm_ge (fun t _ => sq_ge _)
 rw [e, hz]
 grind
end Go.Proofs.YtjbhdfpjnjedhaaGreat
