/- Arguments, opened: slices of records, structs with slices. Arguments opened: matrices, lists, fractions, wherever they lie. What the laws of matrices share. The law MatrixDefinite, walked. -/
import Derived.Test.YtdmlebigkakplaaGreatZdar
import Derived.Test.YtdmlebigkakplaaGreatZmag
import Derived.Test.YtdmlebigkakplaaGreatZdae
import Derived.Test.YtdmlebigkakplaaGreatZdao
import Derived.Test.YtdmlebigkakplaaGreatZdaa
set_option linter.unusedSimpArgs false
set_option linter.unusedVariables false
namespace Go.Fx
open Go.ChangeShapes Go.WideShapes Go.RowKit Go.ChangeAt

section
variable {H : Type} {enc : TypeId × Value → H} {P : Program} {W : World}

theorem flat_inv {sz : Nat} : ∀ (rows : List (List Value)) (k : Nat) (v : Value), (∀ r ∈ rows, r.length = sz) → rows.flatten[k]? = some v → ∃ i row, rows[i]? = some row ∧ i * sz ≤ k ∧ row[k - i * sz]? = some v
  | [], k, v, _, h => by simp at h
  | r :: rows, k, v, hr, h => by
    rw [List.flatten_cons] at h
    have hl := hr r (by simp)
    by_cases hk : k < r.length
    · rw [List.getElem?_append_left hk] at h
      exact ⟨0, r, by simp, by omega, by simpa using h⟩
    · rw [List.getElem?_append_right (by omega)] at h
      obtain ⟨i, row, h1, h2, h3⟩ := flat_inv rows _ v (fun r' hr' => hr r' (by simp [hr'])) h
      refine ⟨i + 1, row, by simpa using h1, by rw [Nat.add_mul]; omega, ?_⟩
      rw [← h3]
      congr 1
      rw [Nat.add_mul]; omega

/-- a slice's cells, row by row -/
theorem open_rows {base fuel : Nat} {t e : TypeId} {v : Value} {x : DataW H × List MemPlace} (ht : P.underlying t = some (.slice e)) (hv : Value.okWide P W .any base t v) (h : DataW.trod enc P W 0 (fun _ => true) true fuel t v.cells.toList = some x) :
    ∃ (a : Option Addr) (len c : Nat), v = .slice a len c ∧ (len : Int) ≤ 9223372036854775807 ∧ len ≤ c ∧ (Ok a ∨ (a = none ∧ len = 0 ∧ c = 0)) ∧
      ∃ rows : List (List Value), rows.length = len ∧ (∀ r ∈ rows, r.length = P.cellsOf e ∧ ∃ n y, DataW.trod enc P W 0 (fun _ => true) true n e r = some y) ∧ Sl [] W a rows.flatten := by
  obtain ⟨a, len, c, rfl⟩ := okWide_slice ht hv
  obtain ⟨h1, h2, h3⟩ := slice_ok ht hv
  refine ⟨a, len, c, rfl, h1, h2, h3, ?_⟩
  rcases DataW.trod_slice ht h with ⟨hcs, _⟩ | ⟨a', len', cap', elems, rest, n, _, hcs, _, _, _, _, hlen, hel, _, _⟩
  · simp [Value.cells] at hcs
    obtain ⟨rfl, rfl, rfl⟩ := hcs
    exact ⟨[], rfl, by simp, Sl.nil _ _ _⟩
  · simp [Value.cells] at hcs
    obtain ⟨rfl, rfl, rfl⟩ := hcs
    have hok : Ok (some a') := h3.resolve_right (by simp)
    have each : ∀ i, i < len → ∃ cs y, W.cells? 0 (a'.add (i * P.cellsOf e)) (P.cellsOf e) = some cs ∧ DataW.trod enc P W 0 (fun _ => true) true n e cs = some y := fun i hi => by
      have := hel i hi
      rw [List.getElem?_eq_getElem (by omega), Option.bind_eq_some_iff] at this
      obtain ⟨cs, h1, h2⟩ := this
      exact ⟨cs, _, h1, h2⟩
    refine ⟨(List.range len).map (fun i => (W.cells? 0 (a'.add (i * P.cellsOf e)) (P.cellsOf e)).getD []), by simp, ?_, ?_⟩
    · intro r hr
      obtain ⟨i, hi, rfl⟩ := List.mem_map.1 hr
      obtain ⟨cs, y, h4, h5⟩ := each i (by simpa using hi)
      rw [h4]
      exact ⟨(World.cells?_some h4).2.1, n, y, h5⟩
    · intro j v hj
      have hall : ∀ r ∈ (List.range len).map (fun i => (W.cells? 0 (a'.add (i * P.cellsOf e)) (P.cellsOf e)).getD []), r.length = P.cellsOf e := by
        intro r hr
        obtain ⟨i, hi, rfl⟩ := List.mem_map.1 hr
        obtain ⟨cs, y, h4, h5⟩ := each i (by simpa using hi)
        rw [h4]
        exact (World.cells?_some h4).2.1
      obtain ⟨i, row, h4, h5, h6⟩ := flat_inv _ j v hall hj
      rw [List.getElem?_map] at h4
      obtain ⟨i', hi', rfl⟩ := Option.map_eq_some_iff.1 h4
      have hii : i' = i ∧ i < len := by
        obtain ⟨q1, q2⟩ := List.getElem?_eq_some_iff.1 hi'
        rw [List.getElem_range] at q2
        exact ⟨q2.symm, by simpa using q1⟩
      obtain ⟨rfl, hil⟩ := hii
      obtain ⟨cs, y, h7, h8⟩ := each i' hil
      rw [h7] at h6
      simp only [Option.getD_some] at h6
      obtain ⟨_, hl, hc⟩ := World.cells?_some h7
      have hlt : j - i' * P.cellsOf e < P.cellsOf e := by
        have := (List.getElem?_eq_some_iff.1 h6).1
        omega
      have hcell := hc _ hlt
      rw [h6] at hcell
      refine ⟨hok, by simp, ?_⟩
      obtain ⟨b, o, eq⟩ := hok.cases
      injection eq with eq
      subst eq
      rw [add_lit, add_lit] at hcell
      rw [← hcell]
      simp only [pt, bl, of, Option.getD_some]
      congr 2
      omega
/-- a slice of records -/
theorem open_sliceM {α : Type} {en : α → List Value} {Pm : α → Prop} {base : Nat} {t e : TypeId} {v : Value} {d : DataW H} {p : List MemPlace} (ht : P.underlying t = some (.slice e)) (hdec : ∀ (r : List Value) n y, r.length = P.cellsOf e → DataW.trod enc P W 0 (fun _ => true) true n e r = some y → ∃ m, r = en m ∧ Pm m)
    (hv : Value.okWide P W .any base t v) (h : DataW.Trod enc P W 0 (fun _ => true) true t v d p) :
    ∃ (a : Option Addr) (ms : List α) (c : Nat), v = .slice a ms.length c ∧ Sl [] W a (recs en ms) ∧ (∀ m ∈ ms, Pm m) ∧ (ms.length : Int) ≤ 9223372036854775807 ∧ ms.length ≤ c ∧ (Ok a ∨ (a = none ∧ ms.length = 0 ∧ c = 0)) := by
  obtain ⟨fuel, hf⟩ := h
  obtain ⟨a, len, c, rfl, h1, h2, h3, rows, hl, hr, hs⟩ := open_rows ht hv hf
  have key : ∀ rows : List (List Value), (∀ r ∈ rows, r.length = P.cellsOf e ∧ ∃ n y, DataW.trod enc P W 0 (fun _ => true) true n e r = some y) → ∃ ms : List α, rows = ms.map en ∧ ∀ m ∈ ms, Pm m := by
    intro rows
    induction rows with
    | nil => intro _; exact ⟨[], rfl, by simp⟩
    | cons r rows ih =>
      intro hr
      obtain ⟨hrl, n, y, hy⟩ := hr r (by simp)
      obtain ⟨m, rfl, hm⟩ := hdec r n y hrl hy
      obtain ⟨ms, rfl, hms⟩ := ih (fun r' hr' => hr r' (by simp [hr']))
      exact ⟨m :: ms, rfl, fun m' hm' => by
        rcases List.mem_cons.1 hm' with rfl | hm'
        · exact hm
        · exact hms m' hm'⟩
  obtain ⟨ms, rfl, hms⟩ := key rows hr
  have hlen : ms.length = len := by simpa using hl
  subst hlen
  refine ⟨a, ms, c, rfl, ?_, hms, h1, h2, h3⟩
  rw [← List.flatMap_def] at hs
  exact hs
/-- a struct, cell by cell -/
theorem open_struct {base : Nat} {t : TypeId} {v : Value} {d : DataW H} {p : List MemPlace} {fs : Array Field} (ht : P.underlying t = some (.struct fs)) (hv : Value.okWide P W .any base t v) (h : DataW.Trod enc P W 0 (fun _ => true) true t v d p) :
    ∃ cs : List Value, v = .agg cs.toArray ∧ cs.length = P.cellsOf t ∧ Row.okWide P W .any base t cs.toArray ∧ ∀ (i : Nat) (f : Field), fs[i]? = some f → ∃ n y, DataW.trod enc P W 0 (fun _ => true) true n f.type ((cs.drop f.offset).take (P.cellsOf f.type)) = some y := by
  simp only [Value.okWide, ht] at hv
  obtain ⟨cs, rfl, hsz, hrow⟩ := hv
  obtain ⟨fuel, hf⟩ := h
  obtain ⟨xs, n, rfl, _, hl, hxl, hx⟩ := DataW.trod_struct ht hf
  refine ⟨cs.toList, by simp, by simpa using hsz, by simpa using hrow, fun i f hfi => ?_⟩
  have hi : i < fs.size := (Array.getElem?_eq_some_iff.1 hfi).1
  have := hx i f hfi
  rw [List.getElem?_eq_getElem (by omega)] at this
  exact ⟨n, _, this⟩
theorem dec_int {t : TypeId} {k : IntKind} {n : Nat} {cs : List Value} {y : DataW H × List MemPlace} (ht : P.underlying t = some (.int k)) (h : DataW.trod enc P W 0 (fun _ => true) true n t cs = some y) : ∃ x : Int, cs = [.int k x] ∧ (Lit.int k x).wf = true := by
  obtain ⟨m, h1, _, h2⟩ := DataW.trod_int ht h
  exact ⟨m, h1, h2⟩
/-- a record of ints of one kind -/
theorem dec_ints {t : TypeId} {k : IntKind} {m n : Nat} {cs : List Value} {y : DataW H × List MemPlace} {fs : Array Field} (ht : P.underlying t = some (.struct fs)) (hf : fs.toList.map (fun (f : Field) => (f.offset, P.cellsOf f.type)) = (List.range m).map (fun i => (i, 1))) (hk : ∀ f ∈ fs.toList, P.underlying f.type = some (.int k)) (hl : cs.length = m)
    (h : DataW.trod enc P W 0 (fun _ => true) true n t cs = some y) : ∃ xs : List Int, cs = xs.map (Value.int k) ∧ xs.length = m ∧ ∀ x ∈ xs, (Lit.int k x).wf = true := by
  obtain ⟨zs, n', rfl, _, _, hzl, hz⟩ := DataW.trod_struct ht h
  have each : ∀ i, i < m → ∃ x : Int, cs[i]? = some (.int k x) ∧ (Lit.int k x).wf = true := fun i hi => by
    have hsz : fs.toList.length = m := by have := congrArg List.length hf; simpa using this
    obtain ⟨f, hfi⟩ : ∃ f, fs.toList[i]? = some f := ⟨_, List.getElem?_eq_getElem (by omega)⟩
    have hoff : (f.offset, P.cellsOf f.type) = (i, 1) := by
      have : (fs.toList.map (fun f => (f.offset, P.cellsOf f.type)))[i]? = some (f.offset, P.cellsOf f.type) := by rw [List.getElem?_map, hfi]; rfl
      rw [hf, List.getElem?_map, List.getElem?_range hi] at this
      simpa using this.symm
    injection hoff with ho hc
    have hf2 : fs[i]? = some f := by simpa using hfi
    have := hz i f hf2
    rw [List.getElem?_eq_getElem (by rw [hzl]; exact (Array.getElem?_eq_some_iff.1 hf2).1), ho, hc] at this
    obtain ⟨x, hx, hw⟩ := dec_int (hk f (List.mem_of_getElem? hfi)) this
    refine ⟨x, ?_, hw⟩
    have : ((cs.drop i).take 1)[0]? = some (.int k x) := by rw [hx]; rfl
    rw [List.getElem?_take, if_pos (by omega), List.getElem?_drop] at this
    simpa using this
  refine ⟨cs.map (fun v => match v with | .int _ x => x | _ => 0), ?_, by simpa using hl, ?_⟩
  · apply List.ext_getElem
    · simp
    · intro i h1 h2
      obtain ⟨x, hx, _⟩ := each i (by omega)
      have : cs[i] = .int k x := by
        have := (List.getElem?_eq_some_iff.1 hx).2
        exact this
      simp [this]
  · intro x hx
    obtain ⟨v, hv, rfl⟩ := List.mem_map.1 hx
    obtain ⟨i, hi, rfl⟩ := List.mem_iff_getElem.1 hv
    obtain ⟨y, hy, hw⟩ := each i (by omega)
    have : cs[i] = .int k y := (List.getElem?_eq_some_iff.1 hy).2
    rw [this]
    exact hw
theorem three_of {xs : List Int} (h : xs.length = 3) : ∃ a b c, xs = [a, b, c] := by
  match xs, h with
  | [a, b, c], _ => exact ⟨a, b, c, rfl⟩
theorem Mem.startS {W : World} {I : List Imm} {a : Option Addr} {cs : List Value} (h : Mem [] W [] I W) (hs : Sl [] W a cs) : Mem [] W [] (slI a cs :: I) W := h.add (φ := slI a cs) ⟨hs⟩
end
end Go.Fx
namespace Go.Proofs.YtdmlebigkakplaaGreat
open Go Go.Fx
open Go.ChangeShapes Go.WideShapes Go.RowKit Go.ChangeAt
section
variable {H : Type} {enc : TypeId × Value → H} {P : Program} {W : World}
/-- a slice's cells, wherever the slice lies -/
theorem dec_rowsH {fuel : Nat} {t e : TypeId} {cs : List Value} {x : DataW H × List MemPlace} (ht : P.underlying t = some (.slice e)) (hc : 1 ≤ P.cellsOf e) (h : DataW.trod enc P W 0 (fun _ => true) true fuel t cs = some x) :
    ∃ (a : Option Addr) (len c : Nat), cs = [.slice a len c] ∧ (len : Int) ≤ 9223372036854775807 ∧ Cap a len c ∧
      ∃ rows : List (List Value), rows.length = len ∧ (∀ r ∈ rows, r.length = P.cellsOf e ∧ ∃ n y, DataW.trod enc P W 0 (fun _ => true) true n e r = some y) ∧ Sl [] W a rows.flatten := by
  rcases DataW.trod_slice ht h with ⟨hcs, _⟩ | ⟨a', len, c, elems, rest, n, _, hcs, _, _, hlc, hcm, hlen, hel, hsp, _⟩
  · exact ⟨none, 0, 0, hcs, by omega, ⟨Nat.le_refl _, .inr ⟨rfl, rfl⟩⟩, [], rfl, by simp, Sl.nil _ _ _⟩
  · have hm : maxLen = 9223372036854775807 := by decide
    obtain ⟨hrl, hsp⟩ := hsp rfl
    have hspot : 0 < c → Ok (some a') := fun h0 => by
      have : ∃ v, W.cell? a' = some v := by
        by_cases hl : 0 < len
        · have := hel 0 hl
          rw [List.getElem?_eq_getElem (by omega), Option.bind_eq_some_iff] at this
          obtain ⟨cs', h1, _⟩ := this
          obtain ⟨_, hl2, hcell⟩ := World.cells?_some h1
          have := hcell 0 (by omega)
          rw [List.getElem?_eq_getElem (by omega)] at this
          have e1 : (a'.add (0 * P.cellsOf e)).add 0 = a' := by simp [Addr.add]
          rw [e1] at this
          exact ⟨_, this⟩
        · have hl0 : len = 0 := by omega
          have := hsp 0 (by omega)
          rw [List.getElem?_eq_getElem (by omega), Option.bind_eq_some_iff] at this
          obtain ⟨cs', h1, _⟩ := this
          obtain ⟨_, hl2, hcell⟩ := World.cells?_some h1
          have := hcell 0 (by omega)
          rw [List.getElem?_eq_getElem (by omega)] at this
          have e1 : (a'.add ((len + 0) * P.cellsOf e)).add 0 = a' := by simp [Addr.add, hl0]
          rw [e1] at this
          exact ⟨_, this⟩
      obtain ⟨v, hv⟩ := this
      unfold World.cell? at hv
      cases a' with
      | mk b o s =>
        have : s = none := by
          cases s with
          | none => rfl
          | some s => split at hv <;> simp at hv
        subst this
        exact Ok.mk b o
    have hcap : Cap (some a') len c := ⟨hlc, by
      by_cases h0 : 0 < c
      · exact .inl (hspot h0)
      · exact .inr ⟨by omega, by omega⟩⟩
    refine ⟨some a', len, c, hcs, by omega, hcap, ?_⟩
    have each : ∀ i, i < len → ∃ cs y, W.cells? 0 (a'.add (i * P.cellsOf e)) (P.cellsOf e) = some cs ∧ DataW.trod enc P W 0 (fun _ => true) true n e cs = some y := fun i hi => by
      have := hel i hi
      rw [List.getElem?_eq_getElem (by omega), Option.bind_eq_some_iff] at this
      obtain ⟨cs, h1, h2⟩ := this
      exact ⟨cs, _, h1, h2⟩
    refine ⟨(List.range len).map (fun i => (W.cells? 0 (a'.add (i * P.cellsOf e)) (P.cellsOf e)).getD []), by simp, ?_, ?_⟩
    · intro r hr
      obtain ⟨i, hi, rfl⟩ := List.mem_map.1 hr
      obtain ⟨cs, y, h4, h5⟩ := each i (by simpa using hi)
      rw [h4]
      exact ⟨(World.cells?_some h4).2.1, n, y, h5⟩
    · intro j v hj
      have hall : ∀ r ∈ (List.range len).map (fun i => (W.cells? 0 (a'.add (i * P.cellsOf e)) (P.cellsOf e)).getD []), r.length = P.cellsOf e := by
        intro r hr
        obtain ⟨i, hi, rfl⟩ := List.mem_map.1 hr
        obtain ⟨cs, y, h4, h5⟩ := each i (by simpa using hi)
        rw [h4]
        exact (World.cells?_some h4).2.1
      obtain ⟨i, row, h4, h5, h6⟩ := flat_inv _ j v hall hj
      rw [List.getElem?_map] at h4
      obtain ⟨i', hi', rfl⟩ := Option.map_eq_some_iff.1 h4
      have hii : i' = i ∧ i < len := by
        obtain ⟨q1, q2⟩ := List.getElem?_eq_some_iff.1 hi'
        rw [List.getElem_range] at q2
        exact ⟨q2.symm, by simpa using q1⟩
      obtain ⟨rfl, hil⟩ := hii
      have hok : Ok (some a') := hspot (by omega)
      obtain ⟨cs, y, h7, h8⟩ := each i' hil
      rw [h7] at h6
      simp only [Option.getD_some] at h6
      obtain ⟨_, hl, hc'⟩ := World.cells?_some h7
      have hlt : j - i' * P.cellsOf e < P.cellsOf e := by
        have := (List.getElem?_eq_some_iff.1 h6).1
        omega
      have hcell := hc' _ hlt
      rw [h6] at hcell
      refine ⟨hok, by simp, ?_⟩
      obtain ⟨b, o, eq⟩ := hok.cases
      injection eq with eq
      subst eq
      rw [add_lit, add_lit] at hcell
      rw [← hcell]
      simp only [pt, bl, of, Option.getD_some]
      congr 2
      omega
theorem dec_sliceH {α : Type} {en : α → List Value} {Pm : α → Prop} {fuel : Nat} {t e : TypeId} {cs : List Value} {x : DataW H × List MemPlace} (ht : P.underlying t = some (.slice e)) (hc : 1 ≤ P.cellsOf e)
    (hdec : ∀ (r : List Value) n y, r.length = P.cellsOf e → DataW.trod enc P W 0 (fun _ => true) true n e r = some y → ∃ m, r = en m ∧ Pm m) (h : DataW.trod enc P W 0 (fun _ => true) true fuel t cs = some x) :
    ∃ (a : Option Addr) (ms : List α) (c : Nat), cs = [.slice a ms.length c] ∧ Sl [] W a (recs en ms) ∧ (∀ m ∈ ms, Pm m) ∧ (ms.length : Int) ≤ 9223372036854775807 ∧ Cap a ms.length c := by
  obtain ⟨a, len, c, rfl, h1, h3, rows, hl, hr, hs⟩ := dec_rowsH ht hc h
  have key : ∀ rows : List (List Value), (∀ r ∈ rows, r.length = P.cellsOf e ∧ ∃ n y, DataW.trod enc P W 0 (fun _ => true) true n e r = some y) → ∃ ms : List α, rows = ms.map en ∧ ∀ m ∈ ms, Pm m := by
    intro rows
    induction rows with
    | nil => intro _; exact ⟨[], rfl, by simp⟩
    | cons r rows ih =>
      intro hr
      obtain ⟨hrl, n, y, hy⟩ := hr r (by simp)
      obtain ⟨m, rfl, hm⟩ := hdec r n y hrl hy
      obtain ⟨ms, rfl, hms⟩ := ih (fun r' hr' => hr r' (by simp [hr']))
      exact ⟨m :: ms, rfl, fun m' hm' => by
        rcases List.mem_cons.1 hm' with rfl | hm'
        · exact hm
        · exact hms m' hm'⟩
  obtain ⟨ms, rfl, hms⟩ := key rows hr
  have hlen : ms.length = len := by simpa using hl
  subst hlen
  refine ⟨a, ms, c, rfl, ?_, hms, h1, h3⟩
  rw [← List.flatMap_def] at hs
  exact hs
theorem dec_two2 {tr t0 t1 : TypeId} {fr : Array Field} {m k n : Nat} {cs : List Value} {y : DataW H × List MemPlace} (hr : P.underlying tr = some (.struct fr)) (hfr : fr.toList.map (fun f => (f.offset, f.type)) = [(0, t0), (m, t1)]) (cm : P.cellsOf t0 = m) (ck : P.cellsOf t1 = k) (c5 : P.cellsOf tr = m + k) (h : DataW.trod enc P W 0 (fun _ => true) true n tr cs = some y) :
    cs.length = m + k ∧ ∃ n' z0 z1, DataW.trod enc P W 0 (fun _ => true) true n' t0 (cs.take m) = some z0 ∧ DataW.trod enc P W 0 (fun _ => true) true n' t1 (cs.drop m) = some z1 := by
  obtain ⟨zs, n', rfl, rfl, hl, hzl, hz⟩ := DataW.trod_struct hr h
  have hsz : fr.toList.length = 2 := by have := congrArg List.length hfr; simpa using this
  obtain ⟨f0, f1, hfs⟩ : ∃ f0 f1, fr.toList = [f0, f1] := by
    match hh : fr.toList, hsz with
    | [a, b], _ => exact ⟨a, b, rfl⟩
  rw [hfs] at hfr
  simp only [List.map_cons, List.map_nil, List.cons.injEq, Prod.mk.injEq, and_true] at hfr
  obtain ⟨⟨o0, e0⟩, o1, e1⟩ := hfr
  rw [c5] at hl
  have hg0 : fr[0]? = some f0 := by rw [← Array.getElem?_toList, hfs]; rfl
  have hg1 : fr[1]? = some f1 := by rw [← Array.getElem?_toList, hfs]; rfl
  have h0 := hz 0 f0 hg0
  have h1 := hz 1 f1 hg1
  rw [o0, e0, cm] at h0
  rw [o1, e1, ck] at h1
  have hz2 : zs.length = 2 := by rw [hzl]; simpa using hsz
  obtain ⟨z0, z1, rfl⟩ : ∃ z0 z1, zs = [z0, z1] := by
    match zs, hz2 with
    | [a, b], _ => exact ⟨a, b, rfl⟩
  simp only [List.drop_zero, List.getElem?_cons_zero, List.getElem?_cons_succ] at h0 h1
  rw [List.take_of_length_le (l := cs.drop m) (by simp; omega)] at h1
  exact ⟨hl, n', z0, z1, h0, h1⟩
/-- an integer's two cells -/
theorem dec_IH {t tb ts te : TypeId} {fs : Array Field} {n : Nat} {cs : List Value} {y : DataW H × List MemPlace} (ht : P.underlying t = some (.struct fs)) (hf : fs.toList.map (fun f => (f.offset, f.type)) = [(0, tb), (1, ts)]) (hb : P.underlying tb = some .bool) (hs : P.underlying ts = some (.slice te)) (he : P.underlying te = some (.int .u32))
    (c1 : P.cellsOf tb = 1) (c2 : P.cellsOf ts = 1) (c3 : P.cellsOf te = 1) (c4 : P.cellsOf t = 2) (h : DataW.trod enc P W 0 (fun _ => true) true n t cs = some y) :
    ∃ (nb : Bool) (a : Option Addr) (g : List Int) (c : Nat), cs = [.bool nb, .slice a g.length c] ∧ (∀ x ∈ g, 0 ≤ x) ∧ Sl [] W a (recs eG g) ∧ Cap a g.length c ∧ (g.length : Int) ≤ 9223372036854775807 := by
  obtain ⟨hl, n', z0, z1, h0, h1⟩ := dec_two2 ht hf c1 c2 c4 h
  obtain ⟨u0, u1, rfl⟩ : ∃ u0 u1, cs = [u0, u1] := by
    match cs, hl with
    | [a, b], _ => exact ⟨a, b, rfl⟩
  obtain ⟨nb, hnb, _⟩ := DataW.trod_bool hb h0
  simp at hnb
  subst hnb
  obtain ⟨a, g, c, e1, hsl, hg, hlen, hcap⟩ := dec_sliceH (en := eG) (Pm := fun x => 0 ≤ x) hs (by omega) (fun r n y hr hy => by
    obtain ⟨x, rfl, hw⟩ := dec_int he hy
    refine ⟨x, rfl, ?_⟩
    simp [Lit.wf] at hw
    have h32 : IntKind.u32.min = 0 := by decide
    rw [h32] at hw
    exact hw.1) h1
  simp at e1
  subst e1
  exact ⟨nb, a, g, c, rfl, hg, hsl, hcap, hlen⟩
/-- a fraction's four cells -/
theorem dec_RH {tr t tb ts te : TypeId} {fr fs : Array Field} {n : Nat} {cs : List Value} {y : DataW H × List MemPlace} (hr : P.underlying tr = some (.struct fr)) (hfr : fr.toList.map (fun f => (f.offset, f.type)) = [(0, t), (2, t)]) (ht : P.underlying t = some (.struct fs)) (hf : fs.toList.map (fun f => (f.offset, f.type)) = [(0, tb), (1, ts)]) (hb : P.underlying tb = some .bool) (hs : P.underlying ts = some (.slice te)) (he : P.underlying te = some (.int .u32))
    (c1 : P.cellsOf tb = 1) (c2 : P.cellsOf ts = 1) (c3 : P.cellsOf te = 1) (c4 : P.cellsOf t = 2) (c5 : P.cellsOf tr = 4) (h : DataW.trod enc P W 0 (fun _ => true) true n tr cs = some y) :
    ∃ r : RW, cs = eW r ∧ IsW r [] W := by
  obtain ⟨hl, n', z0, z1, h0, h1⟩ := dec_two2 hr hfr c4 c4 c5 h
  obtain ⟨n1, p1, g1, k1, e1, a1, a2, a3, a4⟩ := dec_IH ht hf hb hs he c1 c2 c3 c4 h0
  obtain ⟨n2, p2, g2, k2, e2, b1, b2, b3, b4⟩ := dec_IH ht hf hb hs he c1 c2 c3 c4 h1
  refine ⟨⟨n1, p1, g1, k1, n2, p2, g2, k2⟩, ?_, ⟨⟨a1, b1, a4, b4, a3, b3⟩, a2, b2⟩⟩
  rw [← List.take_append_drop 2 cs, e1, e2]
  rfl
end
section
variable {H : Type} {enc : TypeId × Value → H} {W : World}
set_option maxRecDepth 100000 in
theorem dec_ratH {n : Nat} {cs : List Value} {y : DataW H × List MemPlace} (h : DataW.trod enc Tryz.prog W 0 (fun _ => true) true n 26 cs = some y) : ∃ r : RW, cs = eW r ∧ IsW r [] W :=
  dec_RH (tb := 4) (ts := 22) (te := 180) (t := 24) (tr := 26) Tryz.underlying26 (by rfl) Tryz.underlying24 (by rfl) Tryz.underlying4 Tryz.underlying22 Tryz.underlying180 (by kernel_rfl) (by kernel_rfl) (by kernel_rfl) (by kernel_rfl) (by kernel_rfl) h
set_option maxRecDepth 100000 in
theorem dec_listH {n : Nat} {cs : List Value} {y : DataW H × List MemPlace} (h : DataW.trod enc Tryz.prog W 0 (fun _ => true) true n 61 cs = some y) : ∃ r : WL, cs = eWL r ∧ IsWL r [] W := by
  obtain ⟨a, ms, c, e, hs, hm, _, hc⟩ := dec_sliceH (en := eW) (Pm := fun r => IsW r [] W) Tryz.underlying61 (by rw [show Tryz.prog.cellsOf 26 = 4 by kernel_rfl]; decide) (fun r n y _ hy => dec_ratH hy) h
  exact ⟨⟨a, c, ms⟩, e, hs, hm, hc⟩
set_option maxRecDepth 100000 in
theorem dec_matH {n : Nat} {cs : List Value} {y : DataW H × List MemPlace} (h : DataW.trod enc Tryz.prog W 0 (fun _ => true) true n 57 cs = some y) : ∃ r : WM, cs = eWM r ∧ IsWM r [] W := by
  obtain ⟨a, ms, c, e, hs, hm, _, hc⟩ := dec_sliceH (en := eWL) (Pm := fun r => IsWL r [] W) Tryz.underlying57 (by rw [show Tryz.prog.cellsOf 61 = 1 by kernel_rfl]; decide) (fun r n y _ hy => dec_listH hy) h
  exact ⟨⟨a, c, ms⟩, e, hs, hm, hc⟩
set_option maxRecDepth 100000 in
theorem open_mat {base : Nat} {v : Value} {d : DataW H} {p : List MemPlace} (hv : Value.okWide Tryz.prog W .any base 57 v) (h : DataW.Trod enc Tryz.prog W 0 (fun _ => true) true 57 v d p) : ∃ r : WM, v = mvW r ∧ IsWM r [] W := by
  obtain ⟨a, len, c, rfl⟩ := okWide_slice Tryz.underlying57 hv
  obtain ⟨fuel, hf⟩ := h
  obtain ⟨r, e, i⟩ := dec_matH (cs := [.slice a len c]) hf
  exact ⟨r, (List.cons.inj e).1, i⟩
set_option maxRecDepth 100000 in
theorem open_lst {base : Nat} {v : Value} {d : DataW H} {p : List MemPlace} (hv : Value.okWide Tryz.prog W .any base 61 v) (h : DataW.Trod enc Tryz.prog W 0 (fun _ => true) true 61 v d p) : ∃ r : WL, v = lvW r ∧ IsWL r [] W := by
  obtain ⟨a, len, c, rfl⟩ := okWide_slice Tryz.underlying61 hv
  obtain ⟨fuel, hf⟩ := h
  obtain ⟨r, e, i⟩ := dec_listH (cs := [.slice a len c]) hf
  exact ⟨r, (List.cons.inj e).1, i⟩
end
end Go.Proofs.YtdmlebigkakplaaGreat
namespace Go.Proofs.YtdmlebigkakplaaGreat
open Go Go.Fx
theorem Hv.shtX {I : List Imm} {a : WM} {A : MX} (e : a = A.raw) (hs : a.sht) (h : isWM a ∈ I) : Hv I (isX A 30) := ⟨fun X w hw => by subst e; exact sht_isX hs (hw _ h)⟩
theorem Hv.shtL {I : List Imm} {a : WL} {A : RL} (e : a = A.raw) (hs : a.sht) (h : isWL a ∈ I) : Hv I (isL A 30) := ⟨fun X w hw => by subst e; exact sht_isL hs (hw _ h)⟩
/-- what comes in, if it is a matrix -/
theorem ok_raw {a : WM} (hf : ∀ r ∈ a.rows, ∀ e ∈ r.es, e.Fit) (h : a.ok) : ∃ A : MX, a = A.raw ∧ A.fit a.rows.length (gt a.rows 0).es.length := by
  obtain ⟨A, rfl⟩ := WM.good_raw hf (fun r hr => (h.2 r hr).2)
  refine ⟨A, rfl, ?_⟩
  obtain ⟨h1, h2, h3, h4, h5⟩ := ok_dim h
  have e : (gt A.raw.rows 0).es.length = (gt A.rows 0).es.length := by
    rw [show A.raw.rows = A.rows.map RL.raw from rfl, gt_map (by omega)]
    show ((gt A.rows 0).es.map RE.raw).length = _
    rw [List.length_map]
  rw [A.raw_rows, e]
  exact ⟨h1, ⟨h2, h3⟩, h4, h5⟩
theorem Mem.fitM {X : List Nat} {w0 w : World} {M : List Ent} {I : List Imm} {a : WM} (h : isWM a ∈ I) (hw : Mem X w0 M I w) : ∀ r ∈ a.rows, ∀ e ∈ r.es, e.Fit := fun r hr e he => ((((hw.imm _ h).2 : IsWM a _ w).row r hr).el e he).fit
theorem Mem.fitL {X : List Nat} {w0 w : World} {M : List Ent} {I : List Imm} {a : WL} (h : isWL a ∈ I) (hw : Mem X w0 M I w) : ∀ e ∈ a.es, e.Fit := fun e he => (((hw.imm _ h).2 : IsWL a _ w).el e he).fit
theorem good_rawL {x : WL} (hf : ∀ e ∈ x.es, e.Fit) (h : x.good) : ∃ A : RL, x = A.raw ∧ A.es.length = x.es.length := by
  obtain ⟨A, rfl⟩ := WL.good_raw hf h
  exact ⟨A, rfl, by show A.es.length = (A.es.map RE.raw).length; rw [List.length_map]⟩
end Go.Proofs.YtdmlebigkakplaaGreat
namespace Go.Proofs.YtdmlebigkakplaaGreat
open Go Go.Fx
theorem posD_iff {f : Nat → Nat → Rat} {n : Nat} (h : ∀ t, t < n → 0 < rsF f t t t) : posD f n := (lead_iff (f := f) (n := n)).2 (fun t ht => by rw [bk00]; exact h t ht)
section
variable {X : List Nat} {w0 : World} {M0 : List Ent} {I0 : List Imm}
set_option maxRecDepth 100000 in
set_option maxHeartbeats 4000000 in
theorem LDef_ok {a : WM} {x : WL} (ha : isWM a ∈ I0) (hx : isWL x ∈ I0) : CD Tryz.prog 11 [mvW a, lvW x] X w0 M0 I0 (fun v M I => M0 = M ∧ I0 = I ∧ v = .bool true) := by
  refine xCD_fact (fun w hw => Mem.fitM ha hw) (fun fa => xCD_fact (fun w hw => Mem.fitL hx hw) (fun fx => ?_))
  have hF := fun q M0 I0 h1 h2 => few_ok (X := X) (w0 := w0) (M0 := M0) (I0 := I0) (q := q) (c := 1) (ms := [a]) (by simp) h1 h2
  have hf2 : (∀ m ∈ [a], m.sht) ↔ a.sht := by simp
  have hSh := fun M0 I0 h1 => mshort_ok (X := X) (w0 := w0) (M0 := M0) (I0 := I0) (r := x) h1
  refine enterD2 Tryz.func11 rfl Tryz.ntmps11 rfl ?_
  repeat (refine wXh ?_)
  (refine RD_callS rfl (known05_ok) rfl rfl ?_; rintro _ _ _ ⟨rfl, rfl, rfl⟩; refine ⟨okF, ?_⟩)
  repeat (refine wXh ?_)
  (refine RD_vals (cs := recs eWM [a]) ([mvW a]) rfl rfl (by intro v hv; repeat (first | exact absurd hv (List.not_mem_nil) | (rcases List.mem_cons.1 hv with rfl | hv; · rfl))) (by omega) rfl rfl rfl ?_; intro c1; refine ⟨okF, ?_⟩)
  refine RD_freezeB .here ?_
  refine RD_hv (φ := allWM [a]) (Hv.wm1 memF) ?_
  (refine RD_callS rfl (hF _ _ _ memF memF) rfl rfl ?_; rintro _ _ _ ⟨rfl, rfl, rfl⟩; refine ⟨okF, ?_⟩)
  by_cases hs : a.sht
  rotate_left
  · rw [B_false (fun h => hs (hf2.1 h))]
    repeat (refine wXh ?_)
    refine ND_ret1 (by first | exact .inl rfl | exact .inr rfl) rfl rfl _ _ subF incF (⟨rfl, rfl, rfl⟩)
  rw [B_true (hf2.2 hs)]
  by_cases ha5 : a.rows.length ≤ 5
  rotate_left
  · repeat (refine wXh ?_)
    refine ND_ret1 (by first | exact .inl rfl | exact .inr rfl) rfl rfl _ _ subF incF (⟨rfl, rfl, rfl⟩)
  repeat (refine wXh ?_)
  (refine RD_callS rfl (hSh _ _ memF) rfl rfl ?_; rintro _ _ _ ⟨rfl, rfl, rfl⟩; refine ⟨okF, ?_⟩)
  by_cases hk : x.sht
  rotate_left
  · rw [B_false hk]
    repeat (refine wXh ?_)
    refine ND_ret1 (by first | exact .inl rfl | exact .inr rfl) rfl rfl _ _ subF incF (⟨rfl, rfl, rfl⟩)
  rw [B_true hk]
  clear hF hf2 hSh
  have sa := hs.sml
  have sx := hk.sml
  by_cases hq : sqC a = 0
  rotate_left
  · have hDb := fun M0 I0 h1 => Definite_bad (X := X) (w0 := w0) (M0 := M0) (I0 := I0) (a := a) sa hq h1
    have hSb := fun M0 I0 h1 => shape_bad (X := X) (w0 := w0) (M0 := M0) (I0 := I0) (a := a) sa hq h1
    have hCb := fun M0 I0 h1 => CW_bad1 (X := X) (w0 := w0) (M0 := M0) (I0 := I0) (a := a) (x := x) sa hq h1
    generalize sqC a = cc at *
    repeat (refine wXh ?_)
    (refine RD_callS rfl (hDb _ _ memF) rfl rfl ?_; rintro _ _ _ ⟨rfl, rfl, rfl⟩; refine ⟨okF, ?_⟩)
    repeat (refine wXh ?_)
    (refine RD_callS rfl (hSb _ _ memF) rfl rfl ?_; rintro _ _ _ ⟨rfl, rfl, rfl⟩; refine ⟨okF, ?_⟩)
    repeat (refine wXh ?_)
    (refine RD_callS rfl (hCb _ _ memF) rfl rfl ?_; rintro _ _ _ ⟨rfl, rfl, rfl⟩; refine ⟨okF, ?_⟩)
    repeat (refine wXh ?_)
    refine ND_ret1 (by first | exact .inl rfl | exact .inr rfl) rfl rfl _ _ subF incF (⟨rfl, rfl, rfl⟩)
  have hoa : a.ok := by
    by_cases h : a.ok
    · exact h
    · unfold sqC at hq; rw [if_neg h] at hq; exact absurd hq (by decide)
  have hsq : a.rows.length = (gt a.rows 0).es.length := by
    by_cases h : a.rows.length = (gt a.rows 0).es.length
    · exact h
    · unfold sqC at hq; rw [if_pos hoa, if_neg h] at hq; exact absurd hq (by decide)
  obtain ⟨A, eA, fA⟩ := ok_raw fa hoa
  rw [← hsq] at fA
  obtain ⟨n, hn⟩ : ∃ n, n = a.rows.length := ⟨_, rfl⟩
  rw [← hn] at fA ha5
  have eM : mvW a = mv A := by rw [eA, mv_raw]
  have lA := fA.1.1
  have hSo := fun M0 I0 h1 => shape_ok (X := X) (w0 := w0) (M0 := M0) (I0 := I0) (a := A) (n := n) (k := 30) (by decide) fA h1
  unfold symC at hSo
  have hBad2 := fun hb M0 I0 h1 h2 => CW_bad2 (X := X) (w0 := w0) (M0 := M0) (I0 := I0) (a := A) (x := x) (n := n) (k := 30) (by decide) sx fA hb h1 h2
  rw [← eM] at hSo hBad2
  refine RD_hv (φ := isX A 30) (Hv.shtX eA hs memF) ?_
  by_cases hsy : symM A.q n
  rotate_left
  · have hDa := fun M0 I0 h1 => Definite_asym (X := X) (w0 := w0) (M0 := M0) (I0 := I0) (a := A) (n := n) (k := 30) (by decide) fA hsy h1
    have hBa := fun M0 I0 h1 h2 => hBad2 (fun h => hsy h.1) M0 I0 h1 h2
    rw [← eM] at hDa
    rw [if_neg hsy] at hSo
    clear hBad2
    repeat (refine wXh ?_)
    (refine RD_callS rfl (hDa _ _ memF) rfl rfl ?_; rintro _ _ _ ⟨rfl, rfl, rfl⟩; refine ⟨okF, ?_⟩)
    repeat (refine wXh ?_)
    (refine RD_callS rfl (hSo _ _ memF) rfl rfl ?_; rintro _ _ _ ⟨rfl, rfl, rfl⟩; refine ⟨okF, ?_⟩)
    repeat (refine wXh ?_)
    (refine RD_callS rfl (hBa _ _ memF memF) rfl rfl ?_; rintro _ _ _ ⟨rfl, rfl, rfl⟩; refine ⟨okF, ?_⟩)
    repeat (refine wXh ?_)
    refine ND_ret1 (by first | exact .inl rfl | exact .inr rfl) rfl rfl _ _ subF incF (⟨rfl, rfl, rfl⟩)
  rw [if_pos hsy] at hSo
  have hDo := fun M0 I0 h1 => Definite_ok (X := X) (w0 := w0) (M0 := M0) (I0 := I0) (a := A) (n := n) ha5 fA hsy h1
  have hRd := fun M0 I0 h1 => rDefinite_ok (X := X) (w0 := w0) (M0 := M0) (I0 := I0) (a := A) (n := n) (k0 := 30) (fun u h1 h2 => by
    have : u = 1 ∨ u = 2 ∨ u = 3 ∨ u = 4 ∨ u = 5 := by omega
    rcases this with rfl | rfl | rfl | rfl | rfl <;> decide) fA h1
  have hK1 : n * (30 + n * (30 + 30 + 1) + 1) ≤ 100000000 := Nat.le_trans (Nat.mul_le_mul ha5 (Nat.add_le_add_right (Nat.add_le_add_left (Nat.mul_le_mul_right _ ha5) _) _)) (by decide)
  have hK2 : n * (500000 + n * (30 + 500000 + 1) + 1) ≤ 100000000 := Nat.le_trans (Nat.mul_le_mul ha5 (Nat.add_le_add_right (Nat.add_le_add_left (Nat.mul_le_mul_right _ ha5) _) _)) (by decide)
  have hAgW := fun (W : RL) (hl : W.es.length = n) M0 I0 h1 h2 => against_ok (X := X) (w0 := w0) (M0 := M0) (I0 := I0) (a := A) (x := W) (n := n) (k0 := 30) (m := 500000) (by decide) (by decide) hK2 fA hl h1 h2
  have hCwW := fun (W : RL) (hl : W.es.length = n) M0 I0 h1 h2 => CW_ok (X := X) (w0 := w0) (M0 := M0) (I0 := I0) (a := A) (x := W) (n := n) (k := 30) (m := 500000) (by decide) (by decide) hK2 fA hsy hl h1 h2
  rw [← eM] at hDo hRd hAgW hCwW
  -- what CheckWitness and against say of the raw list
  obtain ⟨b, hb1, hb2, hb3⟩ : ∃ b : Bool, (∀ M0 I0, isX A 30 ∈ I0 → isWL x ∈ I0 → CD Tryz.prog 77 [mvW a, lvW x] X w0 M0 I0 (fun v M I => M0 = M ∧ I0 = I ∧ v = .bool b)) ∧ (∀ M0 I0, isX A 30 ∈ I0 → isWL x ∈ I0 → CD Tryz.prog 79 [mvW a, lvW x] X w0 M0 I0 (fun v M I => M0 = M ∧ I0 = I ∧ v = .bool b)) ∧ ((∀ t, t < n → 0 < rsF (at2 A.q) t t t) → b = false) := by
    by_cases hg : x.good ∧ x.es.length = n
    · obtain ⟨V, eV, hVl⟩ := good_rawL fx hg.1
      have hVn : V.es.length = n := by rw [hVl]; exact hg.2
      have eL : lvW x = lv V := by rw [eV, lv_raw]
      refine ⟨B (witD A.q V.q n), fun M0 I0 h1 h2 => ?_, fun M0 I0 h1 h2 => ?_, fun hp => ?_⟩
      · rw [eM, eL]
        exact CD_hvV (φ := isL V 30) (Hv.shtL eV hk h2) (CW_ok (k := 30) (m := 30) (by decide) (by decide) hK1 fA hsy hVn (List.Mem.tail _ h1) (List.Mem.head _))
      · rw [eM, eL]
        exact CD_hvV (φ := isL V 30) (Hv.shtL eV hk h2) (against_ok (k0 := 30) (m := 30) (by decide) (by decide) hK1 fA hVn (List.Mem.tail _ h1) (List.Mem.head _))
      · exact B_false (p := witD A.q V.q n) (pos_noWit hsy (by simp [hVn]) hp)
    · refine ⟨false, fun M0 I0 h1 h2 => hBad2 (fun h => hg ⟨h.2.2, h.2.1⟩) M0 I0 h1 h2, fun M0 I0 h1 h2 => ?_, fun _ => rfl⟩
      rw [eM]
      exact against_bad sx fA hg h2
  clear hBad2
  repeat (refine wXh ?_)
  (refine RD_callS rfl (hDo _ _ memF) rfl rfl ?_; rintro _ _ _ ⟨rfl, hdef⟩; refine ⟨okF, ?_⟩)
  rcases hdef with ⟨rfl, rfl, hp⟩ | ⟨W, kd, rfl, hWl, hWit, rfl⟩
  · rw [B_true (posD_iff hp)] at hRd
    rw [hb3 hp] at hb1 hb2
    clear hAgW hCwW hDo
    repeat (refine wXh ?_)
    (refine RD_callS rfl (hSo _ _ memF) rfl rfl ?_; rintro _ _ _ ⟨rfl, rfl, rfl⟩; refine ⟨okF, ?_⟩)
    repeat (refine wXh ?_)
    (refine RD_callS rfl (hRd _ _ memF) rfl rfl ?_; rintro _ _ _ ⟨rfl, rfl, rfl⟩; refine ⟨okF, ?_⟩)
    repeat (refine wXh ?_)
    (refine RD_callS rfl (hb1 _ _ memF memF) rfl rfl ?_; rintro _ _ _ ⟨rfl, rfl, rfl⟩; refine ⟨okF, ?_⟩)
    repeat (refine wXh ?_)
    (refine RD_callS rfl (hb2 _ _ memF memF) rfl rfl ?_; rintro _ _ _ ⟨rfl, rfl, rfl⟩; refine ⟨okF, ?_⟩)
    repeat (refine wXh ?_)
    (refine RD_callS rfl (hb2 _ _ memF memF) rfl rfl ?_; rintro _ _ _ ⟨rfl, rfl, rfl⟩; refine ⟨okF, ?_⟩)
    repeat (refine wXh ?_)
    refine ND_ret1 (by first | exact .inl rfl | exact .inr rfl) rfl rfl _ _ subF incF (⟨rfl, rfl, congrArg Value.bool (B_true (by omega))⟩)
  · have hw : witD A.q W.q n := ⟨hWit.nz, hWit.form hsy⟩
    have hAg := hAgW W hWl
    have hCw := hCwW W hWl
    rw [B_true (p := witD A.q W.q n) hw] at hAg hCw
    rw [B_false (p := posD (at2 A.q) n) hWit.not_pos] at hRd
    clear hAgW hCwW hDo hb3
    repeat (refine wXh ?_)
    (refine RD_callS rfl (hSo _ _ memF) rfl rfl ?_; rintro _ _ _ ⟨rfl, rfl, rfl⟩; refine ⟨okF, ?_⟩)
    repeat (refine wXh ?_)
    (refine RD_callS rfl (hRd _ _ memF) rfl rfl ?_; rintro _ _ _ ⟨rfl, rfl, rfl⟩; refine ⟨okF, ?_⟩)
    cases b
    · repeat (refine wXh ?_)
      (refine RD_callS rfl (hb1 _ _ memF memF) rfl rfl ?_; rintro _ _ _ ⟨rfl, rfl, rfl⟩; refine ⟨okF, ?_⟩)
      repeat (refine wXh ?_)
      (refine RD_callS rfl (hb2 _ _ memF memF) rfl rfl ?_; rintro _ _ _ ⟨rfl, rfl, rfl⟩; refine ⟨okF, ?_⟩)
      repeat (refine wXh ?_)
      (refine RD_callS rfl (hAg _ _ memF memF) rfl rfl ?_; rintro _ _ _ ⟨rfl, rfl, rfl⟩; refine ⟨okF, ?_⟩)
      repeat (refine wXh ?_)
      (refine RD_callS rfl (hCw _ _ memF memF) rfl rfl ?_; rintro _ _ _ ⟨rfl, rfl, rfl⟩; refine ⟨okF, ?_⟩)
      repeat (refine wXh ?_)
      refine ND_ret1 (by first | exact .inl rfl | exact .inr rfl) rfl rfl _ _ subF incF (⟨rfl, rfl, rfl⟩)
    · repeat (refine wXh ?_)
      (refine RD_callS rfl (hb1 _ _ memF memF) rfl rfl ?_; rintro _ _ _ ⟨rfl, rfl, rfl⟩; refine ⟨okF, ?_⟩)
      repeat (refine wXh ?_)
      (refine RD_callS rfl (hb2 _ _ memF memF) rfl rfl ?_; rintro _ _ _ ⟨rfl, rfl, rfl⟩; refine ⟨okF, ?_⟩)
      repeat (refine wXh ?_)
      (refine RD_callS rfl (hAg _ _ memF memF) rfl rfl ?_; rintro _ _ _ ⟨rfl, rfl, rfl⟩; refine ⟨okF, ?_⟩)
      repeat (refine wXh ?_)
      (refine RD_callS rfl (hCw _ _ memF memF) rfl rfl ?_; rintro _ _ _ ⟨rfl, rfl, rfl⟩; refine ⟨okF, ?_⟩)
      repeat (refine wXh ?_)
      refine ND_ret1 (by first | exact .inl rfl | exact .inr rfl) rfl rfl _ _ subF incF (⟨rfl, rfl, rfl⟩)
end
end Go.Proofs.YtdmlebigkakplaaGreat
