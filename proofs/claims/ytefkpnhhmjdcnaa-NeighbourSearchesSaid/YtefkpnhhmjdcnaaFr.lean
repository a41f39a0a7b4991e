/- Arguments, opened: slices of records, structs with slices. -/
import Derived.Test.YtefkpnhhmjdcnaaFo
import Derived.Test.YtefkpnhhmjdcnaaFs
namespace Go.Fx
open Go.ChangeShapes Go.WideShapes Go.RowKit Go.ChangeAt

section
variable {H : Type} {enc : TypeId × Value → H} {P : Program} {W : World}

theorem flat_inv {sz : Nat} : ∀ (rows : List (List Value)) (k : Nat) (v : Value), (∀ r ∈ rows, r.length = sz) → rows.flatten[k]? = some v → ∃ i row, rows[i]? = some row ∧ i * sz ≤ k ∧ row[k - i * sz]? = some v
  | [], k, v, _, h => by simp at h
  | r :: rows, k, v, hr, h => by
    rw [List.flatten_cons] at h
    have hl := hr r (by simp)
    by_cases hk : k < r.length
    · rw [List.getElem?_append_left hk] at h
      exact ⟨0, r, by simp, by omega, by simpa using h⟩
    · rw [List.getElem?_append_right (by omega)] at h
      obtain ⟨i, row, h1, h2, h3⟩ := flat_inv rows _ v (fun r' hr' => hr r' (by simp [hr'])) h
      refine ⟨i + 1, row, by simpa using h1, by rw [Nat.add_mul]; omega, ?_⟩
      rw [← h3]
      congr 1
      rw [Nat.add_mul]; omega

/-- a slice's cells, row by row -/
theorem open_rows {base fuel : Nat} {t e : TypeId} {v : Value} {x : DataW H × List MemPlace} (ht : P.underlying t = some (.slice e)) (hv : Value.okWide P W .any base t v) (h : DataW.trod enc P W 0 (fun _ => true) true fuel t v.cells.toList = some x) :
    ∃ (a : Option Addr) (len c : Nat), v = .slice a len c ∧ (len : Int) ≤ 9223372036854775807 ∧ len ≤ c ∧ (Ok a ∨ (a = none ∧ len = 0 ∧ c = 0)) ∧
      ∃ rows : List (List Value), rows.length = len ∧ (∀ r ∈ rows, r.length = P.cellsOf e ∧ ∃ n y, DataW.trod enc P W 0 (fun _ => true) true n e r = some y) ∧ Sl [] W a rows.flatten := by
  obtain ⟨a, len, c, rfl⟩ := okWide_slice ht hv
  obtain ⟨h1, h2, h3⟩ := slice_ok ht hv
  refine ⟨a, len, c, rfl, h1, h2, h3, ?_⟩
  rcases DataW.trod_slice ht h with ⟨hcs, _⟩ | ⟨a', len', cap', elems, rest, n, _, hcs, _, _, _, _, hlen, hel, _, _⟩
  · simp [Value.cells] at hcs
    obtain ⟨rfl, rfl, rfl⟩ := hcs
    exact ⟨[], rfl, by simp, Sl.nil _ _ _⟩
  · simp [Value.cells] at hcs
    obtain ⟨rfl, rfl, rfl⟩ := hcs
    have hok : Ok (some a') := h3.resolve_right (by simp)
    have each : ∀ i, i < len → ∃ cs y, W.cells? 0 (a'.add (i * P.cellsOf e)) (P.cellsOf e) = some cs ∧ DataW.trod enc P W 0 (fun _ => true) true n e cs = some y := fun i hi => by
      have := hel i hi
      rw [List.getElem?_eq_getElem (by omega), Option.bind_eq_some_iff] at this
      obtain ⟨cs, h1, h2⟩ := this
      exact ⟨cs, _, h1, h2⟩
    refine ⟨(List.range len).map (fun i => (W.cells? 0 (a'.add (i * P.cellsOf e)) (P.cellsOf e)).getD []), by simp, ?_, ?_⟩
    · intro r hr
      obtain ⟨i, hi, rfl⟩ := List.mem_map.1 hr
      obtain ⟨cs, y, h4, h5⟩ := each i (by simpa using hi)
      rw [h4]
      exact ⟨(World.cells?_some h4).2.1, n, y, h5⟩
    · intro j v hj
      have hall : ∀ r ∈ (List.range len).map (fun i => (W.cells? 0 (a'.add (i * P.cellsOf e)) (P.cellsOf e)).getD []), r.length = P.cellsOf e := by
        intro r hr
        obtain ⟨i, hi, rfl⟩ := List.mem_map.1 hr
        obtain ⟨cs, y, h4, h5⟩ := each i (by simpa using hi)
        rw [h4]
        exact (World.cells?_some h4).2.1
      obtain ⟨i, row, h4, h5, h6⟩ := flat_inv _ j v hall hj
      rw [List.getElem?_map] at h4
      obtain ⟨i', hi', rfl⟩ := Option.map_eq_some_iff.1 h4
      have hii : i' = i ∧ i < len := by
        obtain ⟨q1, q2⟩ := List.getElem?_eq_some_iff.1 hi'
        rw [List.getElem_range] at q2
        exact ⟨q2.symm, by simpa using q1⟩
      obtain ⟨rfl, hil⟩ := hii
      obtain ⟨cs, y, h7, h8⟩ := each i' hil
      rw [h7] at h6
      simp only [Option.getD_some] at h6
      obtain ⟨_, hl, hc⟩ := World.cells?_some h7
      have hlt : j - i' * P.cellsOf e < P.cellsOf e := by
        have := (List.getElem?_eq_some_iff.1 h6).1
        omega
      have hcell := hc _ hlt
      rw [h6] at hcell
      refine ⟨hok, by simp, ?_⟩
      obtain ⟨b, o, eq⟩ := hok.cases
      injection eq with eq
      subst eq
      rw [add_lit, add_lit] at hcell
      rw [← hcell]
      simp only [pt, bl, of, Option.getD_some]
      congr 2
      omega
/-- a slice of records -/
theorem open_sliceM {α : Type} {en : α → List Value} {Pm : α → Prop} {base : Nat} {t e : TypeId} {v : Value} {d : DataW H} {p : List MemPlace} (ht : P.underlying t = some (.slice e)) (hdec : ∀ (r : List Value) n y, r.length = P.cellsOf e → DataW.trod enc P W 0 (fun _ => true) true n e r = some y → ∃ m, r = en m ∧ Pm m)
    (hv : Value.okWide P W .any base t v) (h : DataW.Trod enc P W 0 (fun _ => true) true t v d p) :
    ∃ (a : Option Addr) (ms : List α) (c : Nat), v = .slice a ms.length c ∧ Sl [] W a (recs en ms) ∧ (∀ m ∈ ms, Pm m) ∧ (ms.length : Int) ≤ 9223372036854775807 ∧ ms.length ≤ c ∧ (Ok a ∨ (a = none ∧ ms.length = 0 ∧ c = 0)) := by
  obtain ⟨fuel, hf⟩ := h
  obtain ⟨a, len, c, rfl, h1, h2, h3, rows, hl, hr, hs⟩ := open_rows ht hv hf
  have key : ∀ rows : List (List Value), (∀ r ∈ rows, r.length = P.cellsOf e ∧ ∃ n y, DataW.trod enc P W 0 (fun _ => true) true n e r = some y) → ∃ ms : List α, rows = ms.map en ∧ ∀ m ∈ ms, Pm m := by
    intro rows
    induction rows with
    | nil => intro _; exact ⟨[], rfl, by simp⟩
    | cons r rows ih =>
      intro hr
      obtain ⟨hrl, n, y, hy⟩ := hr r (by simp)
      obtain ⟨m, rfl, hm⟩ := hdec r n y hrl hy
      obtain ⟨ms, rfl, hms⟩ := ih (fun r' hr' => hr r' (by simp [hr']))
      exact ⟨m :: ms, rfl, fun m' hm' => by
        rcases List.mem_cons.1 hm' with rfl | hm'
        · exact hm
        · exact hms m' hm'⟩
  obtain ⟨ms, rfl, hms⟩ := key rows hr
  have hlen : ms.length = len := by simpa using hl
  subst hlen
  refine ⟨a, ms, c, rfl, ?_, hms, h1, h2, h3⟩
  rw [← List.flatMap_def] at hs
  exact hs
/-- a struct, cell by cell -/
theorem open_struct {base : Nat} {t : TypeId} {v : Value} {d : DataW H} {p : List MemPlace} {fs : Array Field} (ht : P.underlying t = some (.struct fs)) (hv : Value.okWide P W .any base t v) (h : DataW.Trod enc P W 0 (fun _ => true) true t v d p) :
    ∃ cs : List Value, v = .agg cs.toArray ∧ cs.length = P.cellsOf t ∧ Row.okWide P W .any base t cs.toArray ∧ ∀ (i : Nat) (f : Field), fs[i]? = some f → ∃ n y, DataW.trod enc P W 0 (fun _ => true) true n f.type ((cs.drop f.offset).take (P.cellsOf f.type)) = some y := by
  simp only [Value.okWide, ht] at hv
  obtain ⟨cs, rfl, hsz, hrow⟩ := hv
  obtain ⟨fuel, hf⟩ := h
  obtain ⟨xs, n, rfl, _, hl, hxl, hx⟩ := DataW.trod_struct ht hf
  refine ⟨cs.toList, by simp, by simpa using hsz, by simpa using hrow, fun i f hfi => ?_⟩
  have hi : i < fs.size := (Array.getElem?_eq_some_iff.1 hfi).1
  have := hx i f hfi
  rw [List.getElem?_eq_getElem (by omega)] at this
  exact ⟨n, _, this⟩
theorem dec_int {t : TypeId} {k : IntKind} {n : Nat} {cs : List Value} {y : DataW H × List MemPlace} (ht : P.underlying t = some (.int k)) (h : DataW.trod enc P W 0 (fun _ => true) true n t cs = some y) : ∃ x : Int, cs = [.int k x] ∧ (Lit.int k x).wf = true := by
  obtain ⟨m, h1, _, h2⟩ := DataW.trod_int ht h
  exact ⟨m, h1, h2⟩
/-- a record of ints of one kind -/
theorem dec_ints {t : TypeId} {k : IntKind} {m n : Nat} {cs : List Value} {y : DataW H × List MemPlace} {fs : Array Field} (ht : P.underlying t = some (.struct fs)) (hf : fs.toList.map (fun (f : Field) => (f.offset, P.cellsOf f.type)) = (List.range m).map (fun i => (i, 1))) (hk : ∀ f ∈ fs.toList, P.underlying f.type = some (.int k)) (hl : cs.length = m)
    (h : DataW.trod enc P W 0 (fun _ => true) true n t cs = some y) : ∃ xs : List Int, cs = xs.map (Value.int k) ∧ xs.length = m ∧ ∀ x ∈ xs, (Lit.int k x).wf = true := by
  obtain ⟨zs, n', rfl, _, _, hzl, hz⟩ := DataW.trod_struct ht h
  have each : ∀ i, i < m → ∃ x : Int, cs[i]? = some (.int k x) ∧ (Lit.int k x).wf = true := fun i hi => by
    have hsz : fs.toList.length = m := by have := congrArg List.length hf; simpa using this
    obtain ⟨f, hfi⟩ : ∃ f, fs.toList[i]? = some f := ⟨_, List.getElem?_eq_getElem (by omega)⟩
    have hoff : (f.offset, P.cellsOf f.type) = (i, 1) := by
      have : (fs.toList.map (fun f => (f.offset, P.cellsOf f.type)))[i]? = some (f.offset, P.cellsOf f.type) := by rw [List.getElem?_map, hfi]; rfl
      rw [hf, List.getElem?_map, List.getElem?_range hi] at this
      simpa using this.symm
    injection hoff with ho hc
    have hf2 : fs[i]? = some f := by simpa using hfi
    have := hz i f hf2
    rw [List.getElem?_eq_getElem (by rw [hzl]; exact (Array.getElem?_eq_some_iff.1 hf2).1), ho, hc] at this
    obtain ⟨x, hx, hw⟩ := dec_int (hk f (List.mem_of_getElem? hfi)) this
    refine ⟨x, ?_, hw⟩
    have : ((cs.drop i).take 1)[0]? = some (.int k x) := by rw [hx]; rfl
    rw [List.getElem?_take, if_pos (by omega), List.getElem?_drop] at this
    simpa using this
  refine ⟨cs.map (fun v => match v with | .int _ x => x | _ => 0), ?_, by simpa using hl, ?_⟩
  · apply List.ext_getElem
    · simp
    · intro i h1 h2
      obtain ⟨x, hx, _⟩ := each i (by omega)
      have : cs[i] = .int k x := by
        have := (List.getElem?_eq_some_iff.1 hx).2
        exact this
      simp [this]
  · intro x hx
    obtain ⟨v, hv, rfl⟩ := List.mem_map.1 hx
    obtain ⟨i, hi, rfl⟩ := List.mem_iff_getElem.1 hv
    obtain ⟨y, hy, hw⟩ := each i (by omega)
    have : cs[i] = .int k y := (List.getElem?_eq_some_iff.1 hy).2
    rw [this]
    exact hw
theorem three_of {xs : List Int} (h : xs.length = 3) : ∃ a b c, xs = [a, b, c] := by
  match xs, h with
  | [a, b, c], _ => exact ⟨a, b, c, rfl⟩
theorem Mem.startS {W : World} {I : List Imm} {a : Option Addr} {cs : List Value} (h : Mem [] W [] I W) (hs : Sl [] W a cs) : Mem [] W [] (slI a cs :: I) W := h.add (φ := slI a cs) ⟨hs⟩
end
end Go.Fx
