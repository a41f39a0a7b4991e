/- Arguments, opened: integers, slices of integers. The lift of a law's walk to its row. -/
import Derived.Test.YtefkpnhhmjdcnaaFl
import Derived.WalkKit
import Derived.ProofKit
import Derived.OpenShut
namespace Go.Fx
open Go.ChangeShapes Go.WideShapes Go.RowKit Go.ChangeAt

section
variable {H : Type} {enc : TypeId × Value → H} {P : Program} {W : World}

theorem slice_ok {base : Nat} {t e : TypeId} {a : Option Addr} {len c : Nat} (ht : P.underlying t = some (.slice e)) (h : Value.okWide P W .any base t (.slice a len c)) :
    (len : Int) ≤ 9223372036854775807 ∧ len ≤ c ∧ (Ok a ∨ (a = none ∧ len = 0 ∧ c = 0)) := by
  simp only [Value.okWide, ht, Cell.okWide] at h
  cases a with
  | none =>
    cases len <;> cases c <;> simp_all [Cell.ok]
  | some a =>
    simp only [Cell.ok, ht] at h
    obtain ⟨h1, h2, h3⟩ := h
    have hm : IntKind.i64.max = 9223372036854775807 := by decide
    rw [hm] at h2
    refine ⟨by omega, h1, .inl ?_⟩
    cases a with
    | mk b o s =>
      have : s = none := h3.2.1
      subst this
      exact Ok.mk b o

theorem open_sliceI {base : Nat} {t e : TypeId} {k : IntKind} {v : Value} {d : DataW H} {p : List MemPlace} (ht : P.underlying t = some (.slice e)) (he : P.underlying e = some (.int k)) (hc : P.cellsOf e = 1)
    (hv : Value.okWide P W .any base t v) (h : DataW.Trod enc P W 0 (fun _ => true) true t v d p) :
    ∃ a l c, v = .slice a l.length c ∧ Ints [] W k a l ∧ (∀ x ∈ l, (Lit.int k x).wf = true) ∧ (l.length : Int) ≤ 9223372036854775807 ∧ l.length ≤ c ∧ (Ok a ∨ (a = none ∧ l.length = 0 ∧ c = 0)) := by
  obtain ⟨a, len, c, rfl⟩ := okWide_slice ht hv
  obtain ⟨h1, h2, h3⟩ := slice_ok ht hv
  obtain ⟨fuel, hf⟩ := h
  rcases open_ints ht he hc hf with ⟨hcs, _⟩ | ⟨a', len', cap', zs, hcs, _, hl, hm, hz, _, hcell, hwz⟩
  · simp [Value.cells] at hcs
    obtain ⟨rfl, rfl, rfl⟩ := hcs
    exact ⟨none, [], 0, rfl, Sl.nil _ _ _, by simp, by simp, by simp, .inr ⟨rfl, rfl, rfl⟩⟩
  · simp [Value.cells] at hcs
    obtain ⟨rfl, rfl, rfl⟩ := hcs
    simp only [if_true] at hz
    have hlen : (zs.take len).length = len := by simp; omega
    have hok : Ok (some a') := h3.resolve_right (by simp)
    refine ⟨some a', zs.take len, c, by rw [hlen], ?_, fun x hx => hwz x (List.mem_of_mem_take hx), by omega, by omega, .inl hok⟩
    intro j v hj
    rw [List.getElem?_map] at hj
    obtain ⟨x, hx, rfl⟩ := Option.map_eq_some_iff.1 hj
    have hjl : j < len := by
      have := (List.getElem?_eq_some_iff.1 hx).1
      omega
    refine ⟨hok, by simp, ?_⟩
    have hg : zs.getD j 0 = x := by
      rw [List.getElem?_take] at hx
      simp [hjl] at hx
      simp [List.getD, hx]
    have := hcell j (by omega)
    rw [hg] at this
    obtain ⟨b, o, e⟩ := hok.cases
    injection e with e
    subst e
    rw [add_lit] at this
    simpa [pt, bl, of] using this

theorem open_intW {base : Nat} {t : TypeId} {k : IntKind} {v : Value} {d : DataW H} {p : List MemPlace} (ht : P.underlying t = some (.int k)) (hv : Value.okWide P W .any base t v) :
    ∃ x, v = .int k x ∧ (Lit.int k x).wf = true := by
  simp only [Value.okWide, ht, Cell.okWide] at hv
  cases v <;> simp_all [Cell.ok, Lit.wf, IntKind.has]

theorem two_of {xs : List Int} (h : xs.length = 2) : ∃ a b, xs = [a, b] := by
  match xs, h with
  | [a, b], _ => exact ⟨a, b, rfl⟩
theorem u64_of {a : Int} (h : (Lit.int .u64 a).wf = true) : 0 ≤ a ∧ a ≤ 18446744073709551615 := by
  simp only [Lit.wf, Bool.and_eq_true, decide_eq_true_eq] at h
  have h3 := h.2
  rw [show IntKind.u64.max = 18446744073709551615 by decide] at h3
  exact ⟨h.1, h3⟩
theorem i64_of {a : Int} (h : (Lit.int .i64 a).wf = true) : -9223372036854775808 ≤ a ∧ a ≤ 9223372036854775807 := by
  simp only [Lit.wf, Bool.and_eq_true, decide_eq_true_eq] at h
  have h2 := h.1
  have h3 := h.2
  rw [show IntKind.i64.max = 9223372036854775807 by decide] at h3
  rw [show IntKind.i64.min = -9223372036854775808 by decide] at h2
  exact ⟨h2, h3⟩
theorem u8_of {a : Int} (h : (Lit.int .u8 a).wf = true) : 0 ≤ a ∧ a ≤ 255 := by
  simp only [Lit.wf, Bool.and_eq_true, decide_eq_true_eq] at h
  have h3 := h.2
  rw [show IntKind.u8.max = 255 by decide] at h3
  exact ⟨h.1, h3⟩

/-- an array or a struct of integers of one kind -/
theorem open_aggI {base : Nat} {t : TypeId} {k : IntKind} {v : Value} {ts : List TypeId} {n : Nat} (ht : (∃ fs, P.underlying t = some (.struct fs)) ∨ ∃ m e, P.underlying t = some (.array m e)) (hts : P.cellTypes P.depth t = some ts)
    (hk : ∀ u ∈ ts, P.underlying u = some (.int k)) (hc : P.cellsOf t = n) (hv : Value.okWide P W .any base t v) :
    ∃ xs : List Int, v = .agg (xs.map (Value.int k)).toArray ∧ xs.length = n ∧ ∀ x ∈ xs, (Lit.int k x).wf = true := by
  have hv' : ∃ cs, v = .agg cs ∧ cs.size = P.cellsOf t ∧ Row.okWide P W .any base t cs := by
    rcases ht with ⟨fs, ht⟩ | ⟨m, e, ht⟩ <;> simpa [Value.okWide, ht] using hv
  obtain ⟨cs, rfl, hsz, ts', hts', _, hall⟩ := hv'
  rw [hts] at hts'
  injection hts' with e
  subst e
  have each : ∀ (i : Nat) (v : Value), cs[i]? = some v → ∃ x : Int, v = Value.int k x ∧ (Lit.int k x).wf = true := fun i v hi => by
    obtain ⟨u, hu, hcell⟩ := hall i v hi
    have hku := hk u (List.mem_of_getElem? hu)
    cases v <;> simp_all [Cell.okWide, Cell.ok, Lit.wf, IntKind.has]
  refine ⟨cs.toList.map (fun v => match v with | .int _ x => x | _ => 0), ?_, by simp [hsz, hc], ?_⟩
  · congr 1
    apply Array.ext'
    rw [List.map_map]
    simp only [List.toList_toArray]
    apply List.ext_getElem
    · simp
    · intro i h1 h2
      obtain ⟨x, hx, _⟩ := each i cs[i] (by simp at h1; simp [h1])
      simp [hx]
  · intro x hx
    obtain ⟨v, hv, rfl⟩ := List.mem_map.1 hx
    obtain ⟨i, hi, rfl⟩ := List.mem_iff_getElem.1 hv
    obtain ⟨y, hy, hw⟩ := each i cs[i] (by simp at hi; simp [hi])
    have : cs.toList[i] = .int k y := by simpa using hy
    rw [this]
    exact hw

theorem trodAll_stay (hl : laidOutB P = true) {W' : World} (hB : Below W.heap.size W W') : ∀ (ts : List TypeId) (vs : List Value) (ds : List (DataW H)) (p : List MemPlace), (∀ t ∈ ts, P.readableRec t = true ∧ t < P.types.size) →
    (∀ x ∈ p, x.block < W.heap.size) → DataW.TrodAll enc P W 0 (fun _ => true) true ts vs ds p → DataW.TrodAll enc P W' 0 (fun b => decide (b < W.heap.size)) true ts vs ds p
  | [], _, _, _, _, _, h => by
    obtain ⟨rfl, rfl, rfl⟩ := trodAll_nil h
    exact trodAll_mk0
  | t :: ts, _, _, _, hr, hp, h => by
    obtain ⟨v, vs', d, ds', p', q', rfl, rfl, rfl, h1, h2⟩ := trodAll_cons h
    have hr0 := hr t (by simp)
    exact trodAll_cons_mk (Below.trod hl hr0.1 hr0.2 h1 hB (fun x hx => hp x (List.mem_append.2 (.inl hx)))) (trodAll_stay hl hB ts vs' ds' q' (fun u hu => hr u (by simp [hu])) (fun x hx => hp x (List.mem_append.2 (.inr hx))) h2)
end
end Go.Fx
