/- Forest: the chapter's examples, walked. Arguments, opened: slices of records, structs with slices. Forest: arguments opened; the law ForestClasses, walked. Plain: the lightest link, one after the other. Forest: the document's numbering, of links in an owned list. Forest: the document's Tree. Forest: CheckTree; the laws ForestTrees, ForestLightest, walked. Plain: rounds of numbers from those before, as lists. Forest: the document's Reached, Shortest. Forest: the document's Shortest; faulty inputs of Shortest; equal lists of truth values. Forest: the law ForestShortest, walked. Forest: the document's Potentials, CheckPotentials. Forest: the law ForestPotentials, walked. -/
import Derived.Test.YtkhgglkkdnemlaaZeam
import Derived.Test.YtkhgglkkdnemlaaZeai
import Derived.Test.YtkhgglkkdnemlaaZeab
import Derived.Test.YtkhgglkkdnemlaaZeaf
import Derived.Test.YtkhgglkkdnemlaaZeaj
set_option linter.unusedSimpArgs false
set_option linter.unusedVariables false
namespace Go.Proofs.Ytkhgglkkdnemlaa
open Go Go.Fx
section
variable {X : List Nat} {w0 : World} {M0 : List Ent} {I0 : List Imm}
set_option maxRecDepth 100000 in
theorem example_ok : CD Try.prog 45 [] X w0 M0 I0 (fun v M I => I0 = I ∧ ∃ b, v = gv (4 : Nat) (some ⟨b, 0, none⟩) 4 4 ∧ M = .blk b (recs eK exL) 39 :: M0) := by
  refine enterD0 Try.func45 rfl Try.ntmps45 rfl ?_
  refine TD_seq ?_
  refine TD_region ?_
  (refine RD_alloc rfl rfl ?_; intro b0; refine ⟨okF, ?_⟩)
  repeat (refine wXh ?_)
  (refine RD_c rfl (fun _ => Const_structC (vals := [.int .i64 0, .int .i64 1, .int .i64 2]) (cells := eK ⟨0, 1, 2⟩) rfl ?hpl rfl ?hz) rfl rfl ?_; (case hpl => repeat (first | exact True.intro | refine ⟨rfl, ?_⟩)); (case hz => rfl))
  repeat (refine wXh ?_)
  (refine RD_c rfl (fun _ => Const_structC (vals := [.int .i64 1, .int .i64 2, .int .i64 1]) (cells := eK ⟨1, 2, 1⟩) rfl ?hpl rfl ?hz) rfl rfl ?_; (case hpl => repeat (first | exact True.intro | refine ⟨rfl, ?_⟩)); (case hz => rfl))
  repeat (refine wXh ?_)
  (refine RD_c rfl (fun _ => Const_structC (vals := [.int .i64 2, .int .i64 0, .int .i64 2]) (cells := eK ⟨2, 0, 2⟩) rfl ?hpl rfl ?hz) rfl rfl ?_; (case hpl => repeat (first | exact True.intro | refine ⟨rfl, ?_⟩)); (case hz => rfl))
  repeat (refine wXh ?_)
  (refine RD_c rfl (fun _ => Const_structC (vals := [.int .i64 2, .int .i64 3, .int .i64 5]) (cells := eK ⟨2, 3, 5⟩) rfl ?hpl rfl ?hz) rfl rfl ?_; (case hpl => repeat (first | exact True.intro | refine ⟨rfl, ?_⟩)); (case hz => rfl))
  repeat (refine wXh ?_)
  (refine RD_vals (cs := recs eK exL) ([.agg (eK ⟨0, 1, 2⟩).toArray, .agg (eK ⟨1, 2, 1⟩).toArray, .agg (eK ⟨2, 0, 2⟩).toArray, .agg (eK ⟨2, 3, 5⟩).toArray]) rfl rfl (by intro v hv; repeat (first | exact absurd hv (List.not_mem_nil) | (rcases List.mem_cons.1 hv with rfl | hv; · rfl))) (by omega) rfl rfl rfl ?_; intro b; refine ⟨okF, ?_⟩)
  repeat (refine wXh ?_)
  (refine RD_c rfl (fun _ => Const_structC (vals := [.int .i64 4, .slice (some ⟨b, 0, none⟩) 4 4]) (cells := [.int .i64 4, .slice (some ⟨b, 0, none⟩) 4 4]) rfl ?hpl rfl ?hz) rfl rfl ?_; (case hpl => repeat (first | exact True.intro | refine ⟨rfl, ?_⟩)); (case hz => rfl))
  repeat (refine wXh ?_)
  refine ND_retC (cs := [.int .i64 4, .slice (some ⟨b, 0, none⟩) 4 4]) (.inl rfl) rfl rfl memF rfl (.blk b (recs eK exL) 39 :: M0) I0 subF incF ⟨rfl, b, rfl, rfl⟩
theorem few_ok {N : Int} {p : Option Addr} {m c : Nat} : CD Try.prog 13 [gv N p m c] X w0 M0 I0 (fun v M I => M0 = M ∧ I0 = I ∧ v = .bool (B (N ≤ 10 ∧ m ≤ 24))) := by
  refine enterD1 Try.func13 rfl Try.ntmps13 rfl ?_
  refine TD_seq ?_
  refine TD_region ?_
  (refine RD_boxA rfl rfl rfl ?_; intro b; refine ⟨okF, ?_⟩)
  refine RD_freezeB .here ?_
  by_cases h : N ≤ 10
  · repeat (refine wXh ?_)
    refine ND_ret1 (by first | exact .inl rfl | exact .inr rfl) rfl rfl _ _ subF incF (⟨rfl, rfl, congrArg Value.bool (B_congr (by omega))⟩)
  · repeat (refine wXh ?_)
    refine ND_ret1 (by first | exact .inl rfl | exact .inr rfl) rfl rfl _ _ subF incF (⟨rfl, rfl, congrArg Value.bool (B_false (by omega)).symm⟩)
set_option maxRecDepth 100000 in
set_option maxHeartbeats 2000000 in
theorem known11_ok : CD Try.prog 12 [] X w0 M0 I0 (fun v M I => M0 = M ∧ I0 = I ∧ v = .bool true) := by
  have hT := fun (p : Option Addr) M0 I0 h => gTree_ok (X := X) (w0 := w0) (M0 := M0) (I0 := I0) (p := p) (n := 4) (ms := exL) (m := 4) (c := 4) (by decide) rfl (by decide) exL_gd h
  rw [exL_kt] at hT
  have hS := fun (p : Option Addr) M0 I0 h => Shortest_ok (X := X) (w0 := w0) (M0 := M0) (I0 := I0) (p := p) (n := 4) (ms := exL) (m := 4) (c := 4) (s := 0) (by decide) rfl (by decide) exL_gd (by decide) ⟨_, exL_fix⟩ h
  have hP := fun (p : Option Addr) M0 I0 h => Potentials_no (X := X) (w0 := w0) (M0 := M0) (I0 := I0) (p := p) (n := 4) (ms := exM) (m := 4) (c := 4) (by decide) rfl (by decide) exM_gd exM_no h
  refine enterD0 Try.func12 rfl Try.ntmps12 rfl ?_
  repeat (refine wXh ?_)
  (refine RD_callS rfl (example_ok) rfl rfl ?_; rintro _ _ _ ⟨rfl, b1, rfl, rfl⟩; refine ⟨okF, ?_⟩)
  refine RD_freezeB (b := b1) .here ?_
  (refine RD_callS rfl (hT _ _ _ memF) rfl rfl ?_; rintro _ _ _ ⟨rfl, q, c', rfl, hc', rfl⟩; refine ⟨okF, ?_⟩)
  repeat (refine wXh ?_)
  (refine RD_callS rfl (example_ok) rfl rfl ?_; rintro _ _ _ ⟨rfl, b2, rfl, rfl⟩; refine ⟨okF, ?_⟩)
  refine RD_freezeB (b := b2) .here ?_
  (refine RD_callS rfl (hS _ _ _ memF) rfl rfl ?_; rintro _ _ _ ⟨rfl, d, kn, q1, q2, c1, c2, rfl, hf, ld, lk, hz, rfl⟩; refine ⟨okF, ?_⟩)
  have hd := exL_short ld hf
  repeat (refine wXh ?_)
  (refine RD_callS rfl (example_ok) rfl rfl ?_; rintro _ _ _ ⟨rfl, b3, rfl, rfl⟩; refine ⟨okF, ?_⟩)
  repeat (refine wXh ?_)
  rw [show recs eK exL = [.int .i64 0, .int .i64 1, .int .i64 2, .int .i64 1, .int .i64 2, .int .i64 1, .int .i64 2, .int .i64 0, .int .i64 2, .int .i64 2, .int .i64 3, .int .i64 5] from rfl]
  (refine RD_alloc rfl rfl ?_; intro b6; refine ⟨okF, ?_⟩)
  repeat (refine wXh ?_)
  refine RD_freezeB (b := b3) (cs := recs eK exM) (e := 39) (.there .here) ?_
  (refine RD_callS rfl (hP _ _ _ memF) rfl rfl ?_; rintro _ _ _ ⟨rfl, rfl, rfl⟩; refine ⟨okF, ?_⟩)
  subst hd
  have hE := fun (q1 q2 : Option Addr) (a : List Int) (c c' : Nat) (h : a.length ≤ 10) M0 I0 h1 h2 => EqI_ok (X := X) (w0 := w0) (M0 := M0) (I0 := I0) (p := q1) (q := q2) (a := a) (b := a) (c := c) (c' := c') (by omega) h1 h2
  repeat (refine wXh ?_)
  (refine RD_vals (cs := recs (eI .i64) [0, 1, 3]) ([.int .i64 0, .int .i64 1, .int .i64 3]) rfl rfl (by intro v hv; repeat (first | exact absurd hv (List.not_mem_nil) | (rcases List.mem_cons.1 hv with rfl | hv; · rfl))) (by omega) rfl rfl rfl ?_; intro b8; refine ⟨okF, ?_⟩)
  refine RD_freezeB .here ?_
  (refine RD_callS rfl (hE q (some ⟨b8, 0, none⟩) [0, 1, 3] c' 3 (by decide) _ _ memF memF) rfl rfl ?_; rintro _ _ _ ⟨rfl, rfl, rfl⟩; refine ⟨okF, ?_⟩)
  rw [B_true (p := [0, 1, 3] = [0, 1, 3]) rfl]
  repeat (refine wXh ?_)
  (refine RD_vals (cs := recs (eI .i64) [0, 2, 3, 8]) ([.int .i64 0, .int .i64 2, .int .i64 3, .int .i64 8]) rfl rfl (by intro v hv; repeat (first | exact absurd hv (List.not_mem_nil) | (rcases List.mem_cons.1 hv with rfl | hv; · rfl))) (by omega) rfl rfl rfl ?_; intro b9; refine ⟨okF, ?_⟩)
  refine RD_freezeB .here ?_
  (refine RD_callS rfl (hE q1 (some ⟨b9, 0, none⟩) [0, 2, 3, 8] c1 4 (by decide) _ _ memF memF) rfl rfl ?_; rintro _ _ _ ⟨rfl, rfl, rfl⟩; refine ⟨okF, ?_⟩)
  rw [B_true (p := [0, 2, 3, 8] = [0, 2, 3, 8]) rfl]
  repeat (refine wXh ?_)
  refine ND_ret1 (by first | exact .inl rfl | exact .inr rfl) rfl rfl _ _ subF incF (⟨rfl, rfl, rfl⟩)
end
end Go.Proofs.Ytkhgglkkdnemlaa
namespace Go.Fx
open Go.ChangeShapes Go.WideShapes Go.RowKit Go.ChangeAt

section
variable {H : Type} {enc : TypeId × Value → H} {P : Program} {W : World}

theorem flat_inv {sz : Nat} : ∀ (rows : List (List Value)) (k : Nat) (v : Value), (∀ r ∈ rows, r.length = sz) → rows.flatten[k]? = some v → ∃ i row, rows[i]? = some row ∧ i * sz ≤ k ∧ row[k - i * sz]? = some v
  | [], k, v, _, h => by simp at h
  | r :: rows, k, v, hr, h => by
    rw [List.flatten_cons] at h
    have hl := hr r (by simp)
    by_cases hk : k < r.length
    · rw [List.getElem?_append_left hk] at h
      exact ⟨0, r, by simp, by omega, by simpa using h⟩
    · rw [List.getElem?_append_right (by omega)] at h
      obtain ⟨i, row, h1, h2, h3⟩ := flat_inv rows _ v (fun r' hr' => hr r' (by simp [hr'])) h
      refine ⟨i + 1, row, by simpa using h1, by rw [Nat.add_mul]; omega, ?_⟩
      rw [← h3]
      congr 1
      rw [Nat.add_mul]; omega

/-- a slice's cells, row by row -/
theorem open_rows {base fuel : Nat} {t e : TypeId} {v : Value} {x : DataW H × List MemPlace} (ht : P.underlying t = some (.slice e)) (hv : Value.okWide P W .any base t v) (h : DataW.trod enc P W 0 (fun _ => true) true fuel t v.cells.toList = some x) :
    ∃ (a : Option Addr) (len c : Nat), v = .slice a len c ∧ (len : Int) ≤ 9223372036854775807 ∧ len ≤ c ∧ (Ok a ∨ (a = none ∧ len = 0 ∧ c = 0)) ∧
      ∃ rows : List (List Value), rows.length = len ∧ (∀ r ∈ rows, r.length = P.cellsOf e ∧ ∃ n y, DataW.trod enc P W 0 (fun _ => true) true n e r = some y) ∧ Sl [] W a rows.flatten := by
  obtain ⟨a, len, c, rfl⟩ := okWide_slice ht hv
  obtain ⟨h1, h2, h3⟩ := slice_ok ht hv
  refine ⟨a, len, c, rfl, h1, h2, h3, ?_⟩
  rcases DataW.trod_slice ht h with ⟨hcs, _⟩ | ⟨a', len', cap', elems, rest, n, _, hcs, _, _, _, _, hlen, hel, _, _⟩
  · simp [Value.cells] at hcs
    obtain ⟨rfl, rfl, rfl⟩ := hcs
    exact ⟨[], rfl, by simp, Sl.nil _ _ _⟩
  · simp [Value.cells] at hcs
    obtain ⟨rfl, rfl, rfl⟩ := hcs
    have hok : Ok (some a') := h3.resolve_right (by simp)
    have each : ∀ i, i < len → ∃ cs y, W.cells? 0 (a'.add (i * P.cellsOf e)) (P.cellsOf e) = some cs ∧ DataW.trod enc P W 0 (fun _ => true) true n e cs = some y := fun i hi => by
      have := hel i hi
      rw [List.getElem?_eq_getElem (by omega), Option.bind_eq_some_iff] at this
      obtain ⟨cs, h1, h2⟩ := this
      exact ⟨cs, _, h1, h2⟩
    refine ⟨(List.range len).map (fun i => (W.cells? 0 (a'.add (i * P.cellsOf e)) (P.cellsOf e)).getD []), by simp, ?_, ?_⟩
    · intro r hr
      obtain ⟨i, hi, rfl⟩ := List.mem_map.1 hr
      obtain ⟨cs, y, h4, h5⟩ := each i (by simpa using hi)
      rw [h4]
      exact ⟨(World.cells?_some h4).2.1, n, y, h5⟩
    · intro j v hj
      have hall : ∀ r ∈ (List.range len).map (fun i => (W.cells? 0 (a'.add (i * P.cellsOf e)) (P.cellsOf e)).getD []), r.length = P.cellsOf e := by
        intro r hr
        obtain ⟨i, hi, rfl⟩ := List.mem_map.1 hr
        obtain ⟨cs, y, h4, h5⟩ := each i (by simpa using hi)
        rw [h4]
        exact (World.cells?_some h4).2.1
      obtain ⟨i, row, h4, h5, h6⟩ := flat_inv _ j v hall hj
      rw [List.getElem?_map] at h4
      obtain ⟨i', hi', rfl⟩ := Option.map_eq_some_iff.1 h4
      have hii : i' = i ∧ i < len := by
        obtain ⟨q1, q2⟩ := List.getElem?_eq_some_iff.1 hi'
        rw [List.getElem_range] at q2
        exact ⟨q2.symm, by simpa using q1⟩
      obtain ⟨rfl, hil⟩ := hii
      obtain ⟨cs, y, h7, h8⟩ := each i' hil
      rw [h7] at h6
      simp only [Option.getD_some] at h6
      obtain ⟨_, hl, hc⟩ := World.cells?_some h7
      have hlt : j - i' * P.cellsOf e < P.cellsOf e := by
        have := (List.getElem?_eq_some_iff.1 h6).1
        omega
      have hcell := hc _ hlt
      rw [h6] at hcell
      refine ⟨hok, by simp, ?_⟩
      obtain ⟨b, o, eq⟩ := hok.cases
      injection eq with eq
      subst eq
      rw [add_lit, add_lit] at hcell
      rw [← hcell]
      simp only [pt, bl, of, Option.getD_some]
      congr 2
      omega
/-- a slice of records -/
theorem open_sliceM {α : Type} {en : α → List Value} {Pm : α → Prop} {base : Nat} {t e : TypeId} {v : Value} {d : DataW H} {p : List MemPlace} (ht : P.underlying t = some (.slice e)) (hdec : ∀ (r : List Value) n y, r.length = P.cellsOf e → DataW.trod enc P W 0 (fun _ => true) true n e r = some y → ∃ m, r = en m ∧ Pm m)
    (hv : Value.okWide P W .any base t v) (h : DataW.Trod enc P W 0 (fun _ => true) true t v d p) :
    ∃ (a : Option Addr) (ms : List α) (c : Nat), v = .slice a ms.length c ∧ Sl [] W a (recs en ms) ∧ (∀ m ∈ ms, Pm m) ∧ (ms.length : Int) ≤ 9223372036854775807 ∧ ms.length ≤ c ∧ (Ok a ∨ (a = none ∧ ms.length = 0 ∧ c = 0)) := by
  obtain ⟨fuel, hf⟩ := h
  obtain ⟨a, len, c, rfl, h1, h2, h3, rows, hl, hr, hs⟩ := open_rows ht hv hf
  have key : ∀ rows : List (List Value), (∀ r ∈ rows, r.length = P.cellsOf e ∧ ∃ n y, DataW.trod enc P W 0 (fun _ => true) true n e r = some y) → ∃ ms : List α, rows = ms.map en ∧ ∀ m ∈ ms, Pm m := by
    intro rows
    induction rows with
    | nil => intro _; exact ⟨[], rfl, by simp⟩
    | cons r rows ih =>
      intro hr
      obtain ⟨hrl, n, y, hy⟩ := hr r (by simp)
      obtain ⟨m, rfl, hm⟩ := hdec r n y hrl hy
      obtain ⟨ms, rfl, hms⟩ := ih (fun r' hr' => hr r' (by simp [hr']))
      exact ⟨m :: ms, rfl, fun m' hm' => by
        rcases List.mem_cons.1 hm' with rfl | hm'
        · exact hm
        · exact hms m' hm'⟩
  obtain ⟨ms, rfl, hms⟩ := key rows hr
  have hlen : ms.length = len := by simpa using hl
  subst hlen
  refine ⟨a, ms, c, rfl, ?_, hms, h1, h2, h3⟩
  rw [← List.flatMap_def] at hs
  exact hs
/-- a struct, cell by cell -/
theorem open_struct {base : Nat} {t : TypeId} {v : Value} {d : DataW H} {p : List MemPlace} {fs : Array Field} (ht : P.underlying t = some (.struct fs)) (hv : Value.okWide P W .any base t v) (h : DataW.Trod enc P W 0 (fun _ => true) true t v d p) :
    ∃ cs : List Value, v = .agg cs.toArray ∧ cs.length = P.cellsOf t ∧ Row.okWide P W .any base t cs.toArray ∧ ∀ (i : Nat) (f : Field), fs[i]? = some f → ∃ n y, DataW.trod enc P W 0 (fun _ => true) true n f.type ((cs.drop f.offset).take (P.cellsOf f.type)) = some y := by
  simp only [Value.okWide, ht] at hv
  obtain ⟨cs, rfl, hsz, hrow⟩ := hv
  obtain ⟨fuel, hf⟩ := h
  obtain ⟨xs, n, rfl, _, hl, hxl, hx⟩ := DataW.trod_struct ht hf
  refine ⟨cs.toList, by simp, by simpa using hsz, by simpa using hrow, fun i f hfi => ?_⟩
  have hi : i < fs.size := (Array.getElem?_eq_some_iff.1 hfi).1
  have := hx i f hfi
  rw [List.getElem?_eq_getElem (by omega)] at this
  exact ⟨n, _, this⟩
theorem dec_int {t : TypeId} {k : IntKind} {n : Nat} {cs : List Value} {y : DataW H × List MemPlace} (ht : P.underlying t = some (.int k)) (h : DataW.trod enc P W 0 (fun _ => true) true n t cs = some y) : ∃ x : Int, cs = [.int k x] ∧ (Lit.int k x).wf = true := by
  obtain ⟨m, h1, _, h2⟩ := DataW.trod_int ht h
  exact ⟨m, h1, h2⟩
/-- a record of ints of one kind -/
theorem dec_ints {t : TypeId} {k : IntKind} {m n : Nat} {cs : List Value} {y : DataW H × List MemPlace} {fs : Array Field} (ht : P.underlying t = some (.struct fs)) (hf : fs.toList.map (fun (f : Field) => (f.offset, P.cellsOf f.type)) = (List.range m).map (fun i => (i, 1))) (hk : ∀ f ∈ fs.toList, P.underlying f.type = some (.int k)) (hl : cs.length = m)
    (h : DataW.trod enc P W 0 (fun _ => true) true n t cs = some y) : ∃ xs : List Int, cs = xs.map (Value.int k) ∧ xs.length = m ∧ ∀ x ∈ xs, (Lit.int k x).wf = true := by
  obtain ⟨zs, n', rfl, _, _, hzl, hz⟩ := DataW.trod_struct ht h
  have each : ∀ i, i < m → ∃ x : Int, cs[i]? = some (.int k x) ∧ (Lit.int k x).wf = true := fun i hi => by
    have hsz : fs.toList.length = m := by have := congrArg List.length hf; simpa using this
    obtain ⟨f, hfi⟩ : ∃ f, fs.toList[i]? = some f := ⟨_, List.getElem?_eq_getElem (by omega)⟩
    have hoff : (f.offset, P.cellsOf f.type) = (i, 1) := by
      have : (fs.toList.map (fun f => (f.offset, P.cellsOf f.type)))[i]? = some (f.offset, P.cellsOf f.type) := by rw [List.getElem?_map, hfi]; rfl
      rw [hf, List.getElem?_map, List.getElem?_range hi] at this
      simpa using this.symm
    injection hoff with ho hc
    have hf2 : fs[i]? = some f := by simpa using hfi
    have := hz i f hf2
    rw [List.getElem?_eq_getElem (by rw [hzl]; exact (Array.getElem?_eq_some_iff.1 hf2).1), ho, hc] at this
    obtain ⟨x, hx, hw⟩ := dec_int (hk f (List.mem_of_getElem? hfi)) this
    refine ⟨x, ?_, hw⟩
    have : ((cs.drop i).take 1)[0]? = some (.int k x) := by rw [hx]; rfl
    rw [List.getElem?_take, if_pos (by omega), List.getElem?_drop] at this
    simpa using this
  refine ⟨cs.map (fun v => match v with | .int _ x => x | _ => 0), ?_, by simpa using hl, ?_⟩
  · apply List.ext_getElem
    · simp
    · intro i h1 h2
      obtain ⟨x, hx, _⟩ := each i (by omega)
      have : cs[i] = .int k x := by
        have := (List.getElem?_eq_some_iff.1 hx).2
        exact this
      simp [this]
  · intro x hx
    obtain ⟨v, hv, rfl⟩ := List.mem_map.1 hx
    obtain ⟨i, hi, rfl⟩ := List.mem_iff_getElem.1 hv
    obtain ⟨y, hy, hw⟩ := each i (by omega)
    have : cs[i] = .int k y := (List.getElem?_eq_some_iff.1 hy).2
    rw [this]
    exact hw
theorem three_of {xs : List Int} (h : xs.length = 3) : ∃ a b c, xs = [a, b, c] := by
  match xs, h with
  | [a, b, c], _ => exact ⟨a, b, c, rfl⟩
theorem Mem.startS {W : World} {I : List Imm} {a : Option Addr} {cs : List Value} (h : Mem [] W [] I W) (hs : Sl [] W a cs) : Mem [] W [] (slI a cs :: I) W := h.add (φ := slI a cs) ⟨hs⟩
end
end Go.Fx
namespace Go.Proofs.Ytkhgglkkdnemlaa
open Go Go.Fx
set_option maxRecDepth 100000 in
theorem dec_K {H : Type} {enc : TypeId × Value → H} {W : World} (r : List Value) (n : Nat) (y : DataW H × List MemPlace) (hl : r.length = Try.prog.cellsOf 39) (h : DataW.trod enc Try.prog W 0 (fun _ => true) true n 39 r = some y) : ∃ m : LK, r = eK m ∧ True := by
  obtain ⟨xs, rfl, hx, _⟩ := dec_ints (k := .i64) (m := 3) Try.underlying39 (by kernel_rfl) (by intro f hf; simp at hf; rcases hf with rfl | rfl | rfl <;> exact Try.underlying3) (by rw [hl]; kernel_rfl) h
  obtain ⟨a, b, c, rfl⟩ := three_of hx
  exact ⟨⟨a, b, c⟩, rfl, trivial⟩
set_option maxRecDepth 100000 in
theorem open_ks {H : Type} {enc : TypeId × Value → H} {W : World} {base : Nat} {v : Value} {d : DataW H} {p : List MemPlace} (hv : Value.okWide Try.prog W .any base 22 v) (h : DataW.Trod enc Try.prog W 0 (fun _ => true) true 22 v d p) :
    ∃ (a : Option Addr) (ms : List LK) (c : Nat), v = .slice a ms.length c ∧ Sl [] W a (recs eK ms) ∧ (ms.length : Int) ≤ 9223372036854775807 := by
  obtain ⟨a, ms, c, rfl, hs, _, hn, _, _⟩ := open_sliceM (en := eK) (Pm := fun _ => True) Try.underlying22 (fun r n y => dec_K r n y) hv h
  exact ⟨a, ms, c, rfl, hs, hn⟩
set_option maxRecDepth 100000 in
theorem open_g {H : Type} {enc : TypeId × Value → H} {W : World} {base : Nat} {v : Value} {d : DataW H} {p : List MemPlace} (hv : Value.okWide Try.prog W .any base 24 v) (h : DataW.Trod enc Try.prog W 0 (fun _ => true) true 24 v d p) :
    ∃ (N : Int) (a : Option Addr) (ms : List LK) (c : Nat), v = gv N a ms.length c ∧ Sl [] W a (recs eK ms) ∧ (ms.length : Int) ≤ 9223372036854775807 := by
  obtain ⟨cs, rfl, hl, hrow, hf⟩ := open_struct Try.underlying24 hv h
  have hl4 : cs.length = 2 := by rw [hl]; kernel_rfl
  match cs, hl4 with
  | [c0, c3], _ =>
    obtain ⟨n0, y0, h0⟩ := hf 0 _ rfl
    obtain ⟨n3, y3, h3⟩ := hf 1 _ rfl
    have e1 : Try.prog.cellsOf 3 = 1 := by kernel_rfl
    have e2 : Try.prog.cellsOf 22 = 1 := by kernel_rfl
    replace h0 : DataW.trod enc Try.prog W 0 (fun _ => true) true n0 3 (([c0, c3].drop 0).take (Try.prog.cellsOf 3)) = some y0 := h0
    replace h3 : DataW.trod enc Try.prog W 0 (fun _ => true) true n3 22 (([c0, c3].drop 1).take (Try.prog.cellsOf 22)) = some y3 := h3
    rw [e1] at h0
    rw [e2] at h3
    obtain ⟨x0, q0, _⟩ := dec_int Try.underlying3 h0
    simp at q0
    subst q0
    have hcell : Value.okWide Try.prog W .any base 22 c3 := by
      obtain ⟨ts, hts, _, hall⟩ := hrow
      have e : ts = [3, 22] := by
        have : Try.prog.cellTypes Try.prog.depth 24 = some [3, 22] := by kernel_rfl
        rw [this] at hts
        exact (Option.some.inj hts).symm
      subst e
      obtain ⟨u, hu, hc⟩ := hall 1 c3 rfl
      have : u = 22 := by simpa using hu.symm
      subst this
      simpa [Value.okWide, Try.underlying22] using hc
    have h3' : DataW.Trod enc Try.prog W 0 (fun _ => true) true 22 c3 y3.1 y3.2 := by
      obtain ⟨a, len, c, rfl⟩ := Go.WideShapes.okWide_slice Try.underlying22 hcell
      exact ⟨n3, by simpa [Value.cells] using h3⟩
    obtain ⟨a, ms, c, rfl, hs, hn⟩ := open_ks hcell h3'
    exact ⟨x0, a, ms, c, rfl, hs, hn⟩
section
variable {X : List Nat} {w0 : World} {M0 : List Ent} {I0 : List Imm}
end
end Go.Proofs.Ytkhgglkkdnemlaa
namespace Go.Proofs.Ytkhgglkkdnemlaa
open Go Go.Fx
/-- links taken, links left -/
structure Sel (ms : List LK) (P L : List Int) : Prop where
  asc : L.Pairwise (· < ·)
  mem : ∀ k, k ∈ P ∨ k ∈ L ↔ k ∈ rg ms.length
  pw : P.Pairwise (kl ms)
  lt : ∀ x ∈ P, ∀ y ∈ L, kl ms x y
end Go.Proofs.Ytkhgglkkdnemlaa
namespace Go.Proofs.Ytkhgglkkdnemlaa
open Go Go.Fx
section
variable {X : List Nat} {w0 : World} {M0 : List Ent} {I0 : List Imm}
end
end Go.Proofs.Ytkhgglkkdnemlaa
namespace Go.Proofs.Ytkhgglkkdnemlaa
open Go Go.Fx
section
variable {X : List Nat} {w0 : World} {M0 : List Ent} {I0 : List Imm}
end
end Go.Proofs.Ytkhgglkkdnemlaa
namespace Go.Proofs.Ytkhgglkkdnemlaa
open Go Go.Fx
def ccode (ms : List LK) (ls : List Int) : Int := if fcode ms ls ≠ 0 then fcode ms ls else if ¬ spn ms ls then 6 else if wsum ms ls ≠ wsum ms (kt ms) then 12 else 0
section
variable {X : List Nat} {w0 : World} {M0 : List Ent} {I0 : List Imm}
end
end Go.Proofs.Ytkhgglkkdnemlaa
namespace Go.Proofs.Ytkhgglkkdnemlaa
open Go Go.Fx
/-- within a round: the first i links done -/
structure Jx (ms : List LK) (n : Nat) (d k : List Int × List Bool) (i : Nat) : Prop where
  ld : k.1.length = n
  lk : k.2.length = n
  eq : OD k.1 k.2 = jr ms (OD d.1 d.2) i
  zero : ∀ v : Int, 0 ≤ v → v < n → gt k.2 v = false → gt k.1 v = 0
/-- after so many rounds -/
structure Jo (ms : List LK) (n : Nat) (D0 : Int → Option Int) (t : Nat) (d : List Int × List Bool) : Prop where
  ld : d.1.length = n
  lk : d.2.length = n
  eq : OD d.1 d.2 = DK ms D0 t
  zero : ∀ v : Int, 0 ≤ v → v < n → gt d.2 v = false → gt d.1 v = 0
end Go.Proofs.Ytkhgglkkdnemlaa
namespace Go.Proofs.Ytkhgglkkdnemlaa
open Go Go.Fx
section
variable {X : List Nat} {w0 : World} {M0 : List Ent} {I0 : List Imm}
end
end Go.Proofs.Ytkhgglkkdnemlaa
namespace Go.Proofs.Ytkhgglkkdnemlaa
open Go Go.Fx
section
variable {X : List Nat} {w0 : World} {M0 : List Ent} {I0 : List Imm}
end
end Go.Proofs.Ytkhgglkkdnemlaa
namespace Go.Proofs.Ytkhgglkkdnemlaa
open Go Go.Fx
section
variable {X : List Nat} {w0 : World} {M0 : List Ent} {I0 : List Imm}
end
end Go.Proofs.Ytkhgglkkdnemlaa
namespace Go.Proofs.Ytkhgglkkdnemlaa
open Go Go.Fx
/-- what CheckPotentials looks at -/
def okP (n : Nat) (ms : List LK) (l : List Int) : Prop := l.length = n ∧ (∀ j : Nat, j < n → -274877906944 ≤ gt l j ∧ gt l j ≤ 274877906944) ∧ Pot ms (gt l)
def bdP (n : Nat) (l : List Int) : Prop := ∀ j : Nat, j < n → -274877906944 ≤ gt l j ∧ gt l j ≤ 274877906944
def PC (n : Nat) (ms : List LK) (l : List Int) (e : Int) : Prop := (l.length ≠ n ∧ e = 4) ∨ (l.length = n ∧ ¬ bdP n l ∧ e = 2) ∨ (l.length = n ∧ bdP n l ∧ ¬ Pot ms (gt l) ∧ e = 12) ∨ (okP n ms l ∧ e = 0)
theorem PC.iff {n : Nat} {ms : List LK} {l : List Int} {e : Int} (h : PC n ms l e) : e = 0 ↔ okP n ms l := by
  rcases h with ⟨h1, h2⟩ | ⟨h1, h3, h2⟩ | ⟨h1, h4, h3, h2⟩ | ⟨h1, h2⟩
  · subst h2; exact ⟨fun h => by omega, fun h => absurd h.1 h1⟩
  · subst h2; exact ⟨fun h => by omega, fun h => absurd h.2.1 h3⟩
  · subst h2; exact ⟨fun h => by omega, fun h => absurd h.2.2 h3⟩
  · subst h2; exact ⟨fun _ => h1, fun _ => rfl⟩
section
variable {X : List Nat} {w0 : World} {M0 : List Ent} {I0 : List Imm}
set_option maxRecDepth 100000 in
set_option maxHeartbeats 2000000 in
theorem CheckPot_ok {p q : Option Addr} {n m c t ct : Nat} {ms : List LK} {l : List Int} (hn : n ≤ 256) (hm : ms.length = m) (hm2 : m ≤ 1024) (hg : Gd ms n) (hl : l.length = t) (hl2 : (t : Int) ≤ 9223372036854775807) (hp : slI p (recs eK ms) ∈ I0) (hq : slI q (recs (eI .i64) l) ∈ I0) :
    CD Try.prog 23 [gv n p m c, .slice q t ct] X w0 M0 I0 (fun v M I => M0 = M ∧ I0 = I ∧ ∃ e : Int, v = .int .i64 e ∧ (e = 0 ↔ okP n ms l) ∧ PC n ms l e) := by
  have hC := fun M0 I0 h => gCheck_ok (X := X) (w0 := w0) (M0 := M0) (I0 := I0) (p := p) (N := n) (ms := ms) (c := c) hm (by omega) h
  rw [gcode_gd (by omega) (by omega) hg] at hC
  refine enterD2 Try.func23 rfl Try.ntmps23 rfl ?_
  refine TD_seq ?_
  refine TD_region ?_
  (refine RD_boxA rfl rfl rfl ?_; intro b2; refine ⟨okF, ?_⟩)
  refine RD_freezeB .here ?_
  repeat (refine wXh ?_)
  (refine RD_callS rfl (hC _ _ memF) rfl rfl ?_; rintro _ _ _ ⟨rfl, rfl, rfl⟩; refine ⟨okF, ?_⟩)
  by_cases htn : t = n
  rotate_left
  · repeat (refine wXh ?_)
    have hpc : PC n ms l 4 := .inl ⟨fun h => htn (hl.symm.trans h), rfl⟩
    refine ND_ret1 (by first | exact .inl rfl | exact .inr rfl) rfl rfl _ _ subF incF (⟨rfl, rfl, 4, rfl, hpc.iff, hpc⟩)
  subst htn
  repeat (refine wXh ?_)
  refine TD_loop [1, 2, 20, 21] rfl (fun k G M I => ∃ i : Nat, i ≤ t ∧ k = t - i ∧ (∀ j : Nat, j < i → -274877906944 ≤ gt l j ∧ gt l j ≤ 274877906944) ∧ G = [(22, .int .i64 i)] ∧ M0 = M ∧ I = slI (some ⟨b2, 0, none⟩) [.int .i64 t, .slice p m c] :: I0) (t) _ _ _ subG subF incF (⟨0, by omega, rfl, fun j hj => by omega, rfl, rfl, rfl⟩) ?_
  rintro kk G M I ⟨i, hi, rfl, hb, rfl, rfl, rfl⟩
  by_cases hit : i < t
  · by_cases h1 : gt l (i : Int) < -274877906944
    · repeat (refine wXh ?_)
      have hpc : PC t ms l 2 := .inr (.inl ⟨hl, fun h => by have := h i hit; omega, rfl⟩)
      refine ND_ret1 (by first | exact .inl rfl | exact .inr rfl) rfl rfl _ _ subF incF (⟨rfl, rfl, 2, rfl, hpc.iff, hpc⟩)
    by_cases h2 : 274877906944 < gt l (i : Int)
    · repeat (refine wXh ?_)
      have hpc : PC t ms l 2 := .inr (.inl ⟨hl, fun h => by have := h i hit; omega, rfl⟩)
      refine ND_ret1 (by first | exact .inl rfl | exact .inr rfl) rfl rfl _ _ subF incF (⟨rfl, rfl, 2, rfl, hpc.iff, hpc⟩)
    repeat (refine wXh ?_)
    refine ND_again (t - (i + 1)) _ _ _ (by first | omega | (simp only [List.length_append, List.length_cons, List.length_nil]; omega)) subG subF incF (⟨i + 1, by omega, rfl, fun j hj => ?_, rfl, rfl, rfl⟩)
    by_cases e : j = i
    · subst e; omega
    · exact hb j (by omega)
  obtain rfl : i = t := by omega
  repeat (refine wXh ?_)
  refine TD_loop [1, 34, 35] rfl (fun k G M I => ∃ k2 : Nat, k2 ≤ m ∧ k = m - k2 ∧ (∀ j : Nat, j < k2 → gt l (gt ms j).b ≤ gt l (gt ms j).a + (gt ms j).w) ∧ G = [(36, .int .i64 k2)] ∧ M0 = M ∧ I = slI (some ⟨b2, 0, none⟩) [.int .i64 i, .slice p m c] :: I0) (m) _ _ _ subG subF incF (⟨0, by omega, rfl, fun j hj => by omega, rfl, rfl, rfl⟩) ?_
  rintro kk G M I ⟨k2, hk, rfl, hs, rfl, rfl, rfl⟩
  by_cases hkm : k2 < m
  · have hA := hg.a (k2 : Int) (by omega) (by omega)
    have hB := hg.b (k2 : Int) (by omega) (by omega)
    have hW := hg.w (k2 : Int) (by omega) (by omega)
    unfold wt at hW
    have hbA := hb (gt ms (k2 : Int)).a.toNat (by omega)
    rw [Int.toNat_of_nonneg hA.1] at hbA
    by_cases hle : gt l (gt ms (k2 : Int)).b ≤ gt l (gt ms (k2 : Int)).a + (gt ms (k2 : Int)).w
    · repeat (refine wXh ?_)
      (refine RD_alloc rfl rfl ?_; intro b9; refine ⟨okF, ?_⟩)
      repeat (refine wXh ?_)
      (repeat refine TD_seq ?_); refine TD_drawnJ 0 [0, 1, 2, 3, 4, 5, 6, 7, 8, 9, 10, 11, 12, 13] [0, 0, 0, 0, 0, 0, 0, 0, 0, 0, 0, 0, 0, 0] mixed (by kernel_rfl) ?_
      repeat (refine wXh ?_)
      refine ND_again (m - (k2 + 1)) _ _ _ (by first | omega | (simp only [List.length_append, List.length_cons, List.length_nil]; omega)) subG subF incF (⟨k2 + 1, by omega, rfl, fun j hj => ?_, rfl, rfl, rfl⟩)
      by_cases e : j = k2
      · subst e; exact hle
      · exact hs j (by omega)
    · repeat (refine wXh ?_)
      (refine RD_alloc rfl rfl ?_; intro b9; refine ⟨okF, ?_⟩)
      repeat (refine wXh ?_)
      (repeat refine TD_seq ?_); refine TD_drawnJ 0 [0, 1, 2, 3, 4, 5, 6, 7, 8, 9, 10, 11, 12, 13] [0, 0, 0, 0, 0, 0, 0, 0, 0, 0, 0, 0, 0, 0] mixed (by kernel_rfl) ?_
      repeat (refine wXh ?_)
      have hpc : PC i ms l 12 := .inr (.inr (.inl ⟨hl, hb, fun h => hle (h (k2 : Int) (by omega) (by omega)), rfl⟩))
      refine ND_ret1 (by first | exact .inl rfl | exact .inr rfl) rfl rfl _ _ subF incF (⟨rfl, rfl, 12, rfl, hpc.iff, hpc⟩)
  · repeat (refine wXh ?_)
    have hpc : PC i ms l 0 := .inr (.inr (.inr ⟨⟨hl, hb, fun j h0 hj => by { have := hs j.toNat (by omega); rw [Int.toNat_of_nonneg h0] at this; exact this }⟩, rfl⟩))
    refine ND_ret1 (by first | exact .inl rfl | exact .inr rfl) rfl rfl _ _ subF incF (⟨rfl, rfl, 0, rfl, hpc.iff, hpc⟩)
end
section
variable {X : List Nat} {w0 : World} {M0 : List Ent} {I0 : List Imm}
end
end Go.Proofs.Ytkhgglkkdnemlaa
namespace Go.Proofs.Ytkhgglkkdnemlaa
open Go Go.Fx
theorem B_get {p : Prop} [Decidable p] (h : B p = true) : p := by
  by_cases hp : p
  · exact hp
  · rw [B_false hp] at h; simp at h
section
variable {X : List Nat} {w0 : World} {M0 : List Ent} {I0 : List Imm}
end
end Go.Proofs.Ytkhgglkkdnemlaa
