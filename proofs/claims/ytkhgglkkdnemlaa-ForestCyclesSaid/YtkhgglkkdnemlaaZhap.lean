/- Forest: the chapter's examples, walked. Arguments, opened: slices of records, structs with slices. Forest: arguments opened; the law ForestClasses, walked. Plain: the lightest link, one after the other. Forest: the document's numbering, of links in an owned list. Forest: the document's Tree. Forest: CheckTree; the laws ForestTrees, ForestLightest, walked. Plain: rounds of numbers from those before, as lists. Forest: the document's Reached, Shortest. Forest: the document's Shortest; faulty inputs of Shortest; equal lists of truth values. Forest: the law ForestShortest, walked. Forest: the document's Potentials, CheckPotentials. Forest: the law ForestPotentials, walked. Forest: CheckCycle, Closed, Proved, closures of ForestProofs. Forest: Reverse and Contains at ints. Plain: trails of signed links; in a forest there is one trail at most. -/
import Derived.Test.YtkhgglkkdnemlaaZhao
import Derived.Test.YtkhgglkkdnemlaaZhai
import Derived.Test.YtkhgglkkdnemlaaZhab
import Derived.Test.YtkhgglkkdnemlaaZhaf
import Derived.Test.YtkhgglkkdnemlaaZhaj
import Derived.Test.YtkhgglkkdnemlaaZhae
set_option linter.unusedSimpArgs false
set_option linter.unusedVariables false
namespace Go.Proofs.Ytkhgglkkdnemlaa
open Go Go.Fx
section
variable {X : List Nat} {w0 : World} {M0 : List Ent} {I0 : List Imm}
set_option maxRecDepth 100000 in
theorem example_ok : CD Try.prog 45 [] X w0 M0 I0 (fun v M I => I0 = I ∧ ∃ b, v = gv (4 : Nat) (some ⟨b, 0, none⟩) 4 4 ∧ M = .blk b (recs eK exL) 39 :: M0) := by
  refine enterD0 Try.func45 rfl Try.ntmps45 rfl ?_
  refine TD_seq ?_
  refine TD_region ?_
  (refine RD_alloc rfl rfl ?_; intro b0; refine ⟨okF, ?_⟩)
  repeat (refine wXh ?_)
  (refine RD_c rfl (fun _ => Const_structC (vals := [.int .i64 0, .int .i64 1, .int .i64 2]) (cells := eK ⟨0, 1, 2⟩) rfl ?hpl rfl ?hz) rfl rfl ?_; (case hpl => repeat (first | exact True.intro | refine ⟨rfl, ?_⟩)); (case hz => rfl))
  repeat (refine wXh ?_)
  (refine RD_c rfl (fun _ => Const_structC (vals := [.int .i64 1, .int .i64 2, .int .i64 1]) (cells := eK ⟨1, 2, 1⟩) rfl ?hpl rfl ?hz) rfl rfl ?_; (case hpl => repeat (first | exact True.intro | refine ⟨rfl, ?_⟩)); (case hz => rfl))
  repeat (refine wXh ?_)
  (refine RD_c rfl (fun _ => Const_structC (vals := [.int .i64 2, .int .i64 0, .int .i64 2]) (cells := eK ⟨2, 0, 2⟩) rfl ?hpl rfl ?hz) rfl rfl ?_; (case hpl => repeat (first | exact True.intro | refine ⟨rfl, ?_⟩)); (case hz => rfl))
  repeat (refine wXh ?_)
  (refine RD_c rfl (fun _ => Const_structC (vals := [.int .i64 2, .int .i64 3, .int .i64 5]) (cells := eK ⟨2, 3, 5⟩) rfl ?hpl rfl ?hz) rfl rfl ?_; (case hpl => repeat (first | exact True.intro | refine ⟨rfl, ?_⟩)); (case hz => rfl))
  repeat (refine wXh ?_)
  (refine RD_vals (cs := recs eK exL) ([.agg (eK ⟨0, 1, 2⟩).toArray, .agg (eK ⟨1, 2, 1⟩).toArray, .agg (eK ⟨2, 0, 2⟩).toArray, .agg (eK ⟨2, 3, 5⟩).toArray]) rfl rfl (by intro v hv; repeat (first | exact absurd hv (List.not_mem_nil) | (rcases List.mem_cons.1 hv with rfl | hv; · rfl))) (by omega) rfl rfl rfl ?_; intro b; refine ⟨okF, ?_⟩)
  repeat (refine wXh ?_)
  (refine RD_c rfl (fun _ => Const_structC (vals := [.int .i64 4, .slice (some ⟨b, 0, none⟩) 4 4]) (cells := [.int .i64 4, .slice (some ⟨b, 0, none⟩) 4 4]) rfl ?hpl rfl ?hz) rfl rfl ?_; (case hpl => repeat (first | exact True.intro | refine ⟨rfl, ?_⟩)); (case hz => rfl))
  repeat (refine wXh ?_)
  refine ND_retC (cs := [.int .i64 4, .slice (some ⟨b, 0, none⟩) 4 4]) (.inl rfl) rfl rfl memF rfl (.blk b (recs eK exL) 39 :: M0) I0 subF incF ⟨rfl, b, rfl, rfl⟩
theorem few_ok {N : Int} {p : Option Addr} {m c : Nat} : CD Try.prog 13 [gv N p m c] X w0 M0 I0 (fun v M I => M0 = M ∧ I0 = I ∧ v = .bool (B (N ≤ 10 ∧ m ≤ 24))) := by
  refine enterD1 Try.func13 rfl Try.ntmps13 rfl ?_
  refine TD_seq ?_
  refine TD_region ?_
  (refine RD_boxA rfl rfl rfl ?_; intro b; refine ⟨okF, ?_⟩)
  refine RD_freezeB .here ?_
  by_cases h : N ≤ 10
  · repeat (refine wXh ?_)
    refine ND_ret1 (by first | exact .inl rfl | exact .inr rfl) rfl rfl _ _ subF incF (⟨rfl, rfl, congrArg Value.bool (B_congr (by omega))⟩)
  · repeat (refine wXh ?_)
    refine ND_ret1 (by first | exact .inl rfl | exact .inr rfl) rfl rfl _ _ subF incF (⟨rfl, rfl, congrArg Value.bool (B_false (by omega)).symm⟩)
set_option maxRecDepth 100000 in
set_option maxHeartbeats 2000000 in
theorem known11_ok : CD Try.prog 12 [] X w0 M0 I0 (fun v M I => M0 = M ∧ I0 = I ∧ v = .bool true) := by
  have hT := fun (p : Option Addr) M0 I0 h => gTree_ok (X := X) (w0 := w0) (M0 := M0) (I0 := I0) (p := p) (n := 4) (ms := exL) (m := 4) (c := 4) (by decide) rfl (by decide) exL_gd h
  rw [exL_kt] at hT
  have hS := fun (p : Option Addr) M0 I0 h => Shortest_ok (X := X) (w0 := w0) (M0 := M0) (I0 := I0) (p := p) (n := 4) (ms := exL) (m := 4) (c := 4) (s := 0) (by decide) rfl (by decide) exL_gd (by decide) ⟨_, exL_fix⟩ h
  have hP := fun (p : Option Addr) M0 I0 h => Potentials_no (X := X) (w0 := w0) (M0 := M0) (I0 := I0) (p := p) (n := 4) (ms := exM) (m := 4) (c := 4) (by decide) rfl (by decide) exM_gd exM_no h
  refine enterD0 Try.func12 rfl Try.ntmps12 rfl ?_
  repeat (refine wXh ?_)
  (refine RD_callS rfl (example_ok) rfl rfl ?_; rintro _ _ _ ⟨rfl, b1, rfl, rfl⟩; refine ⟨okF, ?_⟩)
  refine RD_freezeB (b := b1) .here ?_
  (refine RD_callS rfl (hT _ _ _ memF) rfl rfl ?_; rintro _ _ _ ⟨rfl, q, c', rfl, hc', rfl⟩; refine ⟨okF, ?_⟩)
  repeat (refine wXh ?_)
  (refine RD_callS rfl (example_ok) rfl rfl ?_; rintro _ _ _ ⟨rfl, b2, rfl, rfl⟩; refine ⟨okF, ?_⟩)
  refine RD_freezeB (b := b2) .here ?_
  (refine RD_callS rfl (hS _ _ _ memF) rfl rfl ?_; rintro _ _ _ ⟨rfl, d, kn, q1, q2, c1, c2, rfl, hf, ld, lk, hz, rfl⟩; refine ⟨okF, ?_⟩)
  have hd := exL_short ld hf
  repeat (refine wXh ?_)
  (refine RD_callS rfl (example_ok) rfl rfl ?_; rintro _ _ _ ⟨rfl, b3, rfl, rfl⟩; refine ⟨okF, ?_⟩)
  repeat (refine wXh ?_)
  rw [show recs eK exL = [.int .i64 0, .int .i64 1, .int .i64 2, .int .i64 1, .int .i64 2, .int .i64 1, .int .i64 2, .int .i64 0, .int .i64 2, .int .i64 2, .int .i64 3, .int .i64 5] from rfl]
  (refine RD_alloc rfl rfl ?_; intro b6; refine ⟨okF, ?_⟩)
  repeat (refine wXh ?_)
  refine RD_freezeB (b := b3) (cs := recs eK exM) (e := 39) (.there .here) ?_
  (refine RD_callS rfl (hP _ _ _ memF) rfl rfl ?_; rintro _ _ _ ⟨rfl, rfl, rfl⟩; refine ⟨okF, ?_⟩)
  subst hd
  have hE := fun (q1 q2 : Option Addr) (a : List Int) (c c' : Nat) (h : a.length ≤ 10) M0 I0 h1 h2 => EqI_ok (X := X) (w0 := w0) (M0 := M0) (I0 := I0) (p := q1) (q := q2) (a := a) (b := a) (c := c) (c' := c') (by omega) h1 h2
  repeat (refine wXh ?_)
  (refine RD_vals (cs := recs (eI .i64) [0, 1, 3]) ([.int .i64 0, .int .i64 1, .int .i64 3]) rfl rfl (by intro v hv; repeat (first | exact absurd hv (List.not_mem_nil) | (rcases List.mem_cons.1 hv with rfl | hv; · rfl))) (by omega) rfl rfl rfl ?_; intro b8; refine ⟨okF, ?_⟩)
  refine RD_freezeB .here ?_
  (refine RD_callS rfl (hE q (some ⟨b8, 0, none⟩) [0, 1, 3] c' 3 (by decide) _ _ memF memF) rfl rfl ?_; rintro _ _ _ ⟨rfl, rfl, rfl⟩; refine ⟨okF, ?_⟩)
  rw [B_true (p := [0, 1, 3] = [0, 1, 3]) rfl]
  repeat (refine wXh ?_)
  (refine RD_vals (cs := recs (eI .i64) [0, 2, 3, 8]) ([.int .i64 0, .int .i64 2, .int .i64 3, .int .i64 8]) rfl rfl (by intro v hv; repeat (first | exact absurd hv (List.not_mem_nil) | (rcases List.mem_cons.1 hv with rfl | hv; · rfl))) (by omega) rfl rfl rfl ?_; intro b9; refine ⟨okF, ?_⟩)
  refine RD_freezeB .here ?_
  (refine RD_callS rfl (hE q1 (some ⟨b9, 0, none⟩) [0, 2, 3, 8] c1 4 (by decide) _ _ memF memF) rfl rfl ?_; rintro _ _ _ ⟨rfl, rfl, rfl⟩; refine ⟨okF, ?_⟩)
  rw [B_true (p := [0, 2, 3, 8] = [0, 2, 3, 8]) rfl]
  repeat (refine wXh ?_)
  refine ND_ret1 (by first | exact .inl rfl | exact .inr rfl) rfl rfl _ _ subF incF (⟨rfl, rfl, rfl⟩)
end
end Go.Proofs.Ytkhgglkkdnemlaa
namespace Go.Fx
open Go.ChangeShapes Go.WideShapes Go.RowKit Go.ChangeAt

section
variable {H : Type} {enc : TypeId × Value → H} {P : Program} {W : World}

theorem flat_inv {sz : Nat} : ∀ (rows : List (List Value)) (k : Nat) (v : Value), (∀ r ∈ rows, r.length = sz) → rows.flatten[k]? = some v → ∃ i row, rows[i]? = some row ∧ i * sz ≤ k ∧ row[k - i * sz]? = some v
  | [], k, v, _, h => by simp at h
  | r :: rows, k, v, hr, h => by
    rw [List.flatten_cons] at h
    have hl := hr r (by simp)
    by_cases hk : k < r.length
    · rw [List.getElem?_append_left hk] at h
      exact ⟨0, r, by simp, by omega, by simpa using h⟩
    · rw [List.getElem?_append_right (by omega)] at h
      obtain ⟨i, row, h1, h2, h3⟩ := flat_inv rows _ v (fun r' hr' => hr r' (by simp [hr'])) h
      refine ⟨i + 1, row, by simpa using h1, by rw [Nat.add_mul]; omega, ?_⟩
      rw [← h3]
      congr 1
      rw [Nat.add_mul]; omega

/-- a slice's cells, row by row -/
theorem open_rows {base fuel : Nat} {t e : TypeId} {v : Value} {x : DataW H × List MemPlace} (ht : P.underlying t = some (.slice e)) (hv : Value.okWide P W .any base t v) (h : DataW.trod enc P W 0 (fun _ => true) true fuel t v.cells.toList = some x) :
    ∃ (a : Option Addr) (len c : Nat), v = .slice a len c ∧ (len : Int) ≤ 9223372036854775807 ∧ len ≤ c ∧ (Ok a ∨ (a = none ∧ len = 0 ∧ c = 0)) ∧
      ∃ rows : List (List Value), rows.length = len ∧ (∀ r ∈ rows, r.length = P.cellsOf e ∧ ∃ n y, DataW.trod enc P W 0 (fun _ => true) true n e r = some y) ∧ Sl [] W a rows.flatten := by
  obtain ⟨a, len, c, rfl⟩ := okWide_slice ht hv
  obtain ⟨h1, h2, h3⟩ := slice_ok ht hv
  refine ⟨a, len, c, rfl, h1, h2, h3, ?_⟩
  rcases DataW.trod_slice ht h with ⟨hcs, _⟩ | ⟨a', len', cap', elems, rest, n, _, hcs, _, _, _, _, hlen, hel, _, _⟩
  · simp [Value.cells] at hcs
    obtain ⟨rfl, rfl, rfl⟩ := hcs
    exact ⟨[], rfl, by simp, Sl.nil _ _ _⟩
  · simp [Value.cells] at hcs
    obtain ⟨rfl, rfl, rfl⟩ := hcs
    have hok : Ok (some a') := h3.resolve_right (by simp)
    have each : ∀ i, i < len → ∃ cs y, W.cells? 0 (a'.add (i * P.cellsOf e)) (P.cellsOf e) = some cs ∧ DataW.trod enc P W 0 (fun _ => true) true n e cs = some y := fun i hi => by
      have := hel i hi
      rw [List.getElem?_eq_getElem (by omega), Option.bind_eq_some_iff] at this
      obtain ⟨cs, h1, h2⟩ := this
      exact ⟨cs, _, h1, h2⟩
    refine ⟨(List.range len).map (fun i => (W.cells? 0 (a'.add (i * P.cellsOf e)) (P.cellsOf e)).getD []), by simp, ?_, ?_⟩
    · intro r hr
      obtain ⟨i, hi, rfl⟩ := List.mem_map.1 hr
      obtain ⟨cs, y, h4, h5⟩ := each i (by simpa using hi)
      rw [h4]
      exact ⟨(World.cells?_some h4).2.1, n, y, h5⟩
    · intro j v hj
      have hall : ∀ r ∈ (List.range len).map (fun i => (W.cells? 0 (a'.add (i * P.cellsOf e)) (P.cellsOf e)).getD []), r.length = P.cellsOf e := by
        intro r hr
        obtain ⟨i, hi, rfl⟩ := List.mem_map.1 hr
        obtain ⟨cs, y, h4, h5⟩ := each i (by simpa using hi)
        rw [h4]
        exact (World.cells?_some h4).2.1
      obtain ⟨i, row, h4, h5, h6⟩ := flat_inv _ j v hall hj
      rw [List.getElem?_map] at h4
      obtain ⟨i', hi', rfl⟩ := Option.map_eq_some_iff.1 h4
      have hii : i' = i ∧ i < len := by
        obtain ⟨q1, q2⟩ := List.getElem?_eq_some_iff.1 hi'
        rw [List.getElem_range] at q2
        exact ⟨q2.symm, by simpa using q1⟩
      obtain ⟨rfl, hil⟩ := hii
      obtain ⟨cs, y, h7, h8⟩ := each i' hil
      rw [h7] at h6
      simp only [Option.getD_some] at h6
      obtain ⟨_, hl, hc⟩ := World.cells?_some h7
      have hlt : j - i' * P.cellsOf e < P.cellsOf e := by
        have := (List.getElem?_eq_some_iff.1 h6).1
        omega
      have hcell := hc _ hlt
      rw [h6] at hcell
      refine ⟨hok, by simp, ?_⟩
      obtain ⟨b, o, eq⟩ := hok.cases
      injection eq with eq
      subst eq
      rw [add_lit, add_lit] at hcell
      rw [← hcell]
      simp only [pt, bl, of, Option.getD_some]
      congr 2
      omega
/-- a slice of records -/
theorem open_sliceM {α : Type} {en : α → List Value} {Pm : α → Prop} {base : Nat} {t e : TypeId} {v : Value} {d : DataW H} {p : List MemPlace} (ht : P.underlying t = some (.slice e)) (hdec : ∀ (r : List Value) n y, r.length = P.cellsOf e → DataW.trod enc P W 0 (fun _ => true) true n e r = some y → ∃ m, r = en m ∧ Pm m)
    (hv : Value.okWide P W .any base t v) (h : DataW.Trod enc P W 0 (fun _ => true) true t v d p) :
    ∃ (a : Option Addr) (ms : List α) (c : Nat), v = .slice a ms.length c ∧ Sl [] W a (recs en ms) ∧ (∀ m ∈ ms, Pm m) ∧ (ms.length : Int) ≤ 9223372036854775807 ∧ ms.length ≤ c ∧ (Ok a ∨ (a = none ∧ ms.length = 0 ∧ c = 0)) := by
  obtain ⟨fuel, hf⟩ := h
  obtain ⟨a, len, c, rfl, h1, h2, h3, rows, hl, hr, hs⟩ := open_rows ht hv hf
  have key : ∀ rows : List (List Value), (∀ r ∈ rows, r.length = P.cellsOf e ∧ ∃ n y, DataW.trod enc P W 0 (fun _ => true) true n e r = some y) → ∃ ms : List α, rows = ms.map en ∧ ∀ m ∈ ms, Pm m := by
    intro rows
    induction rows with
    | nil => intro _; exact ⟨[], rfl, by simp⟩
    | cons r rows ih =>
      intro hr
      obtain ⟨hrl, n, y, hy⟩ := hr r (by simp)
      obtain ⟨m, rfl, hm⟩ := hdec r n y hrl hy
      obtain ⟨ms, rfl, hms⟩ := ih (fun r' hr' => hr r' (by simp [hr']))
      exact ⟨m :: ms, rfl, fun m' hm' => by
        rcases List.mem_cons.1 hm' with rfl | hm'
        · exact hm
        · exact hms m' hm'⟩
  obtain ⟨ms, rfl, hms⟩ := key rows hr
  have hlen : ms.length = len := by simpa using hl
  subst hlen
  refine ⟨a, ms, c, rfl, ?_, hms, h1, h2, h3⟩
  rw [← List.flatMap_def] at hs
  exact hs
/-- a struct, cell by cell -/
theorem open_struct {base : Nat} {t : TypeId} {v : Value} {d : DataW H} {p : List MemPlace} {fs : Array Field} (ht : P.underlying t = some (.struct fs)) (hv : Value.okWide P W .any base t v) (h : DataW.Trod enc P W 0 (fun _ => true) true t v d p) :
    ∃ cs : List Value, v = .agg cs.toArray ∧ cs.length = P.cellsOf t ∧ Row.okWide P W .any base t cs.toArray ∧ ∀ (i : Nat) (f : Field), fs[i]? = some f → ∃ n y, DataW.trod enc P W 0 (fun _ => true) true n f.type ((cs.drop f.offset).take (P.cellsOf f.type)) = some y := by
  simp only [Value.okWide, ht] at hv
  obtain ⟨cs, rfl, hsz, hrow⟩ := hv
  obtain ⟨fuel, hf⟩ := h
  obtain ⟨xs, n, rfl, _, hl, hxl, hx⟩ := DataW.trod_struct ht hf
  refine ⟨cs.toList, by simp, by simpa using hsz, by simpa using hrow, fun i f hfi => ?_⟩
  have hi : i < fs.size := (Array.getElem?_eq_some_iff.1 hfi).1
  have := hx i f hfi
  rw [List.getElem?_eq_getElem (by omega)] at this
  exact ⟨n, _, this⟩
theorem dec_int {t : TypeId} {k : IntKind} {n : Nat} {cs : List Value} {y : DataW H × List MemPlace} (ht : P.underlying t = some (.int k)) (h : DataW.trod enc P W 0 (fun _ => true) true n t cs = some y) : ∃ x : Int, cs = [.int k x] ∧ (Lit.int k x).wf = true := by
  obtain ⟨m, h1, _, h2⟩ := DataW.trod_int ht h
  exact ⟨m, h1, h2⟩
/-- a record of ints of one kind -/
theorem dec_ints {t : TypeId} {k : IntKind} {m n : Nat} {cs : List Value} {y : DataW H × List MemPlace} {fs : Array Field} (ht : P.underlying t = some (.struct fs)) (hf : fs.toList.map (fun (f : Field) => (f.offset, P.cellsOf f.type)) = (List.range m).map (fun i => (i, 1))) (hk : ∀ f ∈ fs.toList, P.underlying f.type = some (.int k)) (hl : cs.length = m)
    (h : DataW.trod enc P W 0 (fun _ => true) true n t cs = some y) : ∃ xs : List Int, cs = xs.map (Value.int k) ∧ xs.length = m ∧ ∀ x ∈ xs, (Lit.int k x).wf = true := by
  obtain ⟨zs, n', rfl, _, _, hzl, hz⟩ := DataW.trod_struct ht h
  have each : ∀ i, i < m → ∃ x : Int, cs[i]? = some (.int k x) ∧ (Lit.int k x).wf = true := fun i hi => by
    have hsz : fs.toList.length = m := by have := congrArg List.length hf; simpa using this
    obtain ⟨f, hfi⟩ : ∃ f, fs.toList[i]? = some f := ⟨_, List.getElem?_eq_getElem (by omega)⟩
    have hoff : (f.offset, P.cellsOf f.type) = (i, 1) := by
      have : (fs.toList.map (fun f => (f.offset, P.cellsOf f.type)))[i]? = some (f.offset, P.cellsOf f.type) := by rw [List.getElem?_map, hfi]; rfl
      rw [hf, List.getElem?_map, List.getElem?_range hi] at this
      simpa using this.symm
    injection hoff with ho hc
    have hf2 : fs[i]? = some f := by simpa using hfi
    have := hz i f hf2
    rw [List.getElem?_eq_getElem (by rw [hzl]; exact (Array.getElem?_eq_some_iff.1 hf2).1), ho, hc] at this
    obtain ⟨x, hx, hw⟩ := dec_int (hk f (List.mem_of_getElem? hfi)) this
    refine ⟨x, ?_, hw⟩
    have : ((cs.drop i).take 1)[0]? = some (.int k x) := by rw [hx]; rfl
    rw [List.getElem?_take, if_pos (by omega), List.getElem?_drop] at this
    simpa using this
  refine ⟨cs.map (fun v => match v with | .int _ x => x | _ => 0), ?_, by simpa using hl, ?_⟩
  · apply List.ext_getElem
    · simp
    · intro i h1 h2
      obtain ⟨x, hx, _⟩ := each i (by omega)
      have : cs[i] = .int k x := by
        have := (List.getElem?_eq_some_iff.1 hx).2
        exact this
      simp [this]
  · intro x hx
    obtain ⟨v, hv, rfl⟩ := List.mem_map.1 hx
    obtain ⟨i, hi, rfl⟩ := List.mem_iff_getElem.1 hv
    obtain ⟨y, hy, hw⟩ := each i (by omega)
    have : cs[i] = .int k y := (List.getElem?_eq_some_iff.1 hy).2
    rw [this]
    exact hw
theorem three_of {xs : List Int} (h : xs.length = 3) : ∃ a b c, xs = [a, b, c] := by
  match xs, h with
  | [a, b, c], _ => exact ⟨a, b, c, rfl⟩
theorem Mem.startS {W : World} {I : List Imm} {a : Option Addr} {cs : List Value} (h : Mem [] W [] I W) (hs : Sl [] W a cs) : Mem [] W [] (slI a cs :: I) W := h.add (φ := slI a cs) ⟨hs⟩
end
end Go.Fx
namespace Go.Proofs.Ytkhgglkkdnemlaa
open Go Go.Fx
set_option maxRecDepth 100000 in
theorem dec_K {H : Type} {enc : TypeId × Value → H} {W : World} (r : List Value) (n : Nat) (y : DataW H × List MemPlace) (hl : r.length = Try.prog.cellsOf 39) (h : DataW.trod enc Try.prog W 0 (fun _ => true) true n 39 r = some y) : ∃ m : LK, r = eK m ∧ True := by
  obtain ⟨xs, rfl, hx, _⟩ := dec_ints (k := .i64) (m := 3) Try.underlying39 (by kernel_rfl) (by intro f hf; simp at hf; rcases hf with rfl | rfl | rfl <;> exact Try.underlying3) (by rw [hl]; kernel_rfl) h
  obtain ⟨a, b, c, rfl⟩ := three_of hx
  exact ⟨⟨a, b, c⟩, rfl, trivial⟩
set_option maxRecDepth 100000 in
theorem open_ks {H : Type} {enc : TypeId × Value → H} {W : World} {base : Nat} {v : Value} {d : DataW H} {p : List MemPlace} (hv : Value.okWide Try.prog W .any base 22 v) (h : DataW.Trod enc Try.prog W 0 (fun _ => true) true 22 v d p) :
    ∃ (a : Option Addr) (ms : List LK) (c : Nat), v = .slice a ms.length c ∧ Sl [] W a (recs eK ms) ∧ (ms.length : Int) ≤ 9223372036854775807 := by
  obtain ⟨a, ms, c, rfl, hs, _, hn, _, _⟩ := open_sliceM (en := eK) (Pm := fun _ => True) Try.underlying22 (fun r n y => dec_K r n y) hv h
  exact ⟨a, ms, c, rfl, hs, hn⟩
set_option maxRecDepth 100000 in
theorem open_g {H : Type} {enc : TypeId × Value → H} {W : World} {base : Nat} {v : Value} {d : DataW H} {p : List MemPlace} (hv : Value.okWide Try.prog W .any base 24 v) (h : DataW.Trod enc Try.prog W 0 (fun _ => true) true 24 v d p) :
    ∃ (N : Int) (a : Option Addr) (ms : List LK) (c : Nat), v = gv N a ms.length c ∧ Sl [] W a (recs eK ms) ∧ (ms.length : Int) ≤ 9223372036854775807 := by
  obtain ⟨cs, rfl, hl, hrow, hf⟩ := open_struct Try.underlying24 hv h
  have hl4 : cs.length = 2 := by rw [hl]; kernel_rfl
  match cs, hl4 with
  | [c0, c3], _ =>
    obtain ⟨n0, y0, h0⟩ := hf 0 _ rfl
    obtain ⟨n3, y3, h3⟩ := hf 1 _ rfl
    have e1 : Try.prog.cellsOf 3 = 1 := by kernel_rfl
    have e2 : Try.prog.cellsOf 22 = 1 := by kernel_rfl
    replace h0 : DataW.trod enc Try.prog W 0 (fun _ => true) true n0 3 (([c0, c3].drop 0).take (Try.prog.cellsOf 3)) = some y0 := h0
    replace h3 : DataW.trod enc Try.prog W 0 (fun _ => true) true n3 22 (([c0, c3].drop 1).take (Try.prog.cellsOf 22)) = some y3 := h3
    rw [e1] at h0
    rw [e2] at h3
    obtain ⟨x0, q0, _⟩ := dec_int Try.underlying3 h0
    simp at q0
    subst q0
    have hcell : Value.okWide Try.prog W .any base 22 c3 := by
      obtain ⟨ts, hts, _, hall⟩ := hrow
      have e : ts = [3, 22] := by
        have : Try.prog.cellTypes Try.prog.depth 24 = some [3, 22] := by kernel_rfl
        rw [this] at hts
        exact (Option.some.inj hts).symm
      subst e
      obtain ⟨u, hu, hc⟩ := hall 1 c3 rfl
      have : u = 22 := by simpa using hu.symm
      subst this
      simpa [Value.okWide, Try.underlying22] using hc
    have h3' : DataW.Trod enc Try.prog W 0 (fun _ => true) true 22 c3 y3.1 y3.2 := by
      obtain ⟨a, len, c, rfl⟩ := Go.WideShapes.okWide_slice Try.underlying22 hcell
      exact ⟨n3, by simpa [Value.cells] using h3⟩
    obtain ⟨a, ms, c, rfl, hs, hn⟩ := open_ks hcell h3'
    exact ⟨x0, a, ms, c, rfl, hs, hn⟩
section
variable {X : List Nat} {w0 : World} {M0 : List Ent} {I0 : List Imm}
end
end Go.Proofs.Ytkhgglkkdnemlaa
namespace Go.Proofs.Ytkhgglkkdnemlaa
open Go Go.Fx
/-- links taken, links left -/
structure Sel (ms : List LK) (P L : List Int) : Prop where
  asc : L.Pairwise (· < ·)
  mem : ∀ k, k ∈ P ∨ k ∈ L ↔ k ∈ rg ms.length
  pw : P.Pairwise (kl ms)
  lt : ∀ x ∈ P, ∀ y ∈ L, kl ms x y
theorem okCut {a : Option Addr} {c l sz : Nat} (h : Ok a) : Ok (cutA a c l sz) := by
  unfold cutA
  split
  · exact h
  · exact h.add _
end Go.Proofs.Ytkhgglkkdnemlaa
namespace Go.Proofs.Ytkhgglkkdnemlaa
open Go Go.Fx
section
variable {X : List Nat} {w0 : World} {M0 : List Ent} {I0 : List Imm}
end
end Go.Proofs.Ytkhgglkkdnemlaa
namespace Go.Proofs.Ytkhgglkkdnemlaa
open Go Go.Fx
section
variable {X : List Nat} {w0 : World} {M0 : List Ent} {I0 : List Imm}
end
end Go.Proofs.Ytkhgglkkdnemlaa
namespace Go.Proofs.Ytkhgglkkdnemlaa
open Go Go.Fx
def ccode (ms : List LK) (ls : List Int) : Int := if fcode ms ls ≠ 0 then fcode ms ls else if ¬ spn ms ls then 6 else if wsum ms ls ≠ wsum ms (kt ms) then 12 else 0
section
variable {X : List Nat} {w0 : World} {M0 : List Ent} {I0 : List Imm}
end
end Go.Proofs.Ytkhgglkkdnemlaa
namespace Go.Proofs.Ytkhgglkkdnemlaa
open Go Go.Fx
/-- within a round: the first i links done -/
structure Jx (ms : List LK) (n : Nat) (d k : List Int × List Bool) (i : Nat) : Prop where
  ld : k.1.length = n
  lk : k.2.length = n
  eq : OD k.1 k.2 = jr ms (OD d.1 d.2) i
  zero : ∀ v : Int, 0 ≤ v → v < n → gt k.2 v = false → gt k.1 v = 0
/-- after so many rounds -/
structure Jo (ms : List LK) (n : Nat) (D0 : Int → Option Int) (t : Nat) (d : List Int × List Bool) : Prop where
  ld : d.1.length = n
  lk : d.2.length = n
  eq : OD d.1 d.2 = DK ms D0 t
  zero : ∀ v : Int, 0 ≤ v → v < n → gt d.2 v = false → gt d.1 v = 0
end Go.Proofs.Ytkhgglkkdnemlaa
namespace Go.Proofs.Ytkhgglkkdnemlaa
open Go Go.Fx
section
variable {X : List Nat} {w0 : World} {M0 : List Ent} {I0 : List Imm}
end
end Go.Proofs.Ytkhgglkkdnemlaa
namespace Go.Proofs.Ytkhgglkkdnemlaa
open Go Go.Fx
section
variable {X : List Nat} {w0 : World} {M0 : List Ent} {I0 : List Imm}
end
end Go.Proofs.Ytkhgglkkdnemlaa
namespace Go.Proofs.Ytkhgglkkdnemlaa
open Go Go.Fx
section
variable {X : List Nat} {w0 : World} {M0 : List Ent} {I0 : List Imm}
end
end Go.Proofs.Ytkhgglkkdnemlaa
namespace Go.Proofs.Ytkhgglkkdnemlaa
open Go Go.Fx
/-- what CheckPotentials looks at -/
def okP (n : Nat) (ms : List LK) (l : List Int) : Prop := l.length = n ∧ (∀ j : Nat, j < n → -274877906944 ≤ gt l j ∧ gt l j ≤ 274877906944) ∧ Pot ms (gt l)
def bdP (n : Nat) (l : List Int) : Prop := ∀ j : Nat, j < n → -274877906944 ≤ gt l j ∧ gt l j ≤ 274877906944
def PC (n : Nat) (ms : List LK) (l : List Int) (e : Int) : Prop := (l.length ≠ n ∧ e = 4) ∨ (l.length = n ∧ ¬ bdP n l ∧ e = 2) ∨ (l.length = n ∧ bdP n l ∧ ¬ Pot ms (gt l) ∧ e = 12) ∨ (okP n ms l ∧ e = 0)
section
variable {X : List Nat} {w0 : World} {M0 : List Ent} {I0 : List Imm}
end
section
variable {X : List Nat} {w0 : World} {M0 : List Ent} {I0 : List Imm}
end
end Go.Proofs.Ytkhgglkkdnemlaa
namespace Go.Proofs.Ytkhgglkkdnemlaa
open Go Go.Fx
section
variable {X : List Nat} {w0 : World} {M0 : List Ent} {I0 : List Imm}
end
end Go.Proofs.Ytkhgglkkdnemlaa
namespace Go.Proofs.Ytkhgglkkdnemlaa
open Go Go.Fx
/-- the walk is closed -/
def chn (ms : List LK) (l : List Int) : Prop := ∀ i : Nat, i < l.length → (gt ms (gt l i)).b = (gt ms (gt l (((i : Int) + 1).tmod l.length))).a
/-- CheckCycle's code -/
def CC (ms : List LK) (l : List Int) (e : Int) : Prop := (¬ inR ms.length l ∧ e = 2) ∨ (inR ms.length l ∧ ¬ chn ms l ∧ e = 12) ∨ (inR ms.length l ∧ chn ms l ∧ 0 ≤ wsum ms l ∧ e = 12) ∨ (inR ms.length l ∧ chn ms l ∧ wsum ms l < 0 ∧ e = 0)
theorem inR_gt {m : Nat} {l : List Int} (h : inR m l) {j : Nat} (hj : j < l.length) : 0 ≤ gt l j ∧ gt l j < m := by
  rw [gt_get hj]; exact h _ (List.getElem_mem hj)
section
variable {X : List Nat} {w0 : World} {M0 : List Ent} {I0 : List Imm}
end
end Go.Proofs.Ytkhgglkkdnemlaa
namespace Go.Proofs.Ytkhgglkkdnemlaa
open Go Go.Fx
section
variable {X : List Nat} {w0 : World} {M0 : List Ent} {I0 : List Imm}
theorem Index_ok {p : Option Addr} {l : List Int} {t c : Nat} {x : Int} (hl : l.length = t) (ht : t ≤ 100000) (hp : slI p (recs (eI .i64) l) ∈ I0) :
    CD Try.prog 63 [.slice p t c, .int .i64 x] X w0 M0 I0 (fun v M I => M0 = M ∧ I0 = I ∧ ∃ r : Int, v = .int .i64 r ∧ (0 ≤ r ↔ x ∈ l)) := by
  refine enterD2 Try.func63 rfl Try.ntmps63 rfl ?_
  repeat (refine wXh ?_)
  refine TD_loop [0, 1, 7] rfl (fun k G M I => ∃ i : Nat, i ≤ t ∧ k = t - i ∧ (∀ j : Nat, j < i → gt l j ≠ x) ∧ G = [(8, .int .i64 i)] ∧ M0 = M ∧ I0 = I) (t) _ _ _ subG subF incF (⟨0, by omega, rfl, fun j hj => by omega, rfl, rfl, rfl⟩) ?_
  rintro kk G M I ⟨i, hi, rfl, hs, rfl, rfl, rfl⟩
  by_cases hit : i < t
  · by_cases he : x = gt l (i : Int)
    · repeat (refine wXh ?_)
      refine ND_ret1 (by first | exact .inl rfl | exact .inr rfl) rfl rfl _ _ subF incF (⟨rfl, rfl, (i : Int), rfl, ⟨fun _ => by rw [he, gt_get (by omega)]; exact List.getElem_mem _, fun _ => by omega⟩⟩)
    · repeat (refine wXh ?_)
      refine ND_again (t - (i + 1)) _ _ _ (by first | omega | (simp only [List.length_append, List.length_cons, List.length_nil]; omega)) subG subF incF (⟨i + 1, by omega, rfl, fun j hj => ?_, rfl, rfl, rfl⟩)
      by_cases e : j = i
      · subst e; exact fun h => he h.symm
      · exact hs j (by omega)
  · repeat (refine wXh ?_)
    refine ND_ret1 (by first | exact .inl rfl | exact .inr rfl) rfl rfl _ _ subF incF (⟨rfl, rfl, -1, rfl, ⟨fun h => by omega, fun h => by { obtain ⟨j, hj, e⟩ := List.mem_iff_getElem.1 h; exact absurd (by rw [gt_get hj]; exact e) (hs j (by omega)) }⟩⟩)
theorem Contains_ok {p : Option Addr} {l : List Int} {t c : Nat} {x : Int} (hl : l.length = t) (ht : t ≤ 100000) (hp : slI p (recs (eI .i64) l) ∈ I0) :
    CD Try.prog 38 [.slice p t c, .int .i64 x] X w0 M0 I0 (fun v M I => M0 = M ∧ I0 = I ∧ v = .bool (B (x ∈ l))) := by
  refine enterD2 Try.func38 rfl Try.ntmps38 rfl ?_
  repeat (refine wXh ?_)
  (refine RD_callS rfl (Index_ok hl ht hp) rfl rfl ?_; rintro _ _ _ ⟨rfl, rfl, r, rfl, h⟩; refine ⟨okF, ?_⟩)
  repeat (refine wXh ?_)
  refine ND_ret1 (by first | exact .inl rfl | exact .inr rfl) rfl rfl _ _ subF incF (⟨rfl, rfl, congrArg Value.bool (B_congr h)⟩)
end
end Go.Proofs.Ytkhgglkkdnemlaa
namespace Go.Proofs.Ytkhgglkkdnemlaa
open Go Go.Fx
/-- the link of a signed step -/
def sk (s : Int) : Int := (if s < 0 then -s else s) - 1
def sa (ms : List LK) (s : Int) : Int := if 0 < s then (gt ms (sk s)).a else (gt ms (sk s)).b
def sb (ms : List LK) (s : Int) : Int := if 0 < s then (gt ms (sk s)).b else (gt ms (sk s)).a
inductive Trl (ms : List LK) : List Int → Int → Int → Prop
  | nil (u : Int) : Trl ms [] u u
  | cons {s v : Int} {l : List Int} : s ≠ 0 → Trl ms l (sb ms s) v → Trl ms (s :: l) (sa ms s) v
theorem Trl.inv {ms : List LK} {s u v : Int} {l : List Int} (h : Trl ms (s :: l) u v) : s ≠ 0 ∧ u = sa ms s ∧ Trl ms l (sb ms s) v := by
  cases h with
  | cons h1 h2 => exact ⟨h1, rfl, h2⟩
theorem Trl.nil_inv {ms : List LK} {u v : Int} (h : Trl ms [] u v) : u = v := by cases h; rfl
theorem Trl.app {ms : List LK} {l1 l2 : List Int} {u v : Int} : Trl ms (l1 ++ l2) u v ↔ ∃ w, Trl ms l1 u w ∧ Trl ms l2 w v := by
  induction l1 generalizing u with
  | nil => exact ⟨fun h => ⟨u, .nil u, h⟩, fun ⟨w, h1, h2⟩ => by rw [h1.nil_inv]; exact h2⟩
  | cons s l ih =>
    constructor
    · intro h
      obtain ⟨h1, rfl, h2⟩ := h.inv
      obtain ⟨w, h3, h4⟩ := ih.1 h2
      exact ⟨w, .cons h1 h3, h4⟩
    · rintro ⟨w, h3, h4⟩
      obtain ⟨h1, rfl, h2⟩ := h3.inv
      exact .cons h1 (ih.2 ⟨w, h2, h4⟩)
theorem step_con {ms : List LK} {T : List Int} {s : Int} (h : sk s ∈ T) : Con (es ms T) (sa ms s) (sb ms s) := by
  have h1 : Con (es ms T) (gt ms (sk s)).a (gt ms (sk s)).b := .link (List.mem_map_of_mem (f := pr ms) h)
  unfold sa sb
  split
  · exact h1
  · exact h1.symm
theorem Trl.con {ms : List LK} {T l : List Int} {u v : Int} (h : Trl ms l u v) (hT : ∀ s ∈ l, sk s ∈ T) : Con (es ms T) u v := by
  induction h with
  | nil u => exact .refl u
  | @cons s v l h1 h2 ih => exact (step_con (hT s (by simp))).trans (ih (fun x hx => hT x (by simp [hx])))
/-- a trail in some links, each at most once -/
structure Trail (ms : List LK) (T : List Int) (l : List Int) (u v : Int) : Prop where
  trl : Trl ms l u v
  mem : ∀ s ∈ l, sk s ∈ T
  nod : (l.map sk).Nodup
theorem Trail.split {ms : List LK} {T l : List Int} {k u v : Int} (h : Trail ms (T ++ [k]) l u v) : Trail ms T l u v ∨ ∃ x s y, l = x ++ s :: y ∧ sk s = k ∧ s ≠ 0 ∧ Trail ms T x u (sa ms s) ∧ Trail ms T y (sb ms s) v := by
  by_cases hk : ∃ s ∈ l, sk s = k
  · obtain ⟨s, hs, e⟩ := hk
    obtain ⟨x, y, rfl⟩ := List.append_of_mem hs
    obtain ⟨w, h1, h2⟩ := Trl.app.1 h.trl
    obtain ⟨h3, rfl, h4⟩ := h2.inv
    have hn := h.nod
    rw [List.map_append, List.map_cons, List.nodup_append] at hn
    obtain ⟨n1, n2, n3⟩ := hn
    rw [List.nodup_cons] at n2
    refine .inr ⟨x, s, y, rfl, e, h3, ⟨h1, fun z hz => ?_, n1⟩, ⟨h4, fun z hz => ?_, n2.2⟩⟩
    · have h5 := h.mem z (by simp [hz])
      rcases List.mem_append.1 h5 with h6 | h6
      · exact h6
      · exact absurd ((List.mem_singleton.1 h6).trans e.symm) (n3 _ (List.mem_map_of_mem hz) _ (by simp))
    · have h5 := h.mem z (by simp [hz])
      rcases List.mem_append.1 h5 with h6 | h6
      · exact h6
      · have h7 : sk z = sk s := (List.mem_singleton.1 h6).trans e.symm
        exact absurd (by rw [← h7]; exact List.mem_map_of_mem hz) n2.1
  · refine .inl ⟨h.trl, fun s hs => ?_, h.nod⟩
    rcases List.mem_append.1 (h.mem s hs) with h6 | h6
    · exact h6
    · exact absurd ⟨s, hs, List.mem_singleton.1 h6⟩ hk
theorem Trail.con {ms : List LK} {T l : List Int} {u v : Int} (h : Trail ms T l u v) : Con (es ms T) u v := h.trl.con h.mem
theorem sk_two {s t : Int} (h : sk s = sk t) (hs : s ≠ 0) (ht : t ≠ 0) : s = t ∨ s = -t := by
  unfold sk at h
  split at h <;> split at h <;> omega
theorem sa_neg {ms : List LK} {s : Int} (h : s ≠ 0) : sa ms (-s) = sb ms s := by
  have h1 : sk (-s) = sk s := by unfold sk; split <;> split <;> omega
  unfold sa sb
  rw [h1]
  split <;> split <;> first | rfl | omega
theorem step_no {ms : List LK} {T : List Int} {s : Int} (h : ¬ Con (es ms T) (gt ms (sk s)).a (gt ms (sk s)).b) : ¬ Con (es ms T) (sa ms s) (sb ms s) := fun h2 => by
  unfold sa sb at h2
  split at h2
  · exact h h2
  · exact h h2.symm
theorem Trail.uniq {ms : List LK} {T : List Int} (hf : Fst [] (es ms T)) {l l' : List Int} {u v : Int} (h : Trail ms T l u v) (h' : Trail ms T l' u v) : l = l' := by
  obtain ⟨r, rfl⟩ : ∃ r, T = r.reverse := ⟨T.reverse, (List.reverse_reverse T).symm⟩
  induction r generalizing l l' u v with
  | nil =>
    have e : ∀ l : List Int, (∀ s ∈ l, sk s ∈ ([] : List Int).reverse) → l = [] := fun l hl => by
      cases l with
      | nil => rfl
      | cons s l => exact absurd (hl s (by simp)) (by simp)
    rw [e l h.mem, e l' h'.mem]
  | cons k r ih =>
    rw [List.reverse_cons] at hf h h'
    have hes : es ms (r.reverse ++ [k]) = es ms r.reverse ++ [pr ms k] := by simp [es]
    rw [hes] at hf
    obtain ⟨f1, f2⟩ := Fst.snoc.1 hf
    rw [List.nil_append] at f2
    rcases h.split with h1 | ⟨x, s, y, rfl, e1, s0, hx, hy⟩
    · rcases h'.split with h2 | ⟨x', s', y', rfl, e2, s0', hx', hy'⟩
      · exact ih f1 h1 h2
      · refine absurd ?_ (step_no (s := s') (by rw [e2]; exact f2))
        exact hx'.con.symm.trans (h1.con.trans hy'.con.symm)
    · have f3 := step_no (s := s) (by rw [e1]; exact f2)
      rcases h'.split with h2 | ⟨x', s', y', rfl, e2, s0', hx', hy'⟩
      · exact absurd (hx.con.symm.trans (h2.con.trans hy.con.symm)) f3
      · rcases sk_two (e2.trans e1.symm) s0' s0 with rfl | rfl
        · rw [ih f1 hx hx', ih f1 hy hy']
        · rw [sa_neg s0] at hx'
          exact absurd (hx.con.symm.trans hx'.con) f3
end Go.Proofs.Ytkhgglkkdnemlaa
