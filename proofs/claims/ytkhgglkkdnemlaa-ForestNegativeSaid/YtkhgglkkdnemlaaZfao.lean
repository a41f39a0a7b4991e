/- Plain: the chapter's examples. Forest: the chapter's examples, walked. Arguments, opened: slices of records, structs with slices. Forest: arguments opened; the law ForestClasses, walked. Plain: the lightest link, one after the other. Forest: the document's numbering, of links in an owned list. Forest: the document's Tree. Forest: CheckTree; the laws ForestTrees, ForestLightest, walked. Plain: rounds of numbers from those before, as lists. -/
import Derived.Test.YtkhgglkkdnemlaaZfan
import Derived.Test.YtkhgglkkdnemlaaZfaj
import Derived.Test.YtkhgglkkdnemlaaZfab
import Derived.Test.YtkhgglkkdnemlaaZfag
set_option linter.unusedSimpArgs false
set_option linter.unusedVariables false
namespace Go.Proofs.Ytkhgglkkdnemlaa
open Go Go.Fx
def exL : List LK := [⟨0, 1, 2⟩, ⟨1, 2, 1⟩, ⟨2, 0, 2⟩, ⟨2, 3, 5⟩]
def exM : List LK := [⟨0, 1, 2⟩, ⟨1, 2, 1⟩, ⟨2, 0, -4⟩, ⟨2, 3, 5⟩]
theorem four {k : Int} (h0 : 0 ≤ k) (h : k < (4 : Nat)) : k = 0 ∨ k = 1 ∨ k = 2 ∨ k = 3 := by omega
theorem exL_gd : Gd exL 4 := by
  refine ⟨fun k h0 hk => ?_, fun k h0 hk => ?_, fun k h0 hk => ?_⟩
  all_goals rcases four h0 hk with rfl | rfl | rfl | rfl <;> decide
theorem exM_gd : Gd exM 4 := by
  refine ⟨fun k h0 hk => ?_, fun k h0 hk => ?_, fun k h0 hk => ?_⟩
  all_goals rcases four h0 hk with rfl | rfl | rfl | rfl <;> decide
instance (ms : List LK) (a b : Int) : Decidable (kl ms a b) := by unfold kl; exact inferInstance
theorem exL_ord : ord exL = [1, 0, 2, 3] := by
  refine sorted_eq (r := kl exL) (kl_ir exL) (kl_as exL) (ord_pw exL) (by decide) (fun x => ?_)
  rw [ord_mem, mem_rg]
  simp only [List.mem_cons, List.not_mem_nil, or_false]
  show (0 ≤ x ∧ x < ((4 : Nat) : Int)) ↔ _
  omega
theorem exL_kt : kt exL = [0, 1, 3] := by
  have h : kr exL [1, 0, 2, 3] = [1, 0, 3] := by decide
  unfold kt
  rw [exL_ord, h]
  decide
def exD : List Int := [0, 2, 3, 8]
theorem exD_at (v : Int) : OD exD [true, true, true, true] v = if v = 0 then some 0 else if v = 1 then some 2 else if v = 2 then some 3 else if v = 3 then some 8 else none := by
  by_cases h0 : 0 ≤ v
  · by_cases h4 : v < (4 : Nat)
    · rcases four h0 h4 with rfl | rfl | rfl | rfl <;> decide
    · rw [if_neg (by omega), if_neg (by omega), if_neg (by omega), if_neg (by omega)]
      unfold OD
      rw [if_neg]
      rintro ⟨_, h⟩
      unfold gt at h
      rw [List.getD_eq_getElem?_getD, List.getElem?_eq_none (by simp; omega)] at h
      simp at h
  · rw [if_neg (by omega), if_neg (by omega), if_neg (by omega), if_neg (by omega)]
    unfold OD
    rw [if_neg (fun h => h0 h.1)]
theorem exL_fix : Fix exL (fun v => v = 0) (OD exD [true, true, true, true]) := by
  have w0 : Wk exL (fun v => v = 0) 0 0 0 := .src rfl
  have w1 : Wk exL (fun v => v = 0) 1 1 2 := .step (i := 0) w0 (by decide) (by decide) rfl
  have w2 : Wk exL (fun v => v = 0) 2 2 3 := .step (i := 1) w1 (by decide) (by decide) rfl
  have w3 : Wk exL (fun v => v = 0) 3 3 8 := .step (i := 3) w2 (by decide) (by decide) rfl
  refine ⟨fun v x e => ?_, fun s hs => ?_, fun i h0 hi x e => ?_⟩
  · rw [exD_at] at e
    split at e
    · rename_i h; subst h; simp only [Option.some.injEq] at e; subst e; exact ⟨_, w0⟩
    · split at e
      · rename_i h; subst h; simp only [Option.some.injEq] at e; subst e; exact ⟨_, w1⟩
      · split at e
        · rename_i h; subst h; simp only [Option.some.injEq] at e; subst e; exact ⟨_, w2⟩
        · split at e
          · rename_i h; subst h; simp only [Option.some.injEq] at e; subst e; exact ⟨_, w3⟩
          · simp at e
  · subst hs
    exact ⟨0, by rw [exD_at]; rfl, Int.le_refl _⟩
  · rcases four h0 hi with rfl | rfl | rfl | rfl
    · have e : OD exD [true, true, true, true] 0 = some x := e
      rw [exD_at] at e
      simp only [if_true, Option.some.injEq] at e
      subst e
      exact ⟨2, by show OD exD _ 1 = _; rw [exD_at]; rfl, by decide⟩
    · have e : OD exD [true, true, true, true] 1 = some x := e
      rw [exD_at, if_neg (by decide), if_pos rfl] at e
      simp only [Option.some.injEq] at e
      subst e
      exact ⟨3, by show OD exD _ 2 = _; rw [exD_at]; rfl, by decide⟩
    · have e : OD exD [true, true, true, true] 2 = some x := e
      rw [exD_at, if_neg (by decide), if_neg (by decide), if_pos rfl] at e
      simp only [Option.some.injEq] at e
      subst e
      exact ⟨0, by show OD exD _ 0 = _; rw [exD_at]; rfl, by decide⟩
    · have e : OD exD [true, true, true, true] 2 = some x := e
      rw [exD_at, if_neg (by decide), if_neg (by decide), if_pos rfl] at e
      simp only [Option.some.injEq] at e
      subst e
      exact ⟨8, by show OD exD _ 3 = _; rw [exD_at]; rfl, by decide⟩
theorem exL_short {d : List Int} {kn : List Bool} (hl : d.length = 4) (h : Fix exL (fun v => v = 0) (OD d kn)) : d = [0, 2, 3, 8] := by
  have hu := h.uniq exL_fix
  match d, hl with
  | [a, b, c, e], _ =>
    have h0 := hu 0
    have h1 := hu 1
    have h2 := hu 2
    have h3 := hu 3
    rw [exD_at] at h0 h1 h2 h3
    have q0 : a = 0 := (OD_some.1 h0).2
    have q1 : b = 2 := (OD_some.1 h1).2
    have q2 : c = 3 := (OD_some.1 h2).2
    have q3 : e = 8 := (OD_some.1 h3).2
    subst q0; subst q1; subst q2; subst q3; rfl
theorem exM_no : ¬ hasFix exM (fun v => 0 ≤ v ∧ v < ((4 : Nat) : Int)) := by
  rintro ⟨F, hF⟩
  obtain ⟨x, h0, _⟩ := hF.src 0 (by decide)
  obtain ⟨y, h1, l1⟩ := hF.closed 0 (by decide) (by decide) x h0
  obtain ⟨z, h2, l2⟩ := hF.closed 1 (by decide) (by decide) y h1
  obtain ⟨u, h3, l3⟩ := hF.closed 2 (by decide) (by decide) z h2
  have h3 : F 0 = some u := h3
  rw [h0] at h3
  simp only [Option.some.injEq] at h3
  have l1 : y ≤ x + 2 := l1
  have l2 : z ≤ y + 1 := l2
  have l3 : u ≤ z + -4 := l3
  omega
end Go.Proofs.Ytkhgglkkdnemlaa
namespace Go.Proofs.Ytkhgglkkdnemlaa
open Go Go.Fx
section
variable {X : List Nat} {w0 : World} {M0 : List Ent} {I0 : List Imm}
set_option maxRecDepth 100000 in
theorem example_ok : CD Try.prog 45 [] X w0 M0 I0 (fun v M I => I0 = I ∧ ∃ b, v = gv (4 : Nat) (some ⟨b, 0, none⟩) 4 4 ∧ M = .blk b (recs eK exL) 39 :: M0) := by
  refine enterD0 Try.func45 rfl Try.ntmps45 rfl ?_
  refine TD_seq ?_
  refine TD_region ?_
  (refine RD_alloc rfl rfl ?_; intro b0; refine ⟨okF, ?_⟩)
  repeat (refine wXh ?_)
  (refine RD_c rfl (fun _ => Const_structC (vals := [.int .i64 0, .int .i64 1, .int .i64 2]) (cells := eK ⟨0, 1, 2⟩) rfl ?hpl rfl ?hz) rfl rfl ?_; (case hpl => repeat (first | exact True.intro | refine ⟨rfl, ?_⟩)); (case hz => rfl))
  repeat (refine wXh ?_)
  (refine RD_c rfl (fun _ => Const_structC (vals := [.int .i64 1, .int .i64 2, .int .i64 1]) (cells := eK ⟨1, 2, 1⟩) rfl ?hpl rfl ?hz) rfl rfl ?_; (case hpl => repeat (first | exact True.intro | refine ⟨rfl, ?_⟩)); (case hz => rfl))
  repeat (refine wXh ?_)
  (refine RD_c rfl (fun _ => Const_structC (vals := [.int .i64 2, .int .i64 0, .int .i64 2]) (cells := eK ⟨2, 0, 2⟩) rfl ?hpl rfl ?hz) rfl rfl ?_; (case hpl => repeat (first | exact True.intro | refine ⟨rfl, ?_⟩)); (case hz => rfl))
  repeat (refine wXh ?_)
  (refine RD_c rfl (fun _ => Const_structC (vals := [.int .i64 2, .int .i64 3, .int .i64 5]) (cells := eK ⟨2, 3, 5⟩) rfl ?hpl rfl ?hz) rfl rfl ?_; (case hpl => repeat (first | exact True.intro | refine ⟨rfl, ?_⟩)); (case hz => rfl))
  repeat (refine wXh ?_)
  (refine RD_vals (cs := recs eK exL) ([.agg (eK ⟨0, 1, 2⟩).toArray, .agg (eK ⟨1, 2, 1⟩).toArray, .agg (eK ⟨2, 0, 2⟩).toArray, .agg (eK ⟨2, 3, 5⟩).toArray]) rfl rfl (by intro v hv; repeat (first | exact absurd hv (List.not_mem_nil) | (rcases List.mem_cons.1 hv with rfl | hv; · rfl))) (by omega) rfl rfl rfl ?_; intro b; refine ⟨okF, ?_⟩)
  repeat (refine wXh ?_)
  (refine RD_c rfl (fun _ => Const_structC (vals := [.int .i64 4, .slice (some ⟨b, 0, none⟩) 4 4]) (cells := [.int .i64 4, .slice (some ⟨b, 0, none⟩) 4 4]) rfl ?hpl rfl ?hz) rfl rfl ?_; (case hpl => repeat (first | exact True.intro | refine ⟨rfl, ?_⟩)); (case hz => rfl))
  repeat (refine wXh ?_)
  refine ND_retC (cs := [.int .i64 4, .slice (some ⟨b, 0, none⟩) 4 4]) (.inl rfl) rfl rfl memF rfl (.blk b (recs eK exL) 39 :: M0) I0 subF incF ⟨rfl, b, rfl, rfl⟩
theorem few_ok {N : Int} {p : Option Addr} {m c : Nat} : CD Try.prog 13 [gv N p m c] X w0 M0 I0 (fun v M I => M0 = M ∧ I0 = I ∧ v = .bool (B (N ≤ 10 ∧ m ≤ 24))) := by
  refine enterD1 Try.func13 rfl Try.ntmps13 rfl ?_
  refine TD_seq ?_
  refine TD_region ?_
  (refine RD_boxA rfl rfl rfl ?_; intro b; refine ⟨okF, ?_⟩)
  refine RD_freezeB .here ?_
  by_cases h : N ≤ 10
  · repeat (refine wXh ?_)
    refine ND_ret1 (by first | exact .inl rfl | exact .inr rfl) rfl rfl _ _ subF incF (⟨rfl, rfl, congrArg Value.bool (B_congr (by omega))⟩)
  · repeat (refine wXh ?_)
    refine ND_ret1 (by first | exact .inl rfl | exact .inr rfl) rfl rfl _ _ subF incF (⟨rfl, rfl, congrArg Value.bool (B_false (by omega)).symm⟩)
set_option maxRecDepth 100000 in
set_option maxHeartbeats 2000000 in
theorem known11_ok : CD Try.prog 12 [] X w0 M0 I0 (fun v M I => M0 = M ∧ I0 = I ∧ v = .bool true) := by
  have hT := fun (p : Option Addr) M0 I0 h => gTree_ok (X := X) (w0 := w0) (M0 := M0) (I0 := I0) (p := p) (n := 4) (ms := exL) (m := 4) (c := 4) (by decide) rfl (by decide) exL_gd h
  rw [exL_kt] at hT
  have hS := fun (p : Option Addr) M0 I0 h => Shortest_ok (X := X) (w0 := w0) (M0 := M0) (I0 := I0) (p := p) (n := 4) (ms := exL) (m := 4) (c := 4) (s := 0) (by decide) rfl (by decide) exL_gd (by decide) ⟨_, exL_fix⟩ h
  have hP := fun (p : Option Addr) M0 I0 h => Potentials_no (X := X) (w0 := w0) (M0 := M0) (I0 := I0) (p := p) (n := 4) (ms := exM) (m := 4) (c := 4) (by decide) rfl (by decide) exM_gd exM_no h
  refine enterD0 Try.func12 rfl Try.ntmps12 rfl ?_
  repeat (refine wXh ?_)
  (refine RD_callS rfl (example_ok) rfl rfl ?_; rintro _ _ _ ⟨rfl, b1, rfl, rfl⟩; refine ⟨okF, ?_⟩)
  refine RD_freezeB (b := b1) .here ?_
  (refine RD_callS rfl (hT _ _ _ memF) rfl rfl ?_; rintro _ _ _ ⟨rfl, q, c', rfl, hc', rfl⟩; refine ⟨okF, ?_⟩)
  repeat (refine wXh ?_)
  (refine RD_callS rfl (example_ok) rfl rfl ?_; rintro _ _ _ ⟨rfl, b2, rfl, rfl⟩; refine ⟨okF, ?_⟩)
  refine RD_freezeB (b := b2) .here ?_
  (refine RD_callS rfl (hS _ _ _ memF) rfl rfl ?_; rintro _ _ _ ⟨rfl, d, kn, q1, q2, c1, c2, rfl, hf, ld, lk, hz, rfl⟩; refine ⟨okF, ?_⟩)
  have hd := exL_short ld hf
  repeat (refine wXh ?_)
  (refine RD_callS rfl (example_ok) rfl rfl ?_; rintro _ _ _ ⟨rfl, b3, rfl, rfl⟩; refine ⟨okF, ?_⟩)
  repeat (refine wXh ?_)
  rw [show recs eK exL = [.int .i64 0, .int .i64 1, .int .i64 2, .int .i64 1, .int .i64 2, .int .i64 1, .int .i64 2, .int .i64 0, .int .i64 2, .int .i64 2, .int .i64 3, .int .i64 5] from rfl]
  (refine RD_alloc rfl rfl ?_; intro b6; refine ⟨okF, ?_⟩)
  repeat (refine wXh ?_)
  refine RD_freezeB (b := b3) (cs := recs eK exM) (e := 39) (.there .here) ?_
  (refine RD_callS rfl (hP _ _ _ memF) rfl rfl ?_; rintro _ _ _ ⟨rfl, rfl, rfl⟩; refine ⟨okF, ?_⟩)
  subst hd
  have hE := fun (q1 q2 : Option Addr) (a : List Int) (c c' : Nat) (h : a.length ≤ 10) M0 I0 h1 h2 => EqI_ok (X := X) (w0 := w0) (M0 := M0) (I0 := I0) (p := q1) (q := q2) (a := a) (b := a) (c := c) (c' := c') (by omega) h1 h2
  repeat (refine wXh ?_)
  (refine RD_vals (cs := recs (eI .i64) [0, 1, 3]) ([.int .i64 0, .int .i64 1, .int .i64 3]) rfl rfl (by intro v hv; repeat (first | exact absurd hv (List.not_mem_nil) | (rcases List.mem_cons.1 hv with rfl | hv; · rfl))) (by omega) rfl rfl rfl ?_; intro b8; refine ⟨okF, ?_⟩)
  refine RD_freezeB .here ?_
  (refine RD_callS rfl (hE q (some ⟨b8, 0, none⟩) [0, 1, 3] c' 3 (by decide) _ _ memF memF) rfl rfl ?_; rintro _ _ _ ⟨rfl, rfl, rfl⟩; refine ⟨okF, ?_⟩)
  rw [B_true (p := [0, 1, 3] = [0, 1, 3]) rfl]
  repeat (refine wXh ?_)
  (refine RD_vals (cs := recs (eI .i64) [0, 2, 3, 8]) ([.int .i64 0, .int .i64 2, .int .i64 3, .int .i64 8]) rfl rfl (by intro v hv; repeat (first | exact absurd hv (List.not_mem_nil) | (rcases List.mem_cons.1 hv with rfl | hv; · rfl))) (by omega) rfl rfl rfl ?_; intro b9; refine ⟨okF, ?_⟩)
  refine RD_freezeB .here ?_
  (refine RD_callS rfl (hE q1 (some ⟨b9, 0, none⟩) [0, 2, 3, 8] c1 4 (by decide) _ _ memF memF) rfl rfl ?_; rintro _ _ _ ⟨rfl, rfl, rfl⟩; refine ⟨okF, ?_⟩)
  rw [B_true (p := [0, 2, 3, 8] = [0, 2, 3, 8]) rfl]
  repeat (refine wXh ?_)
  refine ND_ret1 (by first | exact .inl rfl | exact .inr rfl) rfl rfl _ _ subF incF (⟨rfl, rfl, rfl⟩)
end
end Go.Proofs.Ytkhgglkkdnemlaa
namespace Go.Fx
open Go.ChangeShapes Go.WideShapes Go.RowKit Go.ChangeAt

section
variable {H : Type} {enc : TypeId × Value → H} {P : Program} {W : World}

theorem flat_inv {sz : Nat} : ∀ (rows : List (List Value)) (k : Nat) (v : Value), (∀ r ∈ rows, r.length = sz) → rows.flatten[k]? = some v → ∃ i row, rows[i]? = some row ∧ i * sz ≤ k ∧ row[k - i * sz]? = some v
  | [], k, v, _, h => by simp at h
  | r :: rows, k, v, hr, h => by
    rw [List.flatten_cons] at h
    have hl := hr r (by simp)
    by_cases hk : k < r.length
    · rw [List.getElem?_append_left hk] at h
      exact ⟨0, r, by simp, by omega, by simpa using h⟩
    · rw [List.getElem?_append_right (by omega)] at h
      obtain ⟨i, row, h1, h2, h3⟩ := flat_inv rows _ v (fun r' hr' => hr r' (by simp [hr'])) h
      refine ⟨i + 1, row, by simpa using h1, by rw [Nat.add_mul]; omega, ?_⟩
      rw [← h3]
      congr 1
      rw [Nat.add_mul]; omega

/-- a slice's cells, row by row -/
theorem open_rows {base fuel : Nat} {t e : TypeId} {v : Value} {x : DataW H × List MemPlace} (ht : P.underlying t = some (.slice e)) (hv : Value.okWide P W .any base t v) (h : DataW.trod enc P W 0 (fun _ => true) true fuel t v.cells.toList = some x) :
    ∃ (a : Option Addr) (len c : Nat), v = .slice a len c ∧ (len : Int) ≤ 9223372036854775807 ∧ len ≤ c ∧ (Ok a ∨ (a = none ∧ len = 0 ∧ c = 0)) ∧
      ∃ rows : List (List Value), rows.length = len ∧ (∀ r ∈ rows, r.length = P.cellsOf e ∧ ∃ n y, DataW.trod enc P W 0 (fun _ => true) true n e r = some y) ∧ Sl [] W a rows.flatten := by
  obtain ⟨a, len, c, rfl⟩ := okWide_slice ht hv
  obtain ⟨h1, h2, h3⟩ := slice_ok ht hv
  refine ⟨a, len, c, rfl, h1, h2, h3, ?_⟩
  rcases DataW.trod_slice ht h with ⟨hcs, _⟩ | ⟨a', len', cap', elems, rest, n, _, hcs, _, _, _, _, hlen, hel, _, _⟩
  · simp [Value.cells] at hcs
    obtain ⟨rfl, rfl, rfl⟩ := hcs
    exact ⟨[], rfl, by simp, Sl.nil _ _ _⟩
  · simp [Value.cells] at hcs
    obtain ⟨rfl, rfl, rfl⟩ := hcs
    have hok : Ok (some a') := h3.resolve_right (by simp)
    have each : ∀ i, i < len → ∃ cs y, W.cells? 0 (a'.add (i * P.cellsOf e)) (P.cellsOf e) = some cs ∧ DataW.trod enc P W 0 (fun _ => true) true n e cs = some y := fun i hi => by
      have := hel i hi
      rw [List.getElem?_eq_getElem (by omega), Option.bind_eq_some_iff] at this
      obtain ⟨cs, h1, h2⟩ := this
      exact ⟨cs, _, h1, h2⟩
    refine ⟨(List.range len).map (fun i => (W.cells? 0 (a'.add (i * P.cellsOf e)) (P.cellsOf e)).getD []), by simp, ?_, ?_⟩
    · intro r hr
      obtain ⟨i, hi, rfl⟩ := List.mem_map.1 hr
      obtain ⟨cs, y, h4, h5⟩ := each i (by simpa using hi)
      rw [h4]
      exact ⟨(World.cells?_some h4).2.1, n, y, h5⟩
    · intro j v hj
      have hall : ∀ r ∈ (List.range len).map (fun i => (W.cells? 0 (a'.add (i * P.cellsOf e)) (P.cellsOf e)).getD []), r.length = P.cellsOf e := by
        intro r hr
        obtain ⟨i, hi, rfl⟩ := List.mem_map.1 hr
        obtain ⟨cs, y, h4, h5⟩ := each i (by simpa using hi)
        rw [h4]
        exact (World.cells?_some h4).2.1
      obtain ⟨i, row, h4, h5, h6⟩ := flat_inv _ j v hall hj
      rw [List.getElem?_map] at h4
      obtain ⟨i', hi', rfl⟩ := Option.map_eq_some_iff.1 h4
      have hii : i' = i ∧ i < len := by
        obtain ⟨q1, q2⟩ := List.getElem?_eq_some_iff.1 hi'
        rw [List.getElem_range] at q2
        exact ⟨q2.symm, by simpa using q1⟩
      obtain ⟨rfl, hil⟩ := hii
      obtain ⟨cs, y, h7, h8⟩ := each i' hil
      rw [h7] at h6
      simp only [Option.getD_some] at h6
      obtain ⟨_, hl, hc⟩ := World.cells?_some h7
      have hlt : j - i' * P.cellsOf e < P.cellsOf e := by
        have := (List.getElem?_eq_some_iff.1 h6).1
        omega
      have hcell := hc _ hlt
      rw [h6] at hcell
      refine ⟨hok, by simp, ?_⟩
      obtain ⟨b, o, eq⟩ := hok.cases
      injection eq with eq
      subst eq
      rw [add_lit, add_lit] at hcell
      rw [← hcell]
      simp only [pt, bl, of, Option.getD_some]
      congr 2
      omega
/-- a slice of records -/
theorem open_sliceM {α : Type} {en : α → List Value} {Pm : α → Prop} {base : Nat} {t e : TypeId} {v : Value} {d : DataW H} {p : List MemPlace} (ht : P.underlying t = some (.slice e)) (hdec : ∀ (r : List Value) n y, r.length = P.cellsOf e → DataW.trod enc P W 0 (fun _ => true) true n e r = some y → ∃ m, r = en m ∧ Pm m)
    (hv : Value.okWide P W .any base t v) (h : DataW.Trod enc P W 0 (fun _ => true) true t v d p) :
    ∃ (a : Option Addr) (ms : List α) (c : Nat), v = .slice a ms.length c ∧ Sl [] W a (recs en ms) ∧ (∀ m ∈ ms, Pm m) ∧ (ms.length : Int) ≤ 9223372036854775807 ∧ ms.length ≤ c ∧ (Ok a ∨ (a = none ∧ ms.length = 0 ∧ c = 0)) := by
  obtain ⟨fuel, hf⟩ := h
  obtain ⟨a, len, c, rfl, h1, h2, h3, rows, hl, hr, hs⟩ := open_rows ht hv hf
  have key : ∀ rows : List (List Value), (∀ r ∈ rows, r.length = P.cellsOf e ∧ ∃ n y, DataW.trod enc P W 0 (fun _ => true) true n e r = some y) → ∃ ms : List α, rows = ms.map en ∧ ∀ m ∈ ms, Pm m := by
    intro rows
    induction rows with
    | nil => intro _; exact ⟨[], rfl, by simp⟩
    | cons r rows ih =>
      intro hr
      obtain ⟨hrl, n, y, hy⟩ := hr r (by simp)
      obtain ⟨m, rfl, hm⟩ := hdec r n y hrl hy
      obtain ⟨ms, rfl, hms⟩ := ih (fun r' hr' => hr r' (by simp [hr']))
      exact ⟨m :: ms, rfl, fun m' hm' => by
        rcases List.mem_cons.1 hm' with rfl | hm'
        · exact hm
        · exact hms m' hm'⟩
  obtain ⟨ms, rfl, hms⟩ := key rows hr
  have hlen : ms.length = len := by simpa using hl
  subst hlen
  refine ⟨a, ms, c, rfl, ?_, hms, h1, h2, h3⟩
  rw [← List.flatMap_def] at hs
  exact hs
/-- a struct, cell by cell -/
theorem open_struct {base : Nat} {t : TypeId} {v : Value} {d : DataW H} {p : List MemPlace} {fs : Array Field} (ht : P.underlying t = some (.struct fs)) (hv : Value.okWide P W .any base t v) (h : DataW.Trod enc P W 0 (fun _ => true) true t v d p) :
    ∃ cs : List Value, v = .agg cs.toArray ∧ cs.length = P.cellsOf t ∧ Row.okWide P W .any base t cs.toArray ∧ ∀ (i : Nat) (f : Field), fs[i]? = some f → ∃ n y, DataW.trod enc P W 0 (fun _ => true) true n f.type ((cs.drop f.offset).take (P.cellsOf f.type)) = some y := by
  simp only [Value.okWide, ht] at hv
  obtain ⟨cs, rfl, hsz, hrow⟩ := hv
  obtain ⟨fuel, hf⟩ := h
  obtain ⟨xs, n, rfl, _, hl, hxl, hx⟩ := DataW.trod_struct ht hf
  refine ⟨cs.toList, by simp, by simpa using hsz, by simpa using hrow, fun i f hfi => ?_⟩
  have hi : i < fs.size := (Array.getElem?_eq_some_iff.1 hfi).1
  have := hx i f hfi
  rw [List.getElem?_eq_getElem (by omega)] at this
  exact ⟨n, _, this⟩
theorem dec_int {t : TypeId} {k : IntKind} {n : Nat} {cs : List Value} {y : DataW H × List MemPlace} (ht : P.underlying t = some (.int k)) (h : DataW.trod enc P W 0 (fun _ => true) true n t cs = some y) : ∃ x : Int, cs = [.int k x] ∧ (Lit.int k x).wf = true := by
  obtain ⟨m, h1, _, h2⟩ := DataW.trod_int ht h
  exact ⟨m, h1, h2⟩
/-- a record of ints of one kind -/
theorem dec_ints {t : TypeId} {k : IntKind} {m n : Nat} {cs : List Value} {y : DataW H × List MemPlace} {fs : Array Field} (ht : P.underlying t = some (.struct fs)) (hf : fs.toList.map (fun (f : Field) => (f.offset, P.cellsOf f.type)) = (List.range m).map (fun i => (i, 1))) (hk : ∀ f ∈ fs.toList, P.underlying f.type = some (.int k)) (hl : cs.length = m)
    (h : DataW.trod enc P W 0 (fun _ => true) true n t cs = some y) : ∃ xs : List Int, cs = xs.map (Value.int k) ∧ xs.length = m ∧ ∀ x ∈ xs, (Lit.int k x).wf = true := by
  obtain ⟨zs, n', rfl, _, _, hzl, hz⟩ := DataW.trod_struct ht h
  have each : ∀ i, i < m → ∃ x : Int, cs[i]? = some (.int k x) ∧ (Lit.int k x).wf = true := fun i hi => by
    have hsz : fs.toList.length = m := by have := congrArg List.length hf; simpa using this
    obtain ⟨f, hfi⟩ : ∃ f, fs.toList[i]? = some f := ⟨_, List.getElem?_eq_getElem (by omega)⟩
    have hoff : (f.offset, P.cellsOf f.type) = (i, 1) := by
      have : (fs.toList.map (fun f => (f.offset, P.cellsOf f.type)))[i]? = some (f.offset, P.cellsOf f.type) := by rw [List.getElem?_map, hfi]; rfl
      rw [hf, List.getElem?_map, List.getElem?_range hi] at this
      simpa using this.symm
    injection hoff with ho hc
    have hf2 : fs[i]? = some f := by simpa using hfi
    have := hz i f hf2
    rw [List.getElem?_eq_getElem (by rw [hzl]; exact (Array.getElem?_eq_some_iff.1 hf2).1), ho, hc] at this
    obtain ⟨x, hx, hw⟩ := dec_int (hk f (List.mem_of_getElem? hfi)) this
    refine ⟨x, ?_, hw⟩
    have : ((cs.drop i).take 1)[0]? = some (.int k x) := by rw [hx]; rfl
    rw [List.getElem?_take, if_pos (by omega), List.getElem?_drop] at this
    simpa using this
  refine ⟨cs.map (fun v => match v with | .int _ x => x | _ => 0), ?_, by simpa using hl, ?_⟩
  · apply List.ext_getElem
    · simp
    · intro i h1 h2
      obtain ⟨x, hx, _⟩ := each i (by omega)
      have : cs[i] = .int k x := by
        have := (List.getElem?_eq_some_iff.1 hx).2
        exact this
      simp [this]
  · intro x hx
    obtain ⟨v, hv, rfl⟩ := List.mem_map.1 hx
    obtain ⟨i, hi, rfl⟩ := List.mem_iff_getElem.1 hv
    obtain ⟨y, hy, hw⟩ := each i (by omega)
    have : cs[i] = .int k y := (List.getElem?_eq_some_iff.1 hy).2
    rw [this]
    exact hw
theorem three_of {xs : List Int} (h : xs.length = 3) : ∃ a b c, xs = [a, b, c] := by
  match xs, h with
  | [a, b, c], _ => exact ⟨a, b, c, rfl⟩
theorem Mem.startS {W : World} {I : List Imm} {a : Option Addr} {cs : List Value} (h : Mem [] W [] I W) (hs : Sl [] W a cs) : Mem [] W [] (slI a cs :: I) W := h.add (φ := slI a cs) ⟨hs⟩
end
end Go.Fx
namespace Go.Proofs.Ytkhgglkkdnemlaa
open Go Go.Fx
set_option maxRecDepth 100000 in
theorem dec_K {H : Type} {enc : TypeId × Value → H} {W : World} (r : List Value) (n : Nat) (y : DataW H × List MemPlace) (hl : r.length = Try.prog.cellsOf 39) (h : DataW.trod enc Try.prog W 0 (fun _ => true) true n 39 r = some y) : ∃ m : LK, r = eK m ∧ True := by
  obtain ⟨xs, rfl, hx, _⟩ := dec_ints (k := .i64) (m := 3) Try.underlying39 (by kernel_rfl) (by intro f hf; simp at hf; rcases hf with rfl | rfl | rfl <;> exact Try.underlying3) (by rw [hl]; kernel_rfl) h
  obtain ⟨a, b, c, rfl⟩ := three_of hx
  exact ⟨⟨a, b, c⟩, rfl, trivial⟩
set_option maxRecDepth 100000 in
theorem open_ks {H : Type} {enc : TypeId × Value → H} {W : World} {base : Nat} {v : Value} {d : DataW H} {p : List MemPlace} (hv : Value.okWide Try.prog W .any base 22 v) (h : DataW.Trod enc Try.prog W 0 (fun _ => true) true 22 v d p) :
    ∃ (a : Option Addr) (ms : List LK) (c : Nat), v = .slice a ms.length c ∧ Sl [] W a (recs eK ms) ∧ (ms.length : Int) ≤ 9223372036854775807 := by
  obtain ⟨a, ms, c, rfl, hs, _, hn, _, _⟩ := open_sliceM (en := eK) (Pm := fun _ => True) Try.underlying22 (fun r n y => dec_K r n y) hv h
  exact ⟨a, ms, c, rfl, hs, hn⟩
set_option maxRecDepth 100000 in
theorem open_g {H : Type} {enc : TypeId × Value → H} {W : World} {base : Nat} {v : Value} {d : DataW H} {p : List MemPlace} (hv : Value.okWide Try.prog W .any base 24 v) (h : DataW.Trod enc Try.prog W 0 (fun _ => true) true 24 v d p) :
    ∃ (N : Int) (a : Option Addr) (ms : List LK) (c : Nat), v = gv N a ms.length c ∧ Sl [] W a (recs eK ms) ∧ (ms.length : Int) ≤ 9223372036854775807 := by
  obtain ⟨cs, rfl, hl, hrow, hf⟩ := open_struct Try.underlying24 hv h
  have hl4 : cs.length = 2 := by rw [hl]; kernel_rfl
  match cs, hl4 with
  | [c0, c3], _ =>
    obtain ⟨n0, y0, h0⟩ := hf 0 _ rfl
    obtain ⟨n3, y3, h3⟩ := hf 1 _ rfl
    have e1 : Try.prog.cellsOf 3 = 1 := by kernel_rfl
    have e2 : Try.prog.cellsOf 22 = 1 := by kernel_rfl
    replace h0 : DataW.trod enc Try.prog W 0 (fun _ => true) true n0 3 (([c0, c3].drop 0).take (Try.prog.cellsOf 3)) = some y0 := h0
    replace h3 : DataW.trod enc Try.prog W 0 (fun _ => true) true n3 22 (([c0, c3].drop 1).take (Try.prog.cellsOf 22)) = some y3 := h3
    rw [e1] at h0
    rw [e2] at h3
    obtain ⟨x0, q0, _⟩ := dec_int Try.underlying3 h0
    simp at q0
    subst q0
    have hcell : Value.okWide Try.prog W .any base 22 c3 := by
      obtain ⟨ts, hts, _, hall⟩ := hrow
      have e : ts = [3, 22] := by
        have : Try.prog.cellTypes Try.prog.depth 24 = some [3, 22] := by kernel_rfl
        rw [this] at hts
        exact (Option.some.inj hts).symm
      subst e
      obtain ⟨u, hu, hc⟩ := hall 1 c3 rfl
      have : u = 22 := by simpa using hu.symm
      subst this
      simpa [Value.okWide, Try.underlying22] using hc
    have h3' : DataW.Trod enc Try.prog W 0 (fun _ => true) true 22 c3 y3.1 y3.2 := by
      obtain ⟨a, len, c, rfl⟩ := Go.WideShapes.okWide_slice Try.underlying22 hcell
      exact ⟨n3, by simpa [Value.cells] using h3⟩
    obtain ⟨a, ms, c, rfl, hs, hn⟩ := open_ks hcell h3'
    exact ⟨x0, a, ms, c, rfl, hs, hn⟩
section
variable {X : List Nat} {w0 : World} {M0 : List Ent} {I0 : List Imm}
end
end Go.Proofs.Ytkhgglkkdnemlaa
namespace Go.Proofs.Ytkhgglkkdnemlaa
open Go Go.Fx
/-- links taken, links left -/
structure Sel (ms : List LK) (P L : List Int) : Prop where
  asc : L.Pairwise (· < ·)
  mem : ∀ k, k ∈ P ∨ k ∈ L ↔ k ∈ rg ms.length
  pw : P.Pairwise (kl ms)
  lt : ∀ x ∈ P, ∀ y ∈ L, kl ms x y
end Go.Proofs.Ytkhgglkkdnemlaa
namespace Go.Proofs.Ytkhgglkkdnemlaa
open Go Go.Fx
section
variable {X : List Nat} {w0 : World} {M0 : List Ent} {I0 : List Imm}
end
end Go.Proofs.Ytkhgglkkdnemlaa
namespace Go.Proofs.Ytkhgglkkdnemlaa
open Go Go.Fx
section
variable {X : List Nat} {w0 : World} {M0 : List Ent} {I0 : List Imm}
end
end Go.Proofs.Ytkhgglkkdnemlaa
namespace Go.Proofs.Ytkhgglkkdnemlaa
open Go Go.Fx
def ccode (ms : List LK) (ls : List Int) : Int := if fcode ms ls ≠ 0 then fcode ms ls else if ¬ spn ms ls then 6 else if wsum ms ls ≠ wsum ms (kt ms) then 12 else 0
section
variable {X : List Nat} {w0 : World} {M0 : List Ent} {I0 : List Imm}
end
end Go.Proofs.Ytkhgglkkdnemlaa
namespace Go.Proofs.Ytkhgglkkdnemlaa
open Go Go.Fx
/-- within a round: the first i links done -/
structure Jx (ms : List LK) (n : Nat) (d k : List Int × List Bool) (i : Nat) : Prop where
  ld : k.1.length = n
  lk : k.2.length = n
  eq : OD k.1 k.2 = jr ms (OD d.1 d.2) i
  zero : ∀ v : Int, 0 ≤ v → v < n → gt k.2 v = false → gt k.1 v = 0
theorem Jx.skip {ms : List LK} {n i : Nat} {d k : List Int × List Bool} (h : Jx ms n d k i) (hs : jst ms (OD d.1 d.2) (OD k.1 k.2) (i : Int) = OD k.1 k.2) : Jx ms n d k (i + 1) :=
  ⟨h.ld, h.lk, by rw [jr, ← h.eq, hs], h.zero⟩
theorem Jx.skip2 {ms : List LK} {n i : Nat} {d k : List Int × List Bool} (h : Jx ms n d k i) (hA : 0 ≤ (gt ms (i : Int)).a) (hB : 0 ≤ (gt ms (i : Int)).b) (hk : gt d.2 (gt ms (i : Int)).a = true) (hb : gt k.2 (gt ms (i : Int)).b = true) (hl : ¬ gt d.1 (gt ms (i : Int)).a + wt ms i < gt k.1 (gt ms (i : Int)).b) : Jx ms n d k (i + 1) := by
  refine h.skip (funext (fun v => ?_))
  have h1 : OD d.1 d.2 (gt ms (i : Int)).a = some (gt d.1 (gt ms (i : Int)).a) := OD_some.2 ⟨⟨hA, hk⟩, rfl⟩
  have h2 : OD k.1 k.2 (gt ms (i : Int)).b = some (gt k.1 (gt ms (i : Int)).b) := OD_some.2 ⟨⟨hB, hb⟩, rfl⟩
  unfold jst
  split
  · rename_i e
    rw [h1, e, h2]
    dsimp only
    rw [if_neg hl]
  · rfl
theorem OD_put {d : List Int} {k : List Bool} {n : Nat} {Z x : Int} (ld : d.length = n) (lk : k.length = n) (hz : 0 ≤ Z ∧ Z < n) (v : Int) : OD (st d Z x) (st k Z true) v = if v = Z then some x else OD d k v := by
  by_cases h0 : 0 ≤ v
  · unfold OD
    have e1 := gt_st (ms := d) (i := Z) (j := v) x (by rw [ld]; exact hz) h0
    have e2 := gt_st (ms := k) (i := Z) (j := v) true (by rw [lk]; exact hz) h0
    rw [e1, e2]
    by_cases e : v = Z
    · rw [if_pos e, if_pos e, if_pos e, if_pos ⟨h0, rfl⟩]
    · rw [if_neg e, if_neg e, if_neg e]
  · rw [if_neg (fun e => h0 (by rw [e]; exact hz.1))]
    unfold OD
    rw [if_neg (fun e => h0 e.1), if_neg (fun e => h0 e.1)]
theorem Jx.put {ms : List LK} {n i : Nat} {d k : List Int × List Bool} (h : Jx ms n d k i) (hA : 0 ≤ (gt ms (i : Int)).a) (hB : 0 ≤ (gt ms (i : Int)).b ∧ (gt ms (i : Int)).b < n) (hk : gt d.2 (gt ms (i : Int)).a = true) (hl : gt k.2 (gt ms (i : Int)).b = true → gt d.1 (gt ms (i : Int)).a + wt ms i < gt k.1 (gt ms (i : Int)).b) :
    Jx ms n d (st k.1 (gt ms (i : Int)).b (gt d.1 (gt ms (i : Int)).a + wt ms i), st k.2 (gt ms (i : Int)).b true) (i + 1) := by
  refine ⟨by rw [st_len, h.ld], by rw [st_len, h.lk], ?_, fun v h0 hv e => ?_⟩
  · funext v
    rw [OD_put h.ld h.lk hB, jr, ← h.eq]
    have h1 : OD d.1 d.2 (gt ms (i : Int)).a = some (gt d.1 (gt ms (i : Int)).a) := OD_some.2 ⟨⟨hA, hk⟩, rfl⟩
    unfold jst
    split
    · rename_i e
      rw [h1, e]
      dsimp only
      cases hb : gt k.2 (gt ms (i : Int)).b
      · have h2 : OD k.1 k.2 (gt ms (i : Int)).b = none := by unfold OD; rw [if_neg (fun h => by rw [hb] at h; simp at h)]
        rw [h2]
      · have h2 : OD k.1 k.2 (gt ms (i : Int)).b = some (gt k.1 (gt ms (i : Int)).b) := OD_some.2 ⟨⟨hB.1, hb⟩, rfl⟩
        rw [h2]
        dsimp only
        rw [if_pos (hl hb)]
    · rfl
  · dsimp only at e ⊢
    have e3 := gt_st (ms := k.1) (i := (gt ms (i : Int)).b) (j := v) (gt d.1 (gt ms (i : Int)).a + wt ms i) (by rw [h.ld]; exact hB) h0
    have e4 := gt_st (ms := k.2) (i := (gt ms (i : Int)).b) (j := v) true (by rw [h.lk]; exact hB) h0
    rw [e4] at e
    rw [e3]
    by_cases e2 : v = (gt ms (i : Int)).b
    · rw [if_pos e2] at e; simp at e
    · rw [if_neg e2] at e ⊢
      exact h.zero v h0 hv e
/-- after so many rounds -/
structure Jo (ms : List LK) (n : Nat) (D0 : Int → Option Int) (t : Nat) (d : List Int × List Bool) : Prop where
  ld : d.1.length = n
  lk : d.2.length = n
  eq : OD d.1 d.2 = DK ms D0 t
  zero : ∀ v : Int, 0 ≤ v → v < n → gt d.2 v = false → gt d.1 v = 0
theorem Jo.start {ms : List LK} {n t : Nat} {D0 : Int → Option Int} {d : List Int × List Bool} (h : Jo ms n D0 t d) : Jx ms n d d 0 := ⟨h.ld, h.lk, rfl, h.zero⟩
theorem Jo.next {ms : List LK} {n t : Nat} {D0 : Int → Option Int} {d k : List Int × List Bool} (h : Jo ms n D0 t d) (hx : Jx ms n d k ms.length) : Jo ms n D0 (t + 1) k := ⟨hx.ld, hx.lk, by rw [hx.eq, h.eq]; rfl, hx.zero⟩
theorem Jo.bound {ms : List LK} {n t : Nat} {S : Int → Prop} {D0 : Int → Option Int} {d : List Int × List Bool} (hg : Gd ms n) (hs : Snd ms S 0 D0) (h : Jo ms n D0 t d) {v : Int} (h0 : 0 ≤ v) (hv : v < n) : (gt d.1 v).natAbs ≤ t * 1073741824 := by
  cases e : gt d.2 v
  · rw [h.zero v h0 hv e]; simp
  · have h1 : OD d.1 d.2 v = some (gt d.1 v) := OD_some.2 ⟨⟨h0, e⟩, rfl⟩
    rw [h.eq] at h1
    obtain ⟨j, h2, h3⟩ := DK_snd hs t _ _ h1
    exact Nat.le_trans (h3.bound hg) (Nat.mul_le_mul_right _ h2)
/-- the same numbers, the same lists -/
theorem OD_lists {n : Nat} {d d' : List Int × List Bool} (l1 : d.1.length = n) (l2 : d.2.length = n) (l3 : d'.1.length = n) (l4 : d'.2.length = n) (z1 : ∀ v : Int, 0 ≤ v → v < n → gt d.2 v = false → gt d.1 v = 0) (z2 : ∀ v : Int, 0 ≤ v → v < n → gt d'.2 v = false → gt d'.1 v = 0)
    (h : ∀ v : Int, 0 ≤ v → v < n → OD d.1 d.2 v = OD d'.1 d'.2 v) : d.1 = d'.1 ∧ d.2 = d'.2 := by
  have key : ∀ v : Int, 0 ≤ v → v < n → gt d.1 v = gt d'.1 v ∧ gt d.2 v = gt d'.2 v := fun v h0 hv => by
    have h1 := h v h0 hv
    cases e : gt d.2 v
    · have h2 : OD d.1 d.2 v = none := by unfold OD; rw [if_neg (fun h => by rw [e] at h; simp at h)]
      rw [h2] at h1
      cases e2 : gt d'.2 v
      · rw [z1 v h0 hv e, z2 v h0 hv e2]; exact ⟨rfl, rfl⟩
      · have h3 : OD d'.1 d'.2 v = some (gt d'.1 v) := OD_some.2 ⟨⟨h0, e2⟩, rfl⟩
        rw [h3] at h1; simp at h1
    · have h2 : OD d.1 d.2 v = some (gt d.1 v) := OD_some.2 ⟨⟨h0, e⟩, rfl⟩
      rw [h2] at h1
      obtain ⟨h3, h4⟩ := OD_some.1 h1.symm
      exact ⟨h4.symm, h3.2.symm⟩
  exact ⟨list_eq_of_gt (by omega) (fun j hj => (key j (by omega) (by omega)).1), list_eq_of_gt (by omega) (fun j hj => (key j (by omega) (by omega)).2)⟩
/-- the lists of n and of n + 1 rounds are equal exactly if there are least weights -/
theorem Jo.same {ms : List LK} {n : Nat} {S : Int → Prop} {D0 : Int → Option Int} {d d' : List Int × List Bool} (hg : Gd ms n) (hSn : ∀ s, S s → 0 ≤ s ∧ s < n) (hs : Snd ms S 0 D0) (h0 : Src S D0) (h : Jo ms n D0 n d) (h' : Jo ms n D0 (n + 1) d') : d.1 = d'.1 ↔ hasFix ms S := by
  constructor
  · intro he
    refine ⟨_, fix_of hg (DK_snd hs n) (DK_src h0 n) (DK_rnd ms D0 n) (fun v hv0 hv => ?_)⟩
    have hr := DK_rch hg hSn hs h0 hv0 hv
    rw [← h.eq, ← h'.eq] at hr ⊢
    unfold rcd at hr
    cases e : gt d.2 v
    · have h2 : OD d.1 d.2 v = none := by unfold OD; rw [if_neg (fun h => by rw [e] at h; simp at h)]
      rw [h2] at hr ⊢
      cases e2 : OD d'.1 d'.2 v with
      | none => rfl
      | some y => rw [e2] at hr; simp at hr
    · have h2 : OD d.1 d.2 v = some (gt d.1 v) := OD_some.2 ⟨⟨hv0, e⟩, rfl⟩
      rw [h2] at hr ⊢
      cases e2 : OD d'.1 d'.2 v with
      | none => rw [e2] at hr; simp at hr
      | some y =>
        obtain ⟨h3, h4⟩ := OD_some.1 e2
        rw [← h4, he]
  · rintro ⟨F, hF⟩
    refine (OD_lists h.ld h.lk h'.ld h'.lk h.zero h'.zero (fun v hv0 hv => ?_)).1
    rw [h.eq, h'.eq, DK_fix hg hF hs h0 (Nat.le_refl _) v hv0 hv, DK_fix hg hF hs h0 (Nat.le_succ _) v hv0 hv]
theorem Jo.fix {ms : List LK} {n : Nat} {S : Int → Prop} {F D0 : Int → Option Int} {d : List Int × List Bool} (hg : Gd ms n) (hF : Fix ms S F) (hs : Snd ms S 0 D0) (h0 : Src S D0) (h : Jo ms n D0 n d) : ∀ v : Int, 0 ≤ v → v < n → OD d.1 d.2 v = F v := fun v hv0 hv => by
  rw [h.eq]; exact DK_fix hg hF hs h0 (Nat.le_refl _) v hv0 hv
theorem Jo.init {ms : List LK} {n : Nat} {S : Int → Prop} {d : List Int × List Bool} (h : Ro ms n S 0 d.1 d.2) : Jo ms n (OD d.1 d.2) 0 d ∧ Snd ms S 0 (OD d.1 d.2) ∧ Src S (OD d.1 d.2) := ⟨⟨h.ld, h.lk, rfl, h.zero⟩, by have := h.snd; rwa [Nat.zero_mul] at this, h.src⟩
end Go.Proofs.Ytkhgglkkdnemlaa
