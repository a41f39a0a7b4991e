/- Equality of lists and matrices; matrices of integers; the chapter's example. Matrices of integers; the chapter's example. The chapter's example. -/
import Derived.Test.YtdmlebigkakplaaGreatZdan
import Derived.Test.YtdmlebigkakplaaGreatZdae
import Derived.Test.YtdmlebigkakplaaGreatZdaa
set_option linter.unusedSimpArgs false
set_option linter.unusedVariables false
namespace Go.Proofs.YtdmlebigkakplaaGreat
open Go Go.Fx
/-- a list of integers -/
structure IL where
  p : Option Addr
  c : Nat
  xs : List Int
instance : Inhabited IL := ⟨⟨none, 0, []⟩⟩
abbrev eIL (r : IL) : List Value := [.slice r.p r.xs.length r.c]
abbrev ivL (r : IL) : Value := .slice r.p r.xs.length r.c
instance : Sized eIL 1 := ⟨fun _ => rfl⟩
instance : Ones eIL := ⟨fun m u hu => by simp only [eIL, List.mem_cons, List.not_mem_nil, or_false] at hu; subst hu; rfl⟩
/- ---------- IndexFunc, ContainsFunc of [][]int ---------- -/
section
variable {X : List Nat} {w0 : World} {M0 : List Ent} {I0 : List Imm}
theorem idxIL_ok {q : Option Addr} {a : List IL} {c : Nat} {g : FuncId} [FnOk Tryz.prog g] {fs cs : Array Value} (pr : IL → Prop) [DecidablePred pr] (hn : (a.length : Int) ≤ 9223372036854775807) (ha : slI q (recs eIL a) ∈ I0)
    (hg : ∀ i : Nat, i < a.length → CD Tryz.prog g (fs.toList ++ [ivL (gt a i)] ++ cs.toList) X w0 M0 I0 (fun v M I => M0 = M ∧ I0 = I ∧ v = .bool (B (pr (gt a i))))) :
    CD Tryz.prog 249 [.slice q a.length c, .func (.func g) fs cs] X w0 M0 I0 (fun v M I => M0 = M ∧ I0 = I ∧ ∃ r : Int, v = .int .i64 r ∧ ((∃ i : Nat, i < a.length ∧ r = i ∧ pr (gt a i) ∧ ∀ j : Nat, j < i → ¬ pr (gt a j)) ∨ (r = -1 ∧ ∀ j : Nat, j < a.length → ¬ pr (gt a j)))) := by
  refine enterD2 Tryz.func249 rfl Tryz.ntmps249 rfl ?_
  repeat (refine wXh ?_)
  refine TD_loop [0, 1, 7] rfl (fun k G M I => ∃ i : Nat, i ≤ a.length ∧ k = a.length - i ∧ (∀ j : Nat, j < i → ¬ pr (gt a j)) ∧ G = [(8, .int .i64 i)] ∧ M = M0 ∧ I = I0) (a.length) _ _ _ subG subF incF (⟨0, by omega, rfl, fun j hj => by omega, rfl, rfl, rfl⟩) ?_
  rintro k G M I ⟨i, hi, rfl, hs, rfl, rfl, rfl⟩
  repeat' (first | refine wXh ?_ | (refine TD_isCo ?_; first | refine TD_dec rfl (fun h => ?_) (fun h => ?_) | refine TD_cond rfl (fun h => ?_) (fun h => ?_)) | (refine RD_isGu ?_; first | refine RD_grd rfl rfl (fun h => ?_) (fun h => ?_) | (fail_if_success (refine RD_isW rfl ?_); refine RD_grdB rfl rfl (fun h => ?_) (fun h => ?_))))
  · have hlt : i < a.length := by omega
    (refine RD_callVS rfl rfl (hg i hlt) rfl rfl rfl ?_; rintro _ _ _ ⟨rfl, rfl, rfl⟩; refine ⟨okF, ?_⟩)
    repeat' (first | refine wXh ?_ | (refine TD_isCo ?_; first | refine TD_dec rfl (fun h => ?_) (fun h => ?_) | refine TD_cond rfl (fun h => ?_) (fun h => ?_)) | (refine RD_isGu ?_; first | refine RD_grd rfl rfl (fun h => ?_) (fun h => ?_) | (fail_if_success (refine RD_isW rfl ?_); refine RD_grdB rfl rfl (fun h => ?_) (fun h => ?_))))
    · refine ND_ret1 (by first | exact .inl rfl | exact .inr rfl) rfl rfl _ _ subF incF (⟨rfl, rfl, _, rfl, .inl ⟨i, hlt, rfl, by assumption, hs⟩⟩)
    · refine ND_again (a.length - (i + 1)) _ _ _ (by first | omega | (simp only [List.length_append, List.length_cons, List.length_nil]; omega)) subG subF incF (⟨i + 1, by omega, rfl, fun j hj => ?_, rfl, rfl, rfl⟩)
      by_cases e : j = i
      · subst e; assumption
      · exact hs j (by omega)
  · refine ND_ret1 (by first | exact .inl rfl | exact .inr rfl) rfl rfl _ _ subF incF (⟨rfl, rfl, _, rfl, .inr ⟨rfl, fun j hj => hs j (by omega)⟩⟩)
theorem hasIL_ok {q : Option Addr} {a : List IL} {c : Nat} {g : FuncId} [FnOk Tryz.prog g] {fs cs : Array Value} (pr : IL → Prop) [DecidablePred pr] (hn : (a.length : Int) ≤ 9223372036854775807) (ha : slI q (recs eIL a) ∈ I0)
    (hg : ∀ i : Nat, i < a.length → CD Tryz.prog g (fs.toList ++ [ivL (gt a i)] ++ cs.toList) X w0 M0 I0 (fun v M I => M0 = M ∧ I0 = I ∧ v = .bool (B (pr (gt a i))))) :
    CD Tryz.prog 214 [.slice q a.length c, .func (.func g) fs cs] X w0 M0 I0 (fun v M I => M0 = M ∧ I0 = I ∧ v = .bool (B (∃ x ∈ a, pr x))) := by
  refine enterD2 Tryz.func214 rfl Tryz.ntmps214 rfl ?_
  repeat (refine wXh ?_)
  (refine RD_callS rfl (idxIL_ok pr hn ha hg) rfl rfl ?_; rintro _ _ _ ⟨rfl, rfl, r, rfl, h⟩; refine ⟨okF, ?_⟩)
  repeat (refine wXh ?_)
  refine ND_ret1 (by first | exact .inl rfl | exact .inr rfl) rfl rfl _ _ subF incF (⟨rfl, rfl, congrArg Value.bool (B_congr ?_)⟩)
  rcases h with ⟨i, hi, rfl, hp, _⟩ | ⟨rfl, h⟩
  · exact ⟨fun _ => ⟨gt a i, by rw [gt_get hi]; exact List.getElem_mem hi, hp⟩, fun _ => by omega⟩
  · refine ⟨fun h => by omega, ?_⟩
    rintro ⟨x, hx, hp⟩
    obtain ⟨j, hj, rfl⟩ := List.mem_iff_getElem.1 hx
    exact absurd (by rw [gt_get hj]; exact hp) (h j hj)
end

theorem q_ext {x y : RL} (hl : x.es.length = y.es.length) (h : ∀ j : Nat, j < x.es.length → (gt x.es (j : Int)).q = (gt y.es (j : Int)).q) : x.q = y.q := by
  apply list_ext0
  · simp [hl]
  · intro t ht
    have ht' : t < x.es.length := by simpa using ht
    rw [qs_getD ht', qs_getD (by omega)]
    exact h t ht'
theorem q_at {x y : RL} (h : x.q = y.q) {j : Nat} (hj : j < x.es.length) : (gt x.es (j : Int)).q = (gt y.es (j : Int)).q := by
  have hl : x.es.length = y.es.length := by have := congrArg List.length h; simpa using this
  rw [← qs_getD hj, ← qs_getD (by omega)]
  exact congrArg (fun l => List.getD l j 0) h
section
variable {X : List Nat} {w0 : World} {M0 : List Ent} {I0 : List Imm}
set_option maxRecDepth 100000 in
theorem msameList_ok {x y : RL} {k m : Nat} (hk : k + m + 1 ≤ 100000000) (lx : x.es.length ≤ 1000) (ly : y.es.length ≤ 1000) (hx : isL x k ∈ I0) (hy : isL y m ∈ I0) :
    CD Tryz.prog 176 [lv x, lv y, .func (.func 21) #[] #[]] X w0 M0 I0 (fun v M I => M0 = M ∧ I0 = I ∧ v = .bool (B (x.q = y.q))) := by
  refine CD_hv (φ := slI (x).p (recs eR (x).es)) (Hv.lsl memF) ?_
  refine CD_hv (φ := slI (y).p (recs eR (y).es)) (Hv.lsl memF) ?_
  by_cases hlen : x.es.length = y.es.length
  · refine enterD3 Tryz.func176 rfl Tryz.ntmps176 rfl ?_
    repeat (refine wXh ?_)
    refine TD_loop [1, 2, 15, 16] rfl (fun k G M I => ∃ i : Nat, i ≤ x.es.length ∧ k = x.es.length - i ∧ (∀ j : Nat, j < i → (gt x.es (j : Int)).q = (gt y.es (j : Int)).q) ∧ G = [(17, .int .i64 i)] ∧ M0 = M ∧ I = slI y.p (recs eR y.es) :: slI x.p (recs eR x.es) :: I0) (x.es.length) _ _ _ subG subF incF (⟨0, by omega, rfl, fun j hj => by omega, rfl, rfl, rfl⟩) ?_
    rintro kk G M I ⟨i, hi, rfl, hs, rfl, rfl, rfl⟩
    by_cases hi2 : i < x.es.length
    · have hS := fun M0 I0 h1 h2 => rSame_ok (X := X) (w0 := w0) (M0 := M0) (I0 := I0) (a := gt x.es (i : Int)) (b := gt y.es (i : Int)) (k := k) (m := m) (by omega) h1 h2
      by_cases he : (gt x.es (i : Int)).q = (gt y.es (i : Int)).q
      · rw [B_true he] at hS
        repeat (refine wXh ?_)
        (refine RD_alloc rfl rfl ?_; intro b8; refine ⟨okF, ?_⟩)
        repeat (refine wXh ?_)
        (refine RD_alloc rfl rfl ?_; intro b9; refine ⟨okF, ?_⟩)
        repeat (refine wXh ?_)
        (refine RD_callVS rfl rfl (hS _ _ (Hv.lel memF (by omega)) (Hv.lel memF (by omega))) rfl rfl rfl ?_; rintro _ _ _ ⟨rfl, rfl, rfl⟩; refine ⟨okF, ?_⟩)
        repeat (refine wXh ?_)
        refine ND_again (x.es.length - (i + 1)) _ _ _ (by first | omega | (simp only [List.length_append, List.length_cons, List.length_nil]; omega)) subG subF incF (⟨i + 1, by omega, rfl, fun j hj => ?_, rfl, rfl, rfl⟩)
        by_cases e : j = i
        · subst e; exact he
        · exact hs j (by omega)
      · rw [B_false he] at hS
        repeat (refine wXh ?_)
        (refine RD_alloc rfl rfl ?_; intro b8; refine ⟨okF, ?_⟩)
        repeat (refine wXh ?_)
        (refine RD_alloc rfl rfl ?_; intro b9; refine ⟨okF, ?_⟩)
        repeat (refine wXh ?_)
        (refine RD_callVS rfl rfl (hS _ _ (Hv.lel memF (by omega)) (Hv.lel memF (by omega))) rfl rfl rfl ?_; rintro _ _ _ ⟨rfl, rfl, rfl⟩; refine ⟨okF, ?_⟩)
        repeat (refine wXh ?_)
        refine ND_ret1 (by first | exact .inl rfl | exact .inr rfl) rfl rfl _ _ subF incF (⟨rfl, rfl, congrArg Value.bool (B_false (fun e => he (q_at e hi2))).symm⟩)
    · repeat (refine wXh ?_)
      refine ND_ret1 (by first | exact .inl rfl | exact .inr rfl) rfl rfl _ _ subF incF (⟨rfl, rfl, congrArg Value.bool (B_true (q_ext hlen (fun j hj => hs j (by omega)))).symm⟩)
  · refine enterD3 Tryz.func176 rfl Tryz.ntmps176 rfl ?_
    repeat (refine wXh ?_)
    refine ND_ret1 (by first | exact .inl rfl | exact .inr rfl) rfl rfl _ _ subF incF (⟨rfl, rfl, congrArg Value.bool (B_false (fun e => hlen (by have := congrArg List.length e; simpa using this))).symm⟩)
theorem sameList05_ok {x y : RL} {k m : Nat} (hk : k + m + 1 ≤ 100000000) (lx : x.es.length ≤ 1000) (ly : y.es.length ≤ 1000) (hx : isL x k ∈ I0) (hy : isL y m ∈ I0) :
    CD Tryz.prog 73 [lv x, lv y] X w0 M0 I0 (fun v M I => M0 = M ∧ I0 = I ∧ v = .bool (B (x.q = y.q))) := by
  refine enterD2 Tryz.func73 rfl Tryz.ntmps73 rfl ?_
  repeat (refine wXh ?_)
  (refine RD_callS rfl (msameList_ok (k := k) (m := m) hk lx ly memF memF) rfl rfl ?_; rintro _ _ _ ⟨rfl, rfl, rfl⟩; refine ⟨okF, ?_⟩)
  repeat (refine wXh ?_)
  refine ND_ret1 (by first | exact .inl rfl | exact .inr rfl) rfl rfl _ _ subF incF (⟨rfl, rfl, rfl⟩)
theorem same1_ok {x y : RL} {k m : Nat} (hk : k + m + 1 ≤ 100000000) (lx : x.es.length ≤ 1000) (ly : y.es.length ≤ 1000) (hx : Hv I0 (isL x k)) (hy : Hv I0 (isL y m)) :
    CD Tryz.prog 157 [lv x, lv y] X w0 M0 I0 (fun v M I => M0 = M ∧ I0 = I ∧ v = .bool (B (x.q = y.q))) := by
  refine CD_hvV hx (CD_hvV (φ := isL y m) (hy.cons) ?_)
  have := fun M0 I0 h1 h2 => sameList05_ok (X := X) (w0 := w0) (M0 := M0) (I0 := I0) (x := x) (y := y) (k := k) (m := m) hk lx ly h1 h2
  refine enterD2 Tryz.func157 rfl Tryz.ntmps157 rfl ?_
  repeat (refine wXh ?_)
  (refine RD_callS rfl (this _ _ memF memF) rfl rfl ?_; rintro _ _ _ ⟨rfl, rfl, rfl⟩; refine ⟨okF, ?_⟩)
  repeat (refine wXh ?_)
  refine ND_ret1 (by first | exact .inl rfl | exact .inr rfl) rfl rfl _ _ subF incF (⟨rfl, rfl, rfl⟩)
theorem mq_ext {a b : MX} (hl : a.rows.length = b.rows.length) (h : ∀ j : Nat, j < a.rows.length → (gt a.rows (j : Int)).q = (gt b.rows (j : Int)).q) : a.q = b.q := by
  apply List.ext_getElem
  · simp [hl]
  · intro j h1 h2
    have hj : j < a.rows.length := by simpa using h1
    have := h j hj
    rw [gt_lt hj, gt_lt (by omega)] at this
    simpa using this
theorem mq_row {a b : MX} (h : a.q = b.q) {j : Nat} (hj : j < a.rows.length) : (gt a.rows (j : Int)).q = (gt b.rows (j : Int)).q := by
  have hl : a.rows.length = b.rows.length := by have := congrArg List.length h; simpa using this
  rw [← rowAt_q hj, ← rowAt_q (by omega), h]
set_option maxRecDepth 100000 in
theorem same05_ok {a b : MX} {R C R' C' k m : Nat} (hk : k + m + 1 ≤ 100000000) (da : a.dim R C) (db : b.dim R' C') (hR : R ≤ 1000 ∧ C ≤ 1000 ∧ R' ≤ 1000 ∧ C' ≤ 1000) (ha : isX a k ∈ I0) (hb : isX b m ∈ I0) :
    CD Tryz.prog 59 [mv a, mv b] X w0 M0 I0 (fun v M I => M0 = M ∧ I0 = I ∧ v = .bool (B (a.q = b.q))) := by
  have la := da.1
  have lb := db.1
  have hE : CD Tryz.prog 156 [mv a, mv b, .func (.func 157) #[] #[]] X w0 M0 I0 (fun v M I => M0 = M ∧ I0 = I ∧ v = .bool (B (a.q = b.q))) := by
    refine CD_hv (φ := slI (a).p (recs eL (a).rows)) (Hv.xsl memF) ?_
    refine CD_hv (φ := slI (b).p (recs eL (b).rows)) (Hv.xsl memF) ?_
    by_cases hlen : a.rows.length = b.rows.length
    · refine enterD3 Tryz.func156 rfl Tryz.ntmps156 rfl ?_
      repeat (refine wXh ?_)
      refine TD_loop [1, 2, 15, 16] rfl (fun k G M I => ∃ i : Nat, i ≤ a.rows.length ∧ k = a.rows.length - i ∧ (∀ j : Nat, j < i → (gt a.rows (j : Int)).q = (gt b.rows (j : Int)).q) ∧ G = [(17, .int .i64 i)] ∧ M0 = M ∧ I = slI b.p (recs eL b.rows) :: slI a.p (recs eL a.rows) :: I0) (a.rows.length) _ _ _ subG subF incF (⟨0, by omega, rfl, fun j hj => by omega, rfl, rfl, rfl⟩) ?_
      rintro kk G M I ⟨i, hi, rfl, hs, rfl, rfl, rfl⟩
      by_cases hi2 : i < a.rows.length
      · have c1 := da.row (i := i) (by omega)
        have c2 := db.row (i := i) (by omega)
        have hS := fun M0 I0 h1 h2 => same1_ok (X := X) (w0 := w0) (M0 := M0) (I0 := I0) (x := gt a.rows (i : Int)) (y := gt b.rows (i : Int)) (k := k) (m := m) hk (by omega) (by omega) h1 h2
        by_cases he : (gt a.rows (i : Int)).q = (gt b.rows (i : Int)).q
        · rw [B_true he] at hS
          repeat (refine wXh ?_)
          (refine RD_callVS rfl rfl (hS _ _ (Hv.xrow memF (by omega)) (Hv.xrow memF (by omega))) rfl rfl rfl ?_; rintro _ _ _ ⟨rfl, rfl, rfl⟩; refine ⟨okF, ?_⟩)
          repeat (refine wXh ?_)
          refine ND_again (a.rows.length - (i + 1)) _ _ _ (by first | omega | (simp only [List.length_append, List.length_cons, List.length_nil]; omega)) subG subF incF (⟨i + 1, by omega, rfl, fun j hj => ?_, rfl, rfl, rfl⟩)
          by_cases e : j = i
          · subst e; exact he
          · exact hs j (by omega)
        · rw [B_false he] at hS
          repeat (refine wXh ?_)
          (refine RD_callVS rfl rfl (hS _ _ (Hv.xrow memF (by omega)) (Hv.xrow memF (by omega))) rfl rfl rfl ?_; rintro _ _ _ ⟨rfl, rfl, rfl⟩; refine ⟨okF, ?_⟩)
          repeat (refine wXh ?_)
          refine ND_ret1 (by first | exact .inl rfl | exact .inr rfl) rfl rfl _ _ subF incF (⟨rfl, rfl, congrArg Value.bool (B_false (fun e => he (mq_row e hi2))).symm⟩)
      · repeat (refine wXh ?_)
        refine ND_ret1 (by first | exact .inl rfl | exact .inr rfl) rfl rfl _ _ subF incF (⟨rfl, rfl, congrArg Value.bool (B_true (mq_ext hlen (fun j hj => hs j (by omega)))).symm⟩)
    · refine enterD3 Tryz.func156 rfl Tryz.ntmps156 rfl ?_
      repeat (refine wXh ?_)
      refine ND_ret1 (by first | exact .inl rfl | exact .inr rfl) rfl rfl _ _ subF incF (⟨rfl, rfl, congrArg Value.bool (B_false (fun e => hlen (by have := congrArg List.length e; simpa using this))).symm⟩)
  refine enterD2 Tryz.func59 rfl Tryz.ntmps59 rfl ?_
  repeat (refine wXh ?_)
  (refine RD_callS rfl (hE) rfl rfl ?_; rintro _ _ _ ⟨rfl, rfl, rfl⟩; refine ⟨okF, ?_⟩)
  repeat (refine wXh ?_)
  refine ND_ret1 (by first | exact .inl rfl | exact .inr rfl) rfl rfl _ _ subF incF (⟨rfl, rfl, rfl⟩)
end
end Go.Proofs.YtdmlebigkakplaaGreat
namespace Go.Proofs.YtdmlebigkakplaaGreat
open Go Go.Fx
structure AllIL (rows : List IL) (X : List Nat) (w : World) : Prop where
  go : ∀ r ∈ rows, Sl X w r.p (recs (eI .i64) r.xs)
abbrev allIL (rows : List IL) : Imm := AllIL rows
instance (rows : List IL) : Fx.Good (AllIL rows) := ⟨fun X Y w w' h he hY => ⟨fun r hm => Sl.carry (h.go r hm) he hY⟩⟩
theorem Hv.ilrow {I : List Imm} {rows : List IL} {i : Int} (h : allIL rows ∈ I) (hi : 0 ≤ i ∧ i < rows.length) : Hv I (slI (gt rows i).p (recs (eI .i64) (gt rows i).xs)) := ⟨fun X w hw => ⟨(hw _ h : AllIL rows X w).go _ (gt_mem hi)⟩⟩
abbrev bxI (b : Nat) (q : Option Addr) (n c : Nat) : Imm := slI (some ⟨b, 0, none⟩) [.slice q n c]
section
variable {X : List Nat} {w0 : World} {M0 : List Ent} {I0 : List Imm}
set_option maxRecDepth 100000 in
theorem Of1_ok {rows : List IL} {q : Option Addr} {c b : Nat} {r : IL} (hR : 1 ≤ rows.length) (hq : slI q (recs eIL rows) ∈ I0) (hb : bxI b q rows.length c ∈ I0) :
    CD Tryz.prog 215 [ivL r, pb b] X w0 M0 I0 (fun v M I => M0 = M ∧ I0 = I ∧ v = .bool (B (¬ (r.xs.length = (gt rows 0).xs.length)))) := by
  by_cases he : r.xs.length = (gt rows 0).xs.length
  · rw [B_false (fun h => h he)]
    refine enterD2 Tryz.func215 rfl Tryz.ntmps215 rfl ?_
    repeat (refine wXh ?_)
    refine ND_ret1 (by first | exact .inl rfl | exact .inr rfl) rfl rfl _ _ subF incF (⟨rfl, rfl, congrArg Value.bool (B_false (fun h => h (by omega)))⟩)
  · rw [B_true (p := ¬ (r.xs.length = (gt rows 0).xs.length)) he]
    refine enterD2 Tryz.func215 rfl Tryz.ntmps215 rfl ?_
    repeat (refine wXh ?_)
    refine ND_ret1 (by first | exact .inl rfl | exact .inr rfl) rfl rfl _ _ subF incF (⟨rfl, rfl, congrArg Value.bool (B_true (p := (r.xs.length : Int) ≠ ((gt rows 0).xs.length : Int)) (fun h => he (by omega)))⟩)
set_option maxRecDepth 100000 in
theorem Of2_ok {rows : List IL} {q : Option Addr} {c b i j k0 : Nat} (hi : i < rows.length) (hj : j < (gt rows (i : Int)).xs.length) (hx : (gt (gt rows (i : Int)).xs (j : Int)).natAbs ≤ 2 ^ k0 ∧ -9223372036854775808 ≤ gt (gt rows (i : Int)).xs (j : Int) ∧ gt (gt rows (i : Int)).xs (j : Int) ≤ 9223372036854775807) (hq : slI q (recs eIL rows) ∈ I0) (hw : allIL rows ∈ I0) (hb : bxI b q rows.length c ∈ I0) :
    CD Tryz.prog 216 [.int .i64 (i : Int), .int .i64 (j : Int), pb b] X w0 M0 I0 (RQ ((gt (gt rows (i : Int)).xs (j : Int) : Int) : Rat) k0 M0 I0) := by
  refine CD_hv (φ := slI (gt rows (i : Int)).p (recs (eI .i64) (gt rows (i : Int)).xs)) (Hv.ilrow hw (by omega)) ?_
  refine enterD3 Tryz.func216 rfl Tryz.ntmps216 rfl ?_
  refine TD_seq ?_
  refine TD_region ?_
  (refine RD_alloc rfl rfl ?_; intro br; refine ⟨okF, ?_⟩)
  repeat (refine wXh ?_)
  (refine RD_callS rfl (Whole_ok (x := gt (gt rows (i : Int)).xs (j : Int)) hx.2 (k := k0) hx.1) rfl rfl ?_; rintro _ _ _ ⟨rfl, e, rfl, he, rfl⟩; refine ⟨okF, ?_⟩)
  repeat (refine wXh ?_)
  refine ND_retC (cs := eR e) (.inl rfl) rfl rfl memF rfl M0 (isR e k0 :: I0) subF incF ⟨rfl, e, rfl, he, rfl⟩
set_option maxRecDepth 100000 in
theorem XOf_ok {rows : List IL} {R C k0 : Nat} {q : Option Addr} {c : Nat} (hl : rows.length = R) (hc : ∀ r ∈ rows, r.xs.length = C) (hR : 1 ≤ R ∧ R ≤ 64) (hC : 1 ≤ C ∧ C ≤ 64)
    (hx : ∀ r ∈ rows, ∀ x ∈ r.xs, x.natAbs ≤ 2 ^ k0 ∧ -9223372036854775808 ≤ x ∧ x ≤ 9223372036854775807) (hq : slI q (recs eIL rows) ∈ I0) (hw : allIL rows ∈ I0) :
    CD Tryz.prog 136 [.slice q rows.length c] X w0 M0 I0 (XQc (mkM R C (fun i j => ((gt (gt rows (i : Int)).xs (j : Int) : Int) : Rat))) R C k0 M0 I0) := by
  have hcg : ∀ i : Nat, i < R → (gt rows (i : Int)).xs.length = C := fun i hi => hc _ (gt_mem (by omega))
  have hc0 : (gt rows 0).xs.length = C := hcg 0 (by omega)
  have hno : ¬ ∃ x ∈ rows, ¬ (x.xs.length = (gt rows 0).xs.length) := fun ⟨x, hx, hn⟩ => hn (by rw [hc x hx, hc0])
  refine enterD1 Tryz.func136 rfl Tryz.ntmps136 rfl ?_
  refine TD_seq ?_
  refine TD_region ?_
  (refine RD_boxL rfl rfl rfl ?_; intro p1; refine ⟨okF, ?_⟩)
  repeat (refine wXh ?_)
  (refine RD_callS rfl (hasIL_ok (g := 215) (fs := #[]) (cs := #[pb p1]) (fun (r : IL) => ¬ (r.xs.length = (gt rows 0).xs.length)) (by omega) memF (fun i hi => Of1_ok (q := q) (c := c) (b := p1) (by omega) memF memF)) rfl rfl ?_; rintro _ _ _ ⟨rfl, rfl, rfl⟩; refine ⟨okF, ?_⟩)
  rw [B_false hno]
  repeat (refine wXh ?_)
  (repeat refine TD_seq ?_); refine TD_drawn [0, 1, 2, 3, 4, 5, 6, 7, 8, 9] [1, 0, 1, 1, 1, 0, 0, 0, 0, 0] mixed (by kernel_rfl) ?_
  repeat (refine wXh ?_)
  have hg := fun M I (hI : ∀ φ ∈ slI (some ⟨p1, 0, none⟩) [.slice q rows.length c] :: I0, φ ∈ I) (i j : Nat) (hi : i < rows.length) (hj : j < (gt rows 0).xs.length) => Of2_ok (X := X) (w0 := w0) (M0 := M) (I0 := I) (rows := rows) (q := q) (c := c) (b := p1) (i := i) (j := j) (k0 := k0) hi (by rw [hcg i (by omega)]; omega) (hx _ (gt_mem (by omega)) _ (gt_mem (by rw [hcg i (by omega)]; omega))) (hI _ memF) (hI _ memF) (hI _ memF)
  (refine RD_callS rfl (xmade_ok (R := rows.length) (C := (gt rows 0).xs.length) (g := 216) (fs := #[]) (cs := #[pb p1]) (k0 := k0) (by omega) (by omega) (fun i j => ((gt (gt rows (i : Int)).xs (j : Int) : Int) : Rat)) hg) rfl rfl ?_; rintro _ _ _ ⟨rfl, x, rfl, hx2, hd, rfl⟩; refine ⟨okF, ?_⟩)
  rw [hl, hc0] at hx2 hd
  repeat (refine wXh ?_)
  refine ND_rets [2, 3] (by first | exact .inl rfl | exact .inr rfl) rfl rfl rfl _ _ subF incF (⟨rfl, x, rfl, hx2, hd, rfl⟩)
end
end Go.Proofs.YtdmlebigkakplaaGreat
namespace Go.Proofs.YtdmlebigkakplaaGreat
open Go Go.Fx
def kA : Mt := [[((2 : Int) : Rat), ((1 : Int) : Rat)], [((1 : Int) : Rat), ((1 : Int) : Rat)]]
def kC : Mt := [[((1 : Int) : Rat), ((-1 : Int) : Rat)], [((-1 : Int) : Rat), ((2 : Int) : Rat)]]
theorem kA_det : dt 2 (at2 kA) = ((1 : Int) : Rat) := by decide +kernel
theorem kA_ne : ¬ dt 2 (at2 kA) = 0 := by decide +kernel
theorem kA_inv : invM 2 kA = kC := by decide +kernel
theorem Hv.il2 {I : List Imm} {a b : IL} (h1 : slI a.p (recs (eI .i64) a.xs) ∈ I) (h2 : slI b.p (recs (eI .i64) b.xs) ∈ I) : Hv I (allIL [a, b]) := ⟨fun X w hw => ⟨fun p hp => by
  simp only [List.mem_cons, List.not_mem_nil, or_false] at hp
  rcases hp with rfl | rfl
  · exact (hw _ h1 : SlI _ _ X w).go
  · exact (hw _ h2 : SlI _ _ X w).go⟩⟩
section
variable {X : List Nat} {w0 : World} {M0 : List Ent} {I0 : List Imm}
theorem known_of {b1 b2 b3 : Nat} {x1 x2 y1 y2 : Int} (h1 : slI (some ⟨b1, 0, none⟩) (recs (eI .i64) [x1, x2]) ∈ I0) (h2 : slI (some ⟨b2, 0, none⟩) (recs (eI .i64) [y1, y2]) ∈ I0) (h3 : slI (some ⟨b3, 0, none⟩) (recs eIL [(⟨some ⟨b1, 0, none⟩, 2, [x1, x2]⟩ : IL), ⟨some ⟨b2, 0, none⟩, 2, [y1, y2]⟩]) ∈ I0)
    (hb : ∀ z ∈ [x1, x2, y1, y2], z.natAbs ≤ 2) :
    CD Tryz.prog 136 [.slice (some ⟨b3, 0, none⟩) 2 2] X w0 M0 I0 (XQc [[(x1 : Rat), (x2 : Rat)], [(y1 : Rat), (y2 : Rat)]] 2 2 1 M0 I0) := by
  refine CD.post (K := XQc [[(x1 : Rat), (x2 : Rat)], [(y1 : Rat), (y2 : Rat)]] 2 2 1 M0 (allIL [(⟨some ⟨b1, 0, none⟩, 2, [x1, x2]⟩ : IL), ⟨some ⟨b2, 0, none⟩, 2, [y1, y2]⟩] :: I0)) (CD_hv (φ := allIL [(⟨some ⟨b1, 0, none⟩, 2, [x1, x2]⟩ : IL), ⟨some ⟨b2, 0, none⟩, 2, [y1, y2]⟩]) (Hv.il2 h1 h2) ?_) (fun v M I w h hw => ?_)
  · exact XOf_ok (rows := [(⟨some ⟨b1, 0, none⟩, 2, [x1, x2]⟩ : IL), ⟨some ⟨b2, 0, none⟩, 2, [y1, y2]⟩]) (R := 2) (C := 2) (k0 := 1) rfl (fun r hr => by simp at hr; rcases hr with rfl | rfl <;> rfl) (by omega) (by omega) (fun r hr x hx => by
      have : x.natAbs ≤ 2 := hb x (by simp at hr; rcases hr with rfl | rfl <;> (simp at hx ⊢; rcases hx with rfl | rfl <;> simp))
      refine ⟨this, by omega, by omega⟩) (List.Mem.tail _ h3) (List.Mem.head _)
  · obtain ⟨rfl, x, rfl, hx, hd, rfl⟩ := h
    exact ⟨M0, isX x 1 :: I0, ⟨rfl, x, rfl, hx, hd, rfl⟩, hw.inc (.of fun φ hφ => by
      rcases List.mem_cons.1 hφ with rfl | hφ
      · exact List.Mem.head _
      · exact List.Mem.tail _ (List.Mem.tail _ hφ))⟩
set_option maxRecDepth 100000 in
set_option maxHeartbeats 2000000 in
theorem known05_ok : CD Tryz.prog 49 [] X w0 M0 I0 (fun v M I => M0 = M ∧ I0 = I ∧ v = .bool true) := by
  have hW := fun M0 I0 => rQWhole_ok (X := X) (w0 := w0) (M0 := M0) (I0 := I0) (x := 1) (by decide) (k := 0) (by decide)
  have hN : ∀ M0 I0, CD Tryz.prog 61 [.slice none 0 0] X w0 M0 I0 (fun v M I => M0 = M ∧ I0 = I ∧ v = .int .i64 1) := fun M0 I0 => by
    refine CD_hvV (φ := isWM ⟨none, 0, []⟩) ⟨fun X w _ => ⟨Sl.nil _ _ _, fun r hr => by simp at hr, ⟨Nat.le_refl _, .inr ⟨rfl, rfl⟩⟩⟩⟩ ?_
    have := Check_ok (X := X) (w0 := w0) (M0 := M0) (I0 := isWM ⟨none, 0, []⟩ :: I0) (m := ⟨none, 0, []⟩) ⟨by show 0 ≤ 1000000; omega, fun r hr => by simp at hr⟩ (List.Mem.head _)
    rw [WM.code_no (fun e => by have := e.1.1; simp at this)] at this
    exact this
  refine enterD0 Tryz.func49 rfl Tryz.ntmps49 rfl ?_
  repeat (refine wXh ?_)
  (refine RD_vals (cs := recs (eI .i64) [2, 1]) ([.int .i64 2, .int .i64 1]) rfl rfl (by intro v hv; repeat (first | exact absurd hv (List.not_mem_nil) | (rcases List.mem_cons.1 hv with rfl | hv; · rfl))) (by omega) rfl rfl rfl ?_; intro a1; refine ⟨okF, ?_⟩)
  refine RD_freezeB .here ?_
  repeat (refine wXh ?_)
  (refine RD_vals (cs := recs (eI .i64) [1, 1]) ([.int .i64 1, .int .i64 1]) rfl rfl (by intro v hv; repeat (first | exact absurd hv (List.not_mem_nil) | (rcases List.mem_cons.1 hv with rfl | hv; · rfl))) (by omega) rfl rfl rfl ?_; intro a2; refine ⟨okF, ?_⟩)
  refine RD_freezeB .here ?_
  repeat (refine wXh ?_)
  (refine RD_vals (cs := recs eIL [(⟨some ⟨a1, 0, none⟩, 2, [2, 1]⟩ : IL), ⟨some ⟨a2, 0, none⟩, 2, [1, 1]⟩]) ([.slice (some ⟨a1, 0, none⟩) 2 2, .slice (some ⟨a2, 0, none⟩) 2 2]) rfl rfl (by intro v hv; repeat (first | exact absurd hv (List.not_mem_nil) | (rcases List.mem_cons.1 hv with rfl | hv; · rfl))) (by omega) rfl rfl rfl ?_; intro a3; refine ⟨okF, ?_⟩)
  refine RD_freezeB .here ?_
  repeat (refine wXh ?_)
  (refine RD_callS rfl (known_of (b1 := a1) (b2 := a2) (b3 := a3) (x1 := 2) (x2 := 1) (y1 := 1) (y2 := 1) memF memF memF (by decide)) rfl rfl ?_; rintro _ _ _ ⟨rfl, a, rfl, hx, hd, rfl⟩; refine ⟨okF, ?_⟩)
  have hxA : a.q = kA := hx
  have hI := fun M0 I0 h => XInverse_all (X := X) (w0 := w0) (M0 := M0) (I0 := I0) (a := a) (n := 2) (k0 := 1) (by decide) (by decide) ⟨hd, by omega, by omega⟩ h
  have hD := fun M0 I0 h => XDeterminant_ok (X := X) (w0 := w0) (M0 := M0) (I0 := I0) (a := a) (n := 2) (k0 := 1) (by decide) (by decide) ⟨hd, by omega, by omega⟩ h
  rw [hxA, kA_det] at hD
  rw [hxA] at hI
  simp only [if_neg kA_ne, kA_inv] at hI
  repeat (refine wXh ?_)
  (refine RD_callS rfl (hI _ _ memF) rfl rfl ?_; rintro _ _ _ ⟨rfl, b, rfl, hb, hbd, rfl⟩; refine ⟨okF, ?_⟩)
  repeat (refine wXh ?_)
  (refine RD_vals (cs := recs (eI .i64) [1, -1]) ([.int .i64 1, .int .i64 (-1)]) rfl rfl (by intro v hv; repeat (first | exact absurd hv (List.not_mem_nil) | (rcases List.mem_cons.1 hv with rfl | hv; · rfl))) (by omega) rfl rfl rfl ?_; intro c1; refine ⟨okF, ?_⟩)
  refine RD_freezeB .here ?_
  repeat (refine wXh ?_)
  (refine RD_vals (cs := recs (eI .i64) [-1, 2]) ([.int .i64 (-1), .int .i64 2]) rfl rfl (by intro v hv; repeat (first | exact absurd hv (List.not_mem_nil) | (rcases List.mem_cons.1 hv with rfl | hv; · rfl))) (by omega) rfl rfl rfl ?_; intro c2; refine ⟨okF, ?_⟩)
  refine RD_freezeB .here ?_
  repeat (refine wXh ?_)
  (refine RD_vals (cs := recs eIL [(⟨some ⟨c1, 0, none⟩, 2, [1, -1]⟩ : IL), ⟨some ⟨c2, 0, none⟩, 2, [-1, 2]⟩]) ([.slice (some ⟨c1, 0, none⟩) 2 2, .slice (some ⟨c2, 0, none⟩) 2 2]) rfl rfl (by intro v hv; repeat (first | exact absurd hv (List.not_mem_nil) | (rcases List.mem_cons.1 hv with rfl | hv; · rfl))) (by omega) rfl rfl rfl ?_; intro c3; refine ⟨okF, ?_⟩)
  refine RD_freezeB .here ?_
  repeat (refine wXh ?_)
  (refine RD_callS rfl (known_of (b1 := c1) (b2 := c2) (b3 := c3) (x1 := 1) (x2 := -1) (y1 := -1) (y2 := 2) memF memF memF (by decide)) rfl rfl ?_; rintro _ _ _ ⟨rfl, c, rfl, hc, hcd, rfl⟩; refine ⟨okF, ?_⟩)
  repeat (refine wXh ?_)
  (refine RD_callS rfl (hD _ _ memF) rfl rfl ?_; rintro _ _ _ ⟨rfl, d, rfl, hd1, rfl⟩; refine ⟨okF, ?_⟩)
  repeat (refine wXh ?_)
  (refine RD_alloc rfl rfl ?_; intro b6; refine ⟨okF, ?_⟩)
  repeat (refine wXh ?_)
  have hS := fun M0 I0 h1 h2 => same05_ok (X := X) (w0 := w0) (M0 := M0) (I0 := I0) (a := b) (b := c) (k := kb 1 2) (m := 1) (by decide) hbd hcd (by omega) h1 h2
  rw [B_true (show b.q = c.q by rw [hb, hc]; rfl)] at hS
  (repeat refine TD_seq ?_); refine TD_drawn [0, 1, 2, 3, 4, 5, 6, 7, 8, 9, 10, 11, 12, 13, 14, 15, 16, 17, 18, 19, 20, 21, 22, 23, 24] [4, 4, 4, 4, 4, 4, 4, 4, 4, 4, 3, 3, 3, 0, 3, 1, 2, 0, 0, 1, 0, 0, 0, 0, 0] mixed (by kernel_rfl) ?_
  repeat (refine wXh ?_)
  (refine RD_callS rfl (hS _ _ memF memF) rfl rfl ?_; rintro _ _ _ ⟨rfl, rfl, rfl⟩; refine ⟨okF, ?_⟩)
  repeat (refine wXh ?_)
  (refine RD_callS rfl (hW _ _) rfl rfl ?_; rintro _ _ _ ⟨rfl, e1, rfl, he1, rfl⟩; refine ⟨okF, ?_⟩)
  repeat (refine wXh ?_)
  have hSa := fun M0 I0 h1 h2 => rSame_ok (X := X) (w0 := w0) (M0 := M0) (I0 := I0) (a := d) (b := e1) (k := kb 1 2) (m := 0) (by decide) h1 h2
  rw [B_true (show d.q = e1.q by rw [hd1, he1])] at hSa
  (refine RD_callS rfl (hSa _ _ (Hv.mem memF) (Hv.mem memF)) rfl rfl ?_; rintro _ _ _ ⟨rfl, rfl, rfl⟩; refine ⟨okF, ?_⟩)
  repeat (refine wXh ?_)
  (refine RD_callS rfl (hN _ _) rfl rfl ?_; rintro _ _ _ ⟨rfl, rfl, rfl⟩; refine ⟨okF, ?_⟩)
  repeat (refine wXh ?_)
  refine ND_ret1 (by first | exact .inl rfl | exact .inr rfl) rfl rfl _ _ subF incF (⟨rfl, rfl, congrArg Value.bool (B_true rfl)⟩)
end
end Go.Proofs.YtdmlebigkakplaaGreat
